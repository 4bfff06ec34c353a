/- Texts of the proof: Se2, Se3, Se5, Sc1, Lsc, Sc2, Eng34, Sc3, Sc4, Sc5, Sc7, Sc10, Sp2. -/
import Derived.Test.YtligngjcnlbgmaaL26hb4
import Derived.Test.YtligngjcnlbgmaaShelf
set_option linter.unusedSimpArgs false
set_option linter.unusedVariables false
namespace Go.Proofs.Ytligngjcnlbgmaa
open Go.RowKit Go.Shelf
set_option maxRecDepth 100000
theorem stream_ok (bk : Nat) (k : List Int) (hkl : k.length ≤ 999999000) (hkb : Byt k) (pn : Option Addr) (nl cn : Nat) (nonce : List Int) (hnl : nl = nonce.length) (hn32 : nl ≤ 32) (hnb : Byt nonce) (n : Nat) (hn : n ≤ 65536) (w : World) (hk : KeyR w bk k) (hpn : RdSl w pn u8V nonce) :
    CallM Try.prog 37 [.pointer (some ⟨bk, 0, none⟩), .slice pn nl cn, .int .i64 n] [] w fun v L => ∃ ov W, OvOk 1 ov W.length (u8s W) ∧ n ≤ W.length ∧ W.take n = strmI k nonce n ∧ v = .tuple #[.slice (ovp ov) n n, .int .i64 0] ∧ L = blkL 5 ov (u8s W) := by
  subst hnl
  have hck := scheck_ok bk pn nonce.length cn hn32
  have hdr := fun w1 (hc : Chg [] w w1) => derive_ok bk k hkl hkb sHide (by decide) none 0 0 [] rfl (by decide) (by simp) (by simp [frameI, len4, strI, sHide]) (by simp) w1 (hk.chg hc) (.inl rfl) (by simp)
  simp only [List.map_nil] at hdr
  have hdl := derive_len k sHide []
  have hdb := derive_byt k sHide []
  have hst : strmI k nonce n = (strmB (deriveI k sHide []) nonce ((n + 31) / 32)).take n := rfl
  generalize deriveI k sHide [] = k2 at *
  refine enterK (tb := tb) Try.func37 rfl Try.ntmps37 rfl ?_
  repeat' (first | (apply R.is1; first | (apply R.isBin; (apply R.pure; exact rfl; first | (apply Ok1.lss_f; exact rfl; exact rfl; omega) | (apply Ok1.gtr_f; exact rfl; exact rfl; omega) | (apply Ok1.neq_f; exact rfl; exact rfl; omega))) | (apply R.isCall; first | apply R.callP rfl rfl rfl hck | (apply R.callE (vs := [.pointer (some ⟨bk, 0, none⟩), .string sHide, .slice none 0 0]); (iterate 3 exact rfl); exact Ext.none _; intro w1 hw1; exact hdr w1 hw1.chg; rintro v Lo ⟨bd, ovd, rfl, hovd, rfl⟩)) | (apply R.pure; exact rfl; first | (apply Ok1.move; exact rfl) | (apply Ok1.assign; exact rfl))) | apply R.nil | (apply T.is; first | apply T.seq | apply T.region | apply T.block | apply T.skip | (apply T.cond_f; exact rfl)))
  have hkd : KL bd ovd k2 = KL bd ovd k2 := rfl
  generalize hKL : KL bd ovd k2 = LK at *
  have hKR : ∀ L w1, Hp w [] L w1 → (∀ z ∈ LK, z ∈ L) → KeyR w1 bd k2 := fun L w1 h1 h2 => KeyR.of (by rw [hdl]; exact hovd) h1 (hKL ▸ h2)
  apply T.loopK (α := Nat × Ov) (I := fun y => 32 * y.1 < n + 32 ∧ OvOk 1 y.2 (32 * y.1) (u8s (strmB k2 nonce y.1))) (σi := fun y => [(0, .pointer (some ⟨bk, 0, none⟩)), (1, .slice pn nonce.length cn), (2, .int .i64 n), (9, .pointer (some ⟨bd, 0, none⟩)), (10, slV y.2 (32 * y.1)), (11, .int .i64 y.1)]) (Li := fun y => LK ++ blkL 5 y.2 (u8s (strmB k2 nonce y.1))) (μ := fun y => n + 32 - 32 * y.1) (i0 := (0, none))
  · exact ⟨by omega, OvOk.start 1⟩
  · exact ⟨rfl, rfl, rfl, rfl, rfl, rfl, trivial⟩
  · simp only [blkL, List.append_nil]
    (focus ((repeat' (first | exact Ext.all _ | apply Keep.last)); done))
  · rintro ⟨i, ov⟩ ⟨hi, hov⟩
    simp only at hi hov ⊢
    by_cases hlt : 32 * i < n
    · have hfo := fun w1 => four_ok (i : Int) (by omega) (by omega) w1
      have htg : ∀ L w1 b1 b3 b4, Hp w [] L w1 → (∀ z ∈ LK, z ∈ L) → (b1, Obj.cells ⟨[.int .u8 nonce.length]⟩ 5 (0, 0)) ∈ L → (b4, Obj.cells ⟨u8s (len4 i)⟩ 5 (0, 0)) ∈ L → (b3, Obj.cells ⟨[.slice (some ⟨b1, 0, none⟩) 1 1, .slice pn nonce.length cn, .slice (some ⟨b4, 0, none⟩) 4 4]⟩ 22 (0, 0)) ∈ L → CallW Try.prog 48 [.pointer (some ⟨bd, 0, none⟩), .slice (some ⟨b3, 0, none⟩) 3 3] w1 fun v _ => v = .agg ⟨u8s (strm1 k2 nonce i)⟩ := by
        intro L w1 b1 b3 b4 hw h1 h2 h3 h4
        have hct : cat [⟨some ⟨b1, 0, none⟩, 1, [(nonce.length : Int)]⟩, ⟨pn, cn, nonce⟩, ⟨some ⟨b4, 0, none⟩, 4, len4 i⟩] = (nonce.length : Int) :: (nonce ++ len4 i) := by simp [cat]
        have h := ktag_ok bd k2 (by rw [hdl]; decide) hdb (some ⟨b3, 0, none⟩) 3 3 [⟨some ⟨b1, 0, none⟩, 1, [(nonce.length : Int)]⟩, ⟨pn, cn, nonce⟩, ⟨some ⟨b4, 0, none⟩, 4, len4 i⟩] rfl ?_ ?_ (by decide) w1 (hKR L w1 hw h1) (RdSl.ofMem (junk := []) hw h4 rfl) ?_
        · rw [hct] at h
          exact h
        · rw [hct]
          intro y hy
          rcases List.mem_cons.1 hy with rfl | hy
          · omega
          · rcases List.mem_append.1 hy with hy | hy
            · exact hnb y hy
            · exact len4_byt _ y hy
        · rw [hct]
          simp [len4]
          omega
        · intro x hx
          simp only [List.mem_cons, List.not_mem_nil, or_false] at hx
          rcases hx with rfl | rfl | rfl
          · exact RdSl.ofMem (junk := []) hw h2 rfl
          · exact hpn.chg' hw.chg (fun _ => Off.nil _)
          · exact RdSl.ofMem (junk := []) hw h3 (by rw [fl_u8, List.append_nil])
      repeat' (first | (apply R.is1; first | (apply R.isBin; (apply R.pure; exact rfl; (apply Ok1.lss_t; exact rfl; exact rfl; omega))) | (apply R.isCall; first | (apply R.pure; exact rfl; apply Ok1.lenOv; (iterate 3 exact rfl); exact hov) | (apply R.callE (vs := [.int .i64 i]); (iterate 3 exact rfl); exact Ext.none _; intro w1 hw1; exact hfo w1; rintro v Lo ⟨b4, rfl, rfl⟩) | (apply R.pure; exact rfl; (apply Ok1.lenS; (iterate 3 exact rfl)))) | (apply R.pure; exact rfl; first | (apply Ok1.move; exact rfl) | (apply Ok1.convU8; (iterate 5 exact rfl); omega; omega)) | (apply R.buildSlice; (iterate 12 exact rfl); intro)) | apply R.nil | (apply T.is; first | apply T.seq | apply T.region | apply T.block | apply T.skip | (apply T.cond_t; exact rfl)))
      rename_i b1 b3
      have hD := strm1_len k2 nonce i
      have hsu := strmB_succ k2 nonce i
      have hbl := strmB_len k2 nonce i
      generalize hDD : strm1 k2 nonce i = D at *
      have hls : (u8s D).length = 32 := by rw [u8s_len, hD]
      have hset : ∀ cs : List Value, cs.length = 32 → setE cs 0 (u8s D) = some (u8s D) := fun cs h => setE_all (by rw [hls, h])
      repeat' (first | (apply R.is1; first | (apply R.isBin; (apply R.pure; exact rfl; (apply Ok1.add64; exact rfl; exact rfl; omega; omega))) | (apply R.isCall; first | (apply R.callW (vs := [.pointer (some ⟨bd, 0, none⟩), .slice (some ⟨b3, 0, none⟩) 3 3]); (iterate 3 exact rfl); intro w1 hw1; exact htg _ w1 b1 b3 b4 hw1 (Ext.mem (by (focus ((repeat' (first | exact Ext.here _ _ | apply Ext.cons)); done)))) (by simp) (by simp) (by simp); rintro v rfl) | (apply R.appendRd (xs := D) (v := u8V) (sz := 1) (ov := ov) (n := 32 * i) (old := u8s (strmB k2 nonce i)); (iterate 12 exact rfl); exact hov; (focus ((repeat' (first | exact Ext.all _ | apply Ext.cons | apply Ext.app)); done)); exact hD.symm; exact u8V_len; exact rfl; (intro w1 hw1; exact RdSl.of (junk := []) hw1 (by exact At.head) (by rw [fl_u8, List.append_nil])); (rw [fl_u8]; exact u8s_one _); omega; intro ov1 hov1 hsome)) | (apply R.pure; exact rfl; first | (apply Ok1.sliceArr; (iterate 4 exact rfl)) | (apply Ok1.move; exact rfl) | (apply Ok1.assign; exact rfl)) | (apply R.alloc; (iterate 3 exact rfl); intro)) | (apply R.is0; (apply R.store; (iterate 4 exact rfl); exact hls; exact u8s_one D; exact Upd.head; exact hset _ rfl)) | apply R.nil | (apply T.is; apply T.region))
      rw [fl_u8, ← u8s_app, ← hsu] at hov1
      rw [fl_u8, ← u8s_app, ← hsu]
      have h32 : 32 * (i + 1) = 32 * i + 32 := by omega
      refine ⟨(i + 1, ov1), ?_⟩
      simp only [h32]
      exact ⟨⟨by omega, hov1⟩, by omega, ⟨rfl, rfl, rfl, rfl, rfl, rfl, trivial⟩, by (focus ((repeat' (first | exact Ext.here _ _ | apply Keep.app | apply Keep.last | apply Ext.cons | apply Ext.app)); done))⟩
    · repeat' (first | (apply R.is1; first | (apply R.isBin; (apply R.pure; exact rfl; (apply Ok1.lss_f; exact rfl; exact rfl; omega))) | (apply R.isCall; (apply R.pure; exact rfl; apply Ok1.lenOv; (iterate 3 exact rfl); exact hov)) | (apply R.pure; exact rfl; first | (apply Ok1.sliceCut; (iterate 4 exact rfl); exact hov; exact rfl; exact rfl; omega; omega) | (apply Ok1.move; exact rfl) | (apply Ok1.assign; exact rfl))) | apply R.nil | (apply T.is; first | apply T.seq | apply T.region | apply T.exit | apply T.ret | (apply T.cond_f; exact rfl)))
      (apply RetOk.tt; exact rfl; exact rfl)
      have hi2 : (n + 31) / 32 = i := by omega
      refine ⟨blkL 5 ov (u8s (strmB k2 nonce i)), by (focus ((repeat' (first | exact Ext.all _ | apply Keep.last | apply Ext.app)); done)), ov, strmB k2 nonce i, by rw [strmB_len]; exact hov, by rw [strmB_len]; omega, by rw [hst, hi2], ?_, rfl⟩
      cases ov with
      | none =>
        have h0 : 32 * i = 0 := hov.2
        have h1 : n = 0 := by omega
        subst h1
        rfl
      | some q => rfl
theorem turn_set {b s : List Int} {i : Nat} {x y : Int} (hx : b[i]? = some x) (hy : s[i]? = some y) (hl : b.length = s.length) : turnI (b.take (i + 1)) (s.take (i + 1)) ++ b.drop (i + 1) = (turnI (b.take i) (s.take i) ++ b.drop i).set i (xorI .u8 x y) := by
  obtain ⟨h1, rfl⟩ := List.getElem?_eq_some_iff.1 hx
  obtain ⟨h2, rfl⟩ := List.getElem?_eq_some_iff.1 hy
  have hti : (turnI (b.take i) (s.take i)).length = i := by
    unfold turnI
    rw [List.length_zipWith, List.length_take, List.length_take]
    omega
  apply List.ext_getElem?
  intro j
  rw [List.getElem?_set]
  have hl2 : (turnI (b.take i) (s.take i) ++ b.drop i).length = b.length := by rw [List.length_append, hti, List.length_drop]; omega
  unfold turnI
  rcases Nat.lt_trichotomy j i with h | h | h
  · rw [if_neg (by omega), List.getElem?_append_left (by rw [List.length_zipWith, List.length_take, List.length_take]; omega), List.getElem?_append_left (by rw [List.length_zipWith, List.length_take, List.length_take]; omega)]
    rw [List.getElem?_zipWith, List.getElem?_zipWith, List.getElem?_take_of_lt (by omega), List.getElem?_take_of_lt (by omega), List.getElem?_take_of_lt (by omega), List.getElem?_take_of_lt (by omega)]
  · subst h
    rw [if_pos rfl, if_pos (by unfold turnI at hl2; rw [hl2]; exact h1), List.getElem?_append_left (by rw [List.length_zipWith, List.length_take, List.length_take]; omega), List.getElem?_zipWith, List.getElem?_take_of_lt (by omega), List.getElem?_take_of_lt (by omega), List.getElem?_eq_getElem h1, List.getElem?_eq_getElem h2]
  · rw [if_neg (by omega), List.getElem?_append_right (by rw [List.length_zipWith, List.length_take, List.length_take]; omega), List.getElem?_append_right (by rw [List.length_zipWith, List.length_take, List.length_take]; omega), List.getElem?_drop, List.getElem?_drop, List.length_zipWith, List.length_zipWith, List.length_take, List.length_take, List.length_take, List.length_take]
    congr 1
    omega
theorem xor8_zero {x : Int} (h : 0 ≤ x ∧ x ≤ 255) : xorI .u8 x 0 = x := by
  have : ∀ n : Fin 256, xorI .u8 (n.val : Int) 0 = (n.val : Int) := by decide +kernel
  have h2 := this ⟨x.toNat, by omega⟩
  simp only at h2
  rw [Int.toNat_of_nonneg h.1] at h2
  exact h2
theorem List.set_getElem?_self9 {α : Type} {Z : List α} {i : Nat} {x : α} (h : Z[i]? = some x) : Z.set i x = Z := by
  obtain ⟨h1, rfl⟩ := List.getElem?_eq_some_iff.1 h
  exact List.set_getElem_self h1
theorem turned_ok (p : Option Addr) (n cap : Nat) (b : List Int) (hn : n = b.length) (hbig : n ≤ 100000000) (hbb : Byt b) (ps : Option Addr) (cs : Nat) (s : List Int) (hs : s.length = b.length) (w : World) (hp : RdSl w p u8V b) (hps : RdSl w ps u8V s) :
    CallM Try.prog 38 [.slice p n cap, .slice ps n cs] [] w fun v L => ∃ ov, OvOk 1 ov n (u8s (turnI b s)) ∧ v = slV ov n ∧ L = blkL 5 ov (u8s (turnI b s)) := by
  subst hn
  have hcl := fun w1 (hc : Chg [] w w1) => bclone_ok p b.length cap b rfl (by omega) w1 (hp.chg' hc (fun _ => Off.nil _))
  refine enterK (tb := tb) Try.func38 rfl Try.ntmps38 rfl ?_
  repeat' (first | (apply R.is1; first | (apply R.isCall; first | (apply R.callE (vs := [.slice p b.length cap]); (iterate 3 exact rfl); exact Ext.none _; intro w1 hw1; exact hcl w1 hw1.chg; rintro v Lo ⟨ov, hov, rfl, rfl⟩) | (apply R.pure; exact rfl; apply Ok1.lenOv; (iterate 3 exact rfl); exact hov)) | (apply R.pure; exact rfl; first | (apply Ok1.move; exact rfl) | (apply Ok1.assign; exact rfl))) | apply R.nil | (apply T.is; first | apply T.seq | apply T.region | apply T.block | apply T.scope | apply T.label))
  cases ov with
  | none =>
    have h0 : b = [] := List.eq_nil_of_length_eq_zero hov.2
    subst h0
    simp only [slV, blkL, List.length_nil]
    repeat' (first | (apply R.is1; first | (apply R.isBin; (apply R.pure; exact rfl; (apply Ok1.lss_f; exact rfl; exact rfl; omega))) | (apply R.pure; exact rfl; first | (apply Ok1.move; exact rfl) | (apply Ok1.assign; exact rfl))) | apply R.nil | (apply T.is; first | apply T.rounds 1 | apply T.seq | apply T.region | apply T.exit | apply T.ret | (apply T.cond_f; exact rfl)))
    (apply RetOk.t; exact rfl)
    exact ⟨_, by (focus ((repeat' (exact Keep.nil _)); done)), none, OvOk.start 1, rfl, rfl⟩
  | some q =>
    obtain ⟨bq, j, junk⟩ := q
    simp only [slV, blkL]
    apply T.loopK (α := Nat) (I := fun i => i ≤ b.length) (σi := fun i => [(0, .slice p b.length cap), (1, .slice ps b.length cs), (5, .slice (some ⟨bq, 0, none⟩) b.length (b.length + j)), (10, .int .i64 b.length), (11, .int .i64 i)]) (Li := fun i => [(bq, .cells ⟨u8s (turnI (b.take i) (s.take i) ++ b.drop i) ++ junk⟩ 5 (0, 0))]) (μ := fun i => b.length - i) (i0 := 0)
    · exact Nat.zero_le _
    · exact ⟨rfl, rfl, rfl, rfl, rfl, trivial⟩
    · have : turnI (b.take 0) (s.take 0) ++ b.drop 0 = b := by simp [turnI]
      rw [this]
      (focus ((repeat' (first | exact Keep.nil _ | exact Ext.one _ _ | apply Keep.cons)); done))
    · intro i hi
      rcases Nat.lt_or_ge i b.length with hlt | hge
      · obtain ⟨x, hx⟩ : ∃ x, b[i]? = some x := ⟨_, List.getElem?_eq_getElem (by omega)⟩
        obtain ⟨y, hy⟩ : ∃ y, s[i]? = some y := ⟨_, List.getElem?_eq_getElem (by omega)⟩
        obtain ⟨bb, o, hpe, H⟩ := hps.at hy
        replace H := H 1 u8V_len
        have hts := turn_set hx hy hs.symm
        have hti : (turnI (b.take i) (s.take i)).length = i := by
          unfold turnI
          rw [List.length_zipWith, List.length_take, List.length_take]
          omega
        have hgx : (turnI (b.take i) (s.take i) ++ b.drop i)[i]? = some x := by
          rw [List.getElem?_append_right (by omega), hti, Nat.sub_self, List.getElem?_drop, Nat.add_zero]
          exact hx
        have hgl : i < (turnI (b.take i) (s.take i) ++ b.drop i).length := by rw [List.length_append, hti, List.length_drop]; omega
        generalize turnI (b.take i) (s.take i) ++ b.drop i = Z at *
        obtain ⟨Z2, hZ2⟩ : ∃ Z2, turnI (b.take (i + 1)) (s.take (i + 1)) ++ b.drop (i + 1) = Z2 := ⟨_, rfl⟩
        rw [hZ2] at hts
        have hyb : 0 ≤ xorI .u8 x y := (xor8_range x y).1
        have hgz : (u8s Z ++ junk)[0 + i * 1]? = some (.int .u8 x) := by
          rw [Nat.zero_add, Nat.mul_one, List.getElem?_append_left (by rw [u8s_len]; exact hgl), u8s, List.getElem?_map, hgx]
          rfl
        have hsz : setE (u8s Z ++ junk) (0 + i * 1) [.int .u8 (xorI .u8 x y)] = some (u8s Z2 ++ junk) := by
          rw [Nat.zero_add, Nat.mul_one, setE_one (by rw [List.length_append, u8s_len]; omega), List.set_append_left _ _ (by rw [u8s_len]; exact hgl), hts]
          simp [u8s, List.map_set]
        by_cases hy0 : y = 0
        · have hz : Z2 = Z := by
            rw [hts, hy0, xor8_zero (hbb x (List.mem_of_getElem? hx))]
            exact List.set_getElem?_self9 hgx
          subst hy0
          repeat' (first | (apply R.is1; first | (apply R.isBin; (apply R.pure; exact rfl; first | (apply Ok1.add64; exact rfl; exact rfl; omega; omega) | (apply Ok1.lss_t; exact rfl; exact rfl; omega) | (apply Ok1.eql_t; exact rfl; exact rfl; omega))) | (apply R.pure; exact rfl; first | (apply Ok1.indexAddrP; (iterate 4 exact rfl); exact hpe; exact rfl; omega; omega) | (apply Ok1.load; exact rfl; (apply Ld.row0 H; exact rfl; exact List.not_mem_nil; (iterate 3 exact rfl))) | (apply Ok1.move; exact rfl) | (apply Ok1.assign; exact rfl))) | apply R.nil | (apply T.is; first | apply T.seq | apply T.region | apply T.block | apply T.skip | apply T.exit | (apply T.cond_t; exact rfl)))
          refine ⟨i + 1, by omega, by omega, ⟨rfl, rfl, rfl, rfl, rfl, trivial⟩, ?_⟩
          simp only [hZ2, hz]
          (focus ((repeat' (first | exact Keep.nil _ | exact Ext.one _ _ | apply Keep.cons)); done))
        · repeat' (first | (apply R.is1; first | (apply R.isBin; (apply R.pure; exact rfl; first | (apply Ok1.add64; exact rfl; exact rfl; omega; omega) | (apply Ok1.lss_t; exact rfl; exact rfl; omega) | (apply Ok1.eql_f; exact rfl; exact rfl; omega))) | (apply R.pure; exact rfl; first | (apply Ok1.indexAddrP; (iterate 4 exact rfl); exact hpe; exact rfl; omega; omega) | (apply Ok1.load; exact rfl; (apply Ld.row0 H; exact rfl; exact List.not_mem_nil; (iterate 3 exact rfl))) | (apply Ok1.move; exact rfl) | (apply Ok1.assign; exact rfl))) | apply R.nil | (apply T.is; first | (apply T.drawC (id := 6) [] (by decide); ((apply A.take 0; exact rfl; exact rfl; kernel_rfl; kernel_rfl; kernel_rfl; (apply Ok1.move; exact rfl)) <;> (apply A.take 1; exact rfl; exact rfl; kernel_rfl; kernel_rfl; kernel_rfl; (apply Ok1.move; exact rfl)) <;> (apply A.take 2; exact rfl; exact rfl; kernel_rfl; kernel_rfl; kernel_rfl; (apply Ok1.indexAddr; (iterate 5 exact rfl); omega; omega)) <;> (apply A.take 4; exact rfl; exact rfl; kernel_rfl; kernel_rfl; kernel_rfl; (apply Ok1.move; exact rfl)) <;> (apply A.take 5; exact rfl; exact rfl; kernel_rfl; kernel_rfl; kernel_rfl; (apply Ok1.move; exact rfl)) <;> (apply A.take 6; exact rfl; exact rfl; kernel_rfl; kernel_rfl; kernel_rfl; (apply Ok1.indexAddrP; (iterate 4 exact rfl); exact hpe; exact rfl; omega; omega)) <;> (apply A.take 7; exact rfl; exact rfl; kernel_rfl; kernel_rfl; kernel_rfl; (apply Ok1.load; exact rfl; (apply Ld.row0 H; exact rfl; exact List.not_mem_nil; (iterate 3 exact rfl)))) <;> (apply A.one 3; kernel_rfl; exact rfl; (((apply R.pure; exact rfl; (apply Ok1.load; exact rfl; (apply Ld.own1; exact rfl; exact rfl; exact At.head; exact hgz))))); apply R.nil; refine ⟨?_, ?_⟩; (focus ((repeat' (exact trivial))))) <;> (apply A.take 8; exact rfl; exact rfl; kernel_rfl; kernel_rfl; kernel_rfl; (apply Ok1.xorK; exact rfl; exact rfl)) <;> (apply A.take 9; exact rfl; exact rfl; kernel_rfl; kernel_rfl; kernel_rfl; (apply Ok1.indexAddr; (iterate 5 exact rfl); omega; omega)) <;> (apply A.one 10; kernel_rfl; exact rfl; (((apply R.store; (iterate 6 exact rfl); exact Upd.head; exact hsz))); apply R.nil; refine ⟨?_, ?_⟩; (focus ((repeat' (exact trivial))))) <;> (apply A.done; kernel_rfl))) | apply T.seq | apply T.region | apply T.block | apply T.skip | (apply T.cond_t; exact rfl) | (apply T.cond_f; exact rfl)))
          refine ⟨i + 1, by omega, by omega, ⟨rfl, rfl, rfl, rfl, rfl, trivial⟩, ?_⟩
          simp only [hZ2]
          (focus ((repeat' (first | exact Keep.nil _ | exact Ext.one _ _ | apply Keep.cons)); done))
      · have him : i = b.length := by omega
        subst him
        repeat' (first | (apply R.is1; first | (apply R.isBin; (apply R.pure; exact rfl; (apply Ok1.lss_f; exact rfl; exact rfl; omega))) | (apply R.pure; exact rfl; first | (apply Ok1.move; exact rfl) | (apply Ok1.assign; exact rfl))) | apply R.nil | (apply T.is; first | apply T.seq | apply T.region | apply T.exit | apply T.ret | (apply T.cond_f; exact rfl)))
        (apply RetOk.t; exact rfl)
        have h1 : turnI (b.take b.length) (s.take b.length) ++ b.drop b.length = turnI b s := by rw [List.take_length, ← hs, List.take_length, hs, List.drop_length, List.append_nil]
        rw [h1]
        refine ⟨_, by (focus ((repeat' (first | exact Keep.nil _ | exact Ext.one _ _ | apply Keep.cons)); done)), some (bq, j, junk), ⟨?_, hov.2⟩, rfl, rfl⟩
        rw [u8s_len, turnI_len hs.symm]
        omega
end Go.Proofs.Ytligngjcnlbgmaa
set_option linter.unusedSimpArgs false
set_option linter.unusedVariables false
namespace Go.Proofs.Ytligngjcnlbgmaa
open Go.RowKit Go.Shelf
set_option maxRecDepth 100000
theorem stag_ok (bk : Nat) (k : List Int) (hkl : k.length ≤ 999999000) (hkb : Byt k) (pp : Option Addr) (cap : Nat) (ps : List Pt) (hm2 : ps.length ≤ 100) (hpb : ∀ x ∈ ps, Byt x.xs) (hbig : ∀ x ∈ ps, x.xs.length ≤ 1000000) (hbl : (frameI (ps.map (·.xs))).length ≤ 999998000) (w : World) (hk : KeyR w bk k) (hp : RdSl w pp Pt.v ps) (hall : ∀ x ∈ ps, RdSl w x.p u8V x.xs) :
    CallW Try.prog 39 [.pointer (some ⟨bk, 0, none⟩), .slice pp ps.length cap] w fun v _ => v = .agg ⟨u8s (hmacI (deriveI k sBind []) (frameI (ps.map (·.xs))))⟩ := by
  have hfb : Byt (frameI (ps.map (·.xs))) := frame_byt fun l hl => by
    obtain ⟨x, hx, rfl⟩ := List.mem_map.1 hl
    exact hpb x hx
  have hdr := fun w1 (hc : Chg [] w w1) => derive_ok bk k hkl hkb sBind (by decide) none 0 0 [] rfl (by decide) (by simp) (by simp [frameI, len4, strI, sBind]) (by simp) w1 (hk.chg hc) (.inl rfl) (by simp)
  simp only [List.map_nil] at hdr
  have hdl := derive_len k sBind []
  have hdb := derive_byt k sBind []
  generalize deriveI k sBind [] = k2 at *
  refine enterW (tb := tb) Try.func39 rfl Try.ntmps39 rfl ?_
  repeat' (first | (apply R.is1; first | (apply R.isBin; first | (apply R.pure; exact rfl; first | (apply Ok1.add64; exact rfl; exact rfl; omega; omega) | (apply Ok1.lss_t; exact rfl; exact rfl; omega) | (apply Ok1.lss_f; exact rfl; exact rfl; omega)) | (apply R.lss rfl rfl rfl <;> intro)) | (apply R.isCall; first | (apply R.pure; exact rfl; first | (apply Ok1.lenS; (iterate 3 exact rfl)) | (apply Ok1.lenStr; (iterate 3 exact rfl)) | (apply Ok1.lenMm; (iterate 3 exact rfl); (focus ((repeat' (first | exact At.head | apply At.tail | apply At.right)); done))) | (apply Ok1.lenM_nil; (iterate 3 exact rfl)))) | (apply R.pure; exact rfl; first | (apply Ok1.move; exact rfl) | (apply Ok1.load; exact rfl; first | (apply Ld.own1; exact rfl; exact rfl; (focus ((repeat' (first | exact At.head | apply At.tail | apply At.right)); done)); exact rfl) | (apply Ld.ownk; exact rfl; exact rfl; (focus ((repeat' (first | exact At.head | apply At.tail | apply At.right)); done)); exact rfl) | (apply Ld.old1; exact rfl; exact rfl; assumption; (first | exact List.not_mem_nil | assumption)) | (apply Ld.blk1; exact rfl; exact rfl; assumption; (first | exact List.not_mem_nil | assumption); exact rfl) | (apply Ld.blkk; exact rfl; exact rfl; assumption; (first | exact List.not_mem_nil | assumption); exact rfl)) | (apply Ok1.assign; exact rfl) | (apply Ok1.indexAddr; (iterate 5 exact rfl); omega; omega) | (apply Ok1.indexAddrA; (iterate 5 exact rfl); omega; omega)) | (apply R.alloc; (iterate 3 exact rfl); intro) | (apply R.buildSlice; (iterate 12 exact rfl); intro)) | (apply R.is0; first | (apply R.store; (iterate 6 exact rfl); (focus ((repeat' (first | exact Upd.head | apply Upd.tail | apply Upd.right)); done)); exact rfl) | fail) | (apply R.isG; first | (apply R.guard_run; exact rfl; exact rfl) | (apply R.guard_not; (iterate 3 exact rfl)) | (apply R.guard_not0; exact rfl; exact rfl) | (apply R.guard_un; (iterate 3 exact rfl)) | (apply R.guard_un0; exact rfl; exact rfl) | (apply R.guard rfl rfl ?_ (fun h => ⟨rfl, ?_⟩) <;> try intro)) | apply R.nil | (apply T.is; first | apply T.seq | apply T.region | apply T.block | apply T.scope | apply T.label | apply T.skip | apply T.exit | apply T.ret | (apply T.cond_t; exact rfl) | (apply T.cond_f; exact rfl) | (apply T.cond_h; exact rfl; assumption) | (apply T.cond_n; exact rfl; assumption) | (apply T.cond rfl <;> intro)) | apply Rnd.step)
  rename_i b0
  obtain ⟨src, hsrc⟩ : ∃ src : World → Prop, src = fun W => ∀ x ∈ ps, RdSl W x.p u8V x.xs := ⟨_, rfl⟩
  apply T.loopK (α := Nat × FO) (I := fun y => y.1 ≤ ps.length ∧ FOok y.2 ((ps.take y.1).map (·.xs)) src) (σi := fun y => [(0, .pointer (some ⟨bk, 0, none⟩)), (4, .pointer (some ⟨b0, 0, none⟩)), (5, slV y.2.ov y.2.pts.length), (8, .slice pp ps.length cap), (9, .int .i64 ps.length), (10, .int .i64 y.1)])
    (Li := fun y => (b0, .cells ⟨[.int .u8 0, .int .u8 0, .int .u8 0, .int .u8 0, .int .u8 0, .int .u8 0, .int .u8 0, .int .u8 0, .int .u8 0, .int .u8 0, .int .u8 0, .int .u8 0, .int .u8 0, .int .u8 0, .int .u8 0, .int .u8 0, .int .u8 0, .int .u8 0, .int .u8 0, .int .u8 0, .int .u8 0, .int .u8 0, .int .u8 0, .int .u8 0, .int .u8 0, .int .u8 0, .int .u8 0, .int .u8 0, .int .u8 0, .int .u8 0, .int .u8 0, .int .u8 0]⟩ 90 (0, 0)) :: (blkL 22 y.2.ov (fl Pt.v y.2.pts) ++ y.2.ex)) (μ := fun y => ps.length - y.1)
    (i0 := (0, ⟨none, [], []⟩))
  · exact ⟨Nat.zero_le _, OvOk.start 1, rfl, rfl, fun W _ _ x hx => by cases hx⟩
  · exact ⟨rfl, rfl, rfl, rfl, rfl, rfl, trivial⟩
  · simp only [blkL, List.append_nil]
    (focus ((repeat' (first | exact Keep.nil _ | exact Ext.one _ _ | exact Ext.here _ _ | exact Ext.all _ | apply Keep.cons | apply Keep.app | apply Keep.last | apply Ext.cons | apply Ext.app)); done))
  · rintro ⟨i, f⟩ ⟨hi, hov, hlen, hcat, hrd⟩
    simp only at hi hov hlen hcat hrd ⊢
    have hll : ((ps.take i).map (·.xs)).length = i := by simp; omega
    rw [hll] at hlen
    rcases Nat.lt_or_ge i ps.length with hlt | hge
    · obtain ⟨x, hx⟩ : ∃ x, ps[i]? = some x := ⟨_, List.getElem?_eq_getElem (by omega)⟩
      obtain ⟨b', o', hpe, H⟩ := hp.at hx
      replace H := H 1 Pt.v_len
      have hxb := hbig x (List.mem_of_getElem? hx)
      have hls : (ps.take (i + 1)).map (·.xs) = (ps.take i).map (·.xs) ++ [x.xs] := by rw [List.take_add_one, hx]; simp
      obtain ⟨ov, pts, ex⟩ := f
      simp only at hov hlen hcat hrd ⊢
      have hfo := fun w1 => four_ok (x.xs.length : Int) (by omega) (by omega) w1
      repeat' (first | (apply R.is1; first | (apply R.isBin; first | (apply R.pure; exact rfl; first | (apply Ok1.add64; exact rfl; exact rfl; omega; omega) | (apply Ok1.lss_t; exact rfl; exact rfl; omega) | (apply Ok1.lss_f; exact rfl; exact rfl; omega)) | (apply R.lss rfl rfl rfl <;> intro)) | (apply R.isCall; first | (apply R.callE (vs := [.int .i64 x.xs.length]); (iterate 3 exact rfl); exact Ext.none _; intro w1 hw1; exact hfo w1; rintro v Lo ⟨b4, rfl, rfl⟩) | (apply R.appendRd (xs := [⟨some ⟨b4, 0, none⟩, 4, len4 x.xs.length⟩, x]) (v := Pt.v) (sz := 1) (ov := ov) (n := pts.length) (old := fl Pt.v pts); (iterate 12 exact rfl); exact hov; (focus ((repeat' (first | exact Ext.none _ | exact Ext.one _ _ | exact Ext.here _ _ | exact Ext.all _ | apply Ext.cons | apply Ext.app | apply Ext.two)); done)); exact rfl; exact Pt.v_len; exact rfl; (intro w1 hw1; exact RdSl.of (junk := []) hw1 (by (focus ((repeat' (first | exact At.head | apply At.tail | apply At.right)); done))) rfl); exact rfl; omega; intro ov1 hov1 hsome) | (apply R.pure; exact rfl; first | (apply Ok1.lenS; (iterate 3 exact rfl)) | (apply Ok1.lenStr; (iterate 3 exact rfl)) | (apply Ok1.lenMm; (iterate 3 exact rfl); (focus ((repeat' (first | exact At.head | apply At.tail | apply At.right)); done))) | (apply Ok1.lenM_nil; (iterate 3 exact rfl)))) | (apply R.pure; exact rfl; first | (apply Ok1.indexAddrP; (iterate 4 exact rfl); exact hpe; exact rfl; omega; omega) | (apply Ok1.load; exact rfl; apply Ld.row0 H; exact rfl; exact List.not_mem_nil; (iterate 3 exact rfl)) | (apply Ok1.move; exact rfl) | (apply Ok1.load; exact rfl; first | (apply Ld.own1; exact rfl; exact rfl; (focus ((repeat' (first | exact At.head | apply At.tail | apply At.right)); done)); exact rfl) | (apply Ld.ownk; exact rfl; exact rfl; (focus ((repeat' (first | exact At.head | apply At.tail | apply At.right)); done)); exact rfl) | (apply Ld.old1; exact rfl; exact rfl; assumption; (first | exact List.not_mem_nil | assumption)) | (apply Ld.blk1; exact rfl; exact rfl; assumption; (first | exact List.not_mem_nil | assumption); exact rfl) | (apply Ld.blkk; exact rfl; exact rfl; assumption; (first | exact List.not_mem_nil | assumption); exact rfl)) | (apply Ok1.assign; exact rfl) | (apply Ok1.indexAddr; (iterate 5 exact rfl); omega; omega) | (apply Ok1.indexAddrA; (iterate 5 exact rfl); omega; omega)) | (apply R.alloc; (iterate 3 exact rfl); intro) | (apply R.buildSlice; (iterate 12 exact rfl); intro)) | (apply R.is0; first | (apply R.store; (iterate 6 exact rfl); (focus ((repeat' (first | exact Upd.head | apply Upd.tail | apply Upd.right)); done)); exact rfl) | fail) | (apply R.isG; first | (apply R.guard_run; exact rfl; exact rfl) | (apply R.guard_not; (iterate 3 exact rfl)) | (apply R.guard_not0; exact rfl; exact rfl) | (apply R.guard_un; (iterate 3 exact rfl)) | (apply R.guard_un0; exact rfl; exact rfl) | (apply R.guard rfl rfl ?_ (fun h => ⟨rfl, ?_⟩) <;> try intro)) | apply R.nil | (apply T.is; first | apply T.seq | apply T.region | apply T.block | apply T.scope | apply T.label | apply T.skip | apply T.exit | apply T.ret | (apply T.cond_t; exact rfl) | (apply T.cond_f; exact rfl) | (apply T.cond_h; exact rfl; assumption) | (apply T.cond_n; exact rfl; assumption) | (apply T.cond rfl <;> intro)) | apply Rnd.step)
      rw [← fl_app] at hov1 ⊢
      refine ⟨(i + 1, ⟨ov1, pts ++ [⟨some ⟨b4, 0, none⟩, 4, len4 x.xs.length⟩, x], (b4, .cells ⟨u8s (len4 x.xs.length)⟩ 5 (0, 0)) :: ex⟩), ⟨by simp only; omega, ?_⟩, by simp only; omega, ⟨rfl, rfl, ?_, rfl, rfl, rfl, trivial⟩, ?_⟩
      · rw [hls]
        refine ⟨by simpa using hov1, by simp [hlen]; omega, ?_, fun W hex hs y hy => ?_⟩
        · rw [frame_app, cat_app, hcat, frame_one]
          simp [cat]
        · rcases List.mem_append.1 hy with hy | hy
          · exact hrd W (fun z hz => hex z (List.mem_cons_of_mem _ hz)) hs y hy
          · rcases List.mem_cons.1 hy with rfl | hy
            · exact RdSl.heap (junk := []) (e := 5) (fz := (0, 0)) (by rw [fl_u8, List.append_nil]; exact hex _ List.mem_cons_self)
            · rw [List.mem_singleton.1 hy]
              rw [hsrc] at hs
              exact hs x (List.mem_of_getElem? hx)
      · simp only [List.length_append, List.length_cons, List.length_nil]
        rfl
      · simp only [List.length_append, List.length_cons, List.length_nil, List.append_assoc, List.cons_append, List.nil_append]
        (focus ((repeat' (first | exact Keep.nil _ | exact Ext.one _ _ | exact Ext.here _ _ | exact Ext.all _ | apply Keep.cons | apply Keep.app | apply Keep.last | apply Ext.cons | apply Ext.app)); done))
    · have him : i = ps.length := by omega
      subst him
      rw [List.take_length] at hcat
      have hfl : f.pts.length ≤ 1000000000 := by omega
      have hls : (u8s (hmacI k2 (frameI (ps.map (·.xs))))).length = 32 := by rw [u8s_len, hmac_len]
      have hone := u8s_one (hmacI k2 (frameI (ps.map (·.xs))))
      have htg : ∀ L w1 bd, Hp w [] L w1 → KeyR w1 bd k2 → (∀ z ∈ blkL 22 f.ov (fl Pt.v f.pts), z ∈ L) → (∀ z ∈ f.ex, z ∈ L) → CallW Try.prog 48 [.pointer (some ⟨bd, 0, none⟩), .slice (ovp f.ov) f.pts.length (ovc f.ov f.pts.length)] w1 fun v _ => v = .agg ⟨u8s (hmacI k2 (frameI (ps.map (·.xs))))⟩ := by
        intro L w1 bd hw h1 h2 h3
        have h := ktag_ok bd k2 (by rw [hdl]; decide) hdb (ovp f.ov) f.pts.length (ovc f.ov f.pts.length) f.pts rfl (by rw [hcat]; exact hfb) (by rw [hcat]; exact hbl) hfl w1 h1 (RdSl.own' hw h2 hov Pt.v_len) (hrd w1 (fun z hz => hw.get _ _ (h3 z hz)) (by rw [hsrc]; exact fun x hx => (hall x hx).chg' hw.chg (fun _ => Off.nil _)))
        rw [hcat] at h
        exact h
      have hovl := slV_eq hov
      generalize u8s (hmacI k2 (frameI (ps.map (·.xs)))) = D at *
      have hset : ∀ cs : List Value, cs.length = 32 → setE cs 0 D = some D := fun cs h => setE_all (by rw [hls, h])
      obtain ⟨ov, pts, ex⟩ := f
      simp only at hov hovl htg hfl ⊢
      rw [hovl]
      generalize hPL : blkL 22 ov (fl Pt.v pts) = LP at *
      repeat' (first | (apply R.is1; first | (apply R.isBin; first | (apply R.pure; exact rfl; first | (apply Ok1.add64; exact rfl; exact rfl; omega; omega) | (apply Ok1.lss_t; exact rfl; exact rfl; omega) | (apply Ok1.lss_f; exact rfl; exact rfl; omega)) | (apply R.lss rfl rfl rfl <;> intro)) | (apply R.isCall; first | (apply R.callE (vs := [.pointer (some ⟨bk, 0, none⟩), .string sBind, .slice none 0 0]); (iterate 3 exact rfl); exact Ext.none _; intro w1 hw1; exact hdr w1 hw1.chg; rintro v Lo ⟨bd, ovd, rfl, hovd, rfl⟩) | (apply R.pure; exact rfl; first | (apply Ok1.lenS; (iterate 3 exact rfl)) | (apply Ok1.lenStr; (iterate 3 exact rfl)) | (apply Ok1.lenMm; (iterate 3 exact rfl); (focus ((repeat' (first | exact At.head | apply At.tail | apply At.right)); done))) | (apply Ok1.lenM_nil; (iterate 3 exact rfl)))) | (apply R.pure; exact rfl; first | (apply Ok1.move; exact rfl) | (apply Ok1.load; exact rfl; first | (apply Ld.own1; exact rfl; exact rfl; (focus ((repeat' (first | exact At.head | apply At.tail | apply At.right)); done)); exact rfl) | (apply Ld.ownk; exact rfl; exact rfl; (focus ((repeat' (first | exact At.head | apply At.tail | apply At.right)); done)); exact rfl) | (apply Ld.old1; exact rfl; exact rfl; assumption; (first | exact List.not_mem_nil | assumption)) | (apply Ld.blk1; exact rfl; exact rfl; assumption; (first | exact List.not_mem_nil | assumption); exact rfl) | (apply Ld.blkk; exact rfl; exact rfl; assumption; (first | exact List.not_mem_nil | assumption); exact rfl)) | (apply Ok1.assign; exact rfl) | (apply Ok1.indexAddr; (iterate 5 exact rfl); omega; omega) | (apply Ok1.indexAddrA; (iterate 5 exact rfl); omega; omega)) | (apply R.alloc; (iterate 3 exact rfl); intro) | (apply R.buildSlice; (iterate 12 exact rfl); intro)) | (apply R.is0; first | (apply R.store; (iterate 6 exact rfl); (focus ((repeat' (first | exact Upd.head | apply Upd.tail | apply Upd.right)); done)); exact rfl) | fail) | (apply R.isG; first | (apply R.guard_run; exact rfl; exact rfl) | (apply R.guard_not; (iterate 3 exact rfl)) | (apply R.guard_not0; exact rfl; exact rfl) | (apply R.guard_un; (iterate 3 exact rfl)) | (apply R.guard_un0; exact rfl; exact rfl) | (apply R.guard rfl rfl ?_ (fun h => ⟨rfl, ?_⟩) <;> try intro)) | apply R.nil | (apply T.is; first | apply T.seq | apply T.region | apply T.block | apply T.scope | apply T.label | apply T.skip | apply T.exit | apply T.ret | (apply T.cond_t; exact rfl) | (apply T.cond_f; exact rfl) | (apply T.cond_h; exact rfl; assumption) | (apply T.cond_n; exact rfl; assumption) | (apply T.cond rfl <;> intro)) | apply Rnd.step)
      have hKR : ∀ L w1, Hp w [] L w1 → (∀ z ∈ KL bd ovd k2, z ∈ L) → KeyR w1 bd k2 := fun L w1 h1 h2 => KeyR.of (by rw [hdl]; exact hovd) h1 h2
      generalize KL bd ovd k2 = LK at *
      repeat' (first | (apply R.is1; first | (apply R.isBin; first | (apply R.pure; exact rfl; first | (apply Ok1.add64; exact rfl; exact rfl; omega; omega) | (apply Ok1.lss_t; exact rfl; exact rfl; omega) | (apply Ok1.lss_f; exact rfl; exact rfl; omega)) | (apply R.lss rfl rfl rfl <;> intro)) | (apply R.isCall; first | (apply R.callW (vs := [.pointer (some ⟨bd, 0, none⟩), .slice (ovp ov) pts.length (ovc ov pts.length)]); (iterate 3 exact rfl); intro w1 hw1; exact htg _ w1 bd hw1 (hKR _ w1 hw1 (Ext.mem (by (focus ((repeat' (first | exact Ext.none _ | exact Ext.one _ _ | exact Ext.here _ _ | exact Ext.all _ | apply Ext.cons | apply Ext.app | apply Ext.two)); done))))) (Ext.mem (by (focus ((repeat' (first | exact Ext.none _ | exact Ext.one _ _ | exact Ext.here _ _ | exact Ext.all _ | apply Ext.cons | apply Ext.app | apply Ext.two)); done)))) (Ext.mem (by (focus ((repeat' (first | exact Ext.none _ | exact Ext.one _ _ | exact Ext.here _ _ | exact Ext.all _ | apply Ext.cons | apply Ext.app | apply Ext.two)); done)))); rintro v rfl) | (apply R.pure; exact rfl; first | (apply Ok1.lenS; (iterate 3 exact rfl)) | (apply Ok1.lenStr; (iterate 3 exact rfl)) | (apply Ok1.lenMm; (iterate 3 exact rfl); (focus ((repeat' (first | exact At.head | apply At.tail | apply At.right)); done))) | (apply Ok1.lenM_nil; (iterate 3 exact rfl)))) | (apply R.pure; exact rfl; first | (apply Ok1.move; exact rfl) | (apply Ok1.load; exact rfl; first | (apply Ld.own1; exact rfl; exact rfl; (focus ((repeat' (first | exact At.head | apply At.tail | apply At.right)); done)); exact rfl) | (apply Ld.ownk; exact rfl; exact rfl; (focus ((repeat' (first | exact At.head | apply At.tail | apply At.right)); done)); exact rfl) | (apply Ld.old1; exact rfl; exact rfl; assumption; (first | exact List.not_mem_nil | assumption)) | (apply Ld.blk1; exact rfl; exact rfl; assumption; (first | exact List.not_mem_nil | assumption); exact rfl) | (apply Ld.blkk; exact rfl; exact rfl; assumption; (first | exact List.not_mem_nil | assumption); exact rfl)) | (apply Ok1.assign; exact rfl) | (apply Ok1.indexAddr; (iterate 5 exact rfl); omega; omega) | (apply Ok1.indexAddrA; (iterate 5 exact rfl); omega; omega)) | (apply R.alloc; (iterate 3 exact rfl); intro) | (apply R.buildSlice; (iterate 12 exact rfl); intro)) | (apply R.is0; first | (apply R.store; (iterate 4 exact rfl); exact hls; exact hone; (focus ((repeat' (first | exact Upd.head | apply Upd.tail | apply Upd.right)); done)); exact hset _ rfl) | (apply R.store; (iterate 6 exact rfl); (focus ((repeat' (first | exact Upd.head | apply Upd.tail | apply Upd.right)); done)); exact rfl) | fail) | (apply R.isG; first | (apply R.guard_run; exact rfl; exact rfl) | (apply R.guard_not; (iterate 3 exact rfl)) | (apply R.guard_not0; exact rfl; exact rfl) | (apply R.guard_un; (iterate 3 exact rfl)) | (apply R.guard_un0; exact rfl; exact rfl) | (apply R.guard rfl rfl ?_ (fun h => ⟨rfl, ?_⟩) <;> try intro)) | apply R.nil | (apply T.is; first | apply T.seq | apply T.region | apply T.block | apply T.scope | apply T.label | apply T.skip | apply T.exit | apply T.ret | (apply T.cond_t; exact rfl) | (apply T.cond_f; exact rfl) | (apply T.cond_h; exact rfl; assumption) | (apply T.cond_n; exact rfl; assumption) | (apply T.cond rfl <;> intro)) | apply Rnd.step)
      (apply RetOk.c; exact rfl; (apply Ld.ownk; exact rfl; exact rfl; (focus ((repeat' (first | exact At.head | apply At.tail | apply At.right)); done)); exact subE_all hls))
      rfl
end Go.Proofs.Ytligngjcnlbgmaa
set_option linter.unusedSimpArgs false
set_option linter.unusedVariables false
namespace Go.Proofs.Ytligngjcnlbgmaa
open Go.RowKit Go.Shelf
set_option maxRecDepth 100000
theorem stag3_ok (bk : Nat) (k : List Int) (hkl : k.length ≤ 999999000) (hkb : Byt k) (a b c : Pt) (ha : Byt a.xs) (hb : Byt b.xs) (hc : Byt c.xs) (hla : a.xs.length ≤ 100000) (hlb : b.xs.length ≤ 100000) (hlc : c.xs.length ≤ 100000) (pp : Option Addr) (cap : Nat) (w : World) (hk : KeyR w bk k) (hp : RdSl w pp Pt.v [a, b, c]) (h1 : RdSl w a.p u8V a.xs) (h2 : RdSl w b.p u8V b.xs) (h3 : RdSl w c.p u8V c.xs) :
    CallW Try.prog 39 [.pointer (some ⟨bk, 0, none⟩), .slice pp 3 cap] w fun v _ => v = .agg ⟨u8s (stagI k a.xs b.xs c.xs)⟩ := by
  refine stag_ok bk k hkl hkb pp cap [a, b, c] (by simp) ?_ ?_ ?_ w hk hp ?_
  · intro x hx
    simp only [List.mem_cons, List.not_mem_nil, or_false] at hx
    rcases hx with rfl | rfl | rfl <;> assumption
  · intro x hx
    simp only [List.mem_cons, List.not_mem_nil, or_false] at hx
    rcases hx with rfl | rfl | rfl <;> omega
  · simp [frameI, len4]
    omega
  · intro x hx
    simp only [List.mem_cons, List.not_mem_nil, or_false] at hx
    rcases hx with rfl | rfl | rfl <;> assumption
theorem sseal_ok (bk : Nat) (k : List Int) (hkl : k.length ≤ 999999000) (hkb : Byt k) (pn : Option Addr) (nl cn : Nat) (nonce : List Int) (hnl : nl = nonce.length) (hn32 : nl ≤ 32) (hnb : Byt nonce) (pb : Option Addr) (bl cb : Nat) (bound : List Int) (hbl : bl = bound.length) (hb32 : bl ≤ 100000) (hbb : Byt bound) (p : Option Addr) (n cap : Nat) (b : List Int) (hn : n = b.length) (hbig : n ≤ 65536) (hby : Byt b) (w : World) (hk : KeyR w bk k) (hpn : RdSl w pn u8V nonce) (hpb : RdSl w pb u8V bound) (hp : RdSl w p u8V b) :
    CallM Try.prog 28 [.pointer (some ⟨bk, 0, none⟩), .slice pn nl cn, .slice pb bl cb, .slice p n cap] [] w fun v L => ∃ ov, OvOk 1 ov (n + 32) (u8s (sealI k nonce bound b)) ∧ v = .tuple #[slV ov (n + 32), .int .i64 0] ∧ L = blkL 5 ov (u8s (sealI k nonce bound b)) := by
  subst hnl hbl hn
  have hss : sealI k nonce bound b = turnI b (strmI k nonce b.length) ++ stagI k nonce bound (turnI b (strmI k nonce b.length)) := rfl
  have hsl := sealI_len k nonce bound b
  have hSl := strmI_len k nonce b.length
  have hstr := fun w1 (hc : Chg [] w w1) => stream_ok bk k hkl hkb pn nonce.length cn nonce rfl hn32 hnb b.length hbig w1 (hk.chg hc) (hpn.chg' hc (fun _ => Off.nil _))
  have htu := fun ps cs w1 (hc : Chg [] w w1) h => turned_ok p b.length cap b rfl (by omega) hby ps cs (strmI k nonce b.length) hSl w1 (hp.chg' hc (fun _ => Off.nil _)) h
  have hTl : (turnI b (strmI k nonce b.length)).length = b.length := turnI_len hSl.symm
  have hTb := turnI_byt b (strmI k nonce b.length)
  have htg := fun q c b3 w1 (hc : Chg [] w w1) h1 h2 => stag3_ok bk k hkl hkb ⟨pn, cn, nonce⟩ ⟨pb, cb, bound⟩ ⟨q, c, turnI b (strmI k nonce b.length)⟩ hnb hbb hTb (by simp only; omega) (by simp only; omega) (by simp only; omega) (some ⟨b3, 0, none⟩) 3 w1 (hk.chg hc) h1 (hpn.chg' hc (fun _ => Off.nil _)) (hpb.chg' hc (fun _ => Off.nil _)) h2
  simp only at htg
  generalize sealI k nonce bound b = SS at *
  generalize strmI k nonce b.length = S at *
  generalize turnI b S = C at *
  have hls : (u8s (stagI k nonce bound C)).length = 32 := by rw [u8s_len, stagI_len]
  have hDl : (stagI k nonce bound C).length = 32 := stagI_len _ _ _ _
  generalize stagI k nonce bound C = D at *
  have hset : ∀ cs : List Value, cs.length = 32 → setE cs 0 (u8s D) = some (u8s D) := fun cs h => setE_all (by rw [hls, h])
  refine enterK (tb := tb) Try.func28 rfl Try.ntmps28 rfl ?_
  repeat' (first | (apply R.is1; first | (apply R.isBin; first | (apply R.pure; exact rfl; first | (apply Ok1.neq_t; exact rfl; exact rfl; omega) | (apply Ok1.neq_f; exact rfl; exact rfl; omega) | (apply Ok1.neqP; (iterate 5 exact rfl)) | (apply Ok1.neqM; (iterate 5 exact rfl)) | (apply Ok1.neqS; (iterate 5 exact rfl))) | (apply R.neq rfl rfl rfl <;> intro) | (apply R.neqF; (iterate 8 exact rfl); all_goals intro)) | (apply R.isCall; first | (apply R.callE (vs := [.pointer (some ⟨bk, 0, none⟩), .slice pn nonce.length cn, .int .i64 b.length]); (iterate 3 exact rfl); exact Ext.none _; intro w1 hw1; exact hstr w1 hw1.chg; rintro v Lo ⟨ovs, W, hovs, hnW, hWt, rfl, rfl⟩) | (apply R.callE (vs := [.slice p b.length cap, .slice (ovp ovs) b.length b.length]); (iterate 3 exact rfl); exact Ext.none _; intro w1 hw1; exact htu _ _ w1 hw1.chg (hWt ▸ (rdown hovs hw1 (Ext.mem (by (focus ((repeat' (first | exact Ext.none _ | exact Ext.one _ _ | exact Ext.here _ _ | exact Ext.all _ | apply Ext.cons | apply Ext.app | apply Ext.two)); done))))).pre u8V_len b.length); rintro v Lo ⟨ovt, hovt, rfl, rfl⟩; rw [slV_eq hovt]) | (apply R.pure; exact rfl; first | (apply Ok1.lenS; (iterate 3 exact rfl)) | (apply Ok1.lenStr; (iterate 3 exact rfl)) | (apply Ok1.lenMm; (iterate 3 exact rfl); (focus ((repeat' (first | exact At.head | apply At.tail | apply At.right)); done))) | (apply Ok1.lenM_nil; (iterate 3 exact rfl)))) | (apply R.pure; exact rfl; first | (apply Ok1.move; exact rfl) | (apply Ok1.assign; exact rfl) | (apply Ok1.extract; exact rfl; exact rfl) | (apply Ok1.slice0; (iterate 7 exact rfl); (refine ⟨?_, ?_, ?_⟩ <;> omega); (first | exact Or.inl rfl | exact Or.inr (fun e => by cases e))) | (apply Ok1.sliceTo; (iterate 6 exact rfl); omega; omega; omega; (first | exact Or.inl rfl | exact Or.inr (fun e => by cases e))) | (apply Ok1.sliceFrom; (iterate 7 exact rfl); omega; omega; omega; omega; omega; (first | exact Or.inl rfl | exact Or.inr (fun e => by cases e)))) | (apply R.alloc; (iterate 3 exact rfl); intro) | (apply R.buildSlice; (iterate 12 exact rfl); intro)) | (apply R.is0; first | (apply R.store; (iterate 6 exact rfl); (focus ((repeat' (first | exact Upd.head | apply Upd.tail | apply Upd.right)); done)); exact rfl) | fail) | (apply R.isG; first | (apply R.guard_run; exact rfl; exact rfl) | (apply R.guard_not; (iterate 3 exact rfl)) | (apply R.guard_not0; exact rfl; exact rfl) | (apply R.guard_un; (iterate 3 exact rfl)) | (apply R.guard_un0; exact rfl; exact rfl) | (apply R.guard rfl rfl ?_ (fun h => ⟨rfl, ?_⟩) <;> try intro)) | apply R.nil | (apply T.is; first | apply T.seq | apply T.region | apply T.block | apply T.scope | apply T.label | apply T.skip | apply T.exit | apply T.ret | (apply T.cond_t; exact rfl) | (apply T.cond_f; exact rfl) | (apply T.cond_h; exact rfl; assumption) | (apply T.cond_n; exact rfl; assumption) | (apply T.cond rfl <;> intro)) | apply Rnd.step)
  have hCl : C.length = b.length := hTl
  rename_i b3
  have hp3 : ∀ L w1, Hp w [] L w1 → (b3, Obj.cells ⟨[.slice pn nonce.length cn, .slice pb bound.length cb, .slice (ovp ovt) b.length (ovc ovt b.length)]⟩ 22 (0, 0)) ∈ L → RdSl w1 (some ⟨b3, 0, none⟩) Pt.v [⟨pn, cn, nonce⟩, ⟨pb, cb, bound⟩, ⟨ovp ovt, ovc ovt b.length, C⟩] := fun L w1 h1 h2 => RdSl.ofMem (junk := []) h1 h2 (by simp [fl, Pt.v, hTl])
  have hcc : ∀ L w1 b2 b13, Hp w [] L w1 → (b2, Obj.cells ⟨[.slice (ovp ovt) b.length (ovc ovt b.length), .slice (some ⟨b13, 0, none⟩) 32 32]⟩ 22 (0, 0)) ∈ L → (b13, Obj.cells ⟨u8s D⟩ 90 (0, 0)) ∈ L → (∀ z ∈ blkL 5 ovt (u8s C), z ∈ L) → CallM Try.prog 40 [.slice (some ⟨b2, 0, none⟩) 2 2] [] w1 fun v L => ∃ ov, OvOk 1 ov (b.length + 32) (u8s SS) ∧ v = slV ov (b.length + 32) ∧ L = blkL 5 ov (u8s SS) := by
    intro L w1 b2 b13 h1 h2 h3 h4
    have hcat : cat [⟨ovp ovt, ovc ovt b.length, C⟩, ⟨some ⟨b13, 0, none⟩, 32, D⟩] = SS := by simp [cat, hss]
    have h := concat_ok (some ⟨b2, 0, none⟩) 2 2 [⟨ovp ovt, ovc ovt b.length, C⟩, ⟨some ⟨b13, 0, none⟩, 32, D⟩] rfl (by rw [hcat]; omega) (by decide) w1 (RdSl.ofMem (junk := []) h1 h2 (by simp [fl, Pt.v, hTl, hDl])) ?_
    · rw [hcat, hsl] at h
      exact h
    · intro x hx
      simp only [List.mem_cons, List.not_mem_nil, or_false] at hx
      rcases hx with rfl | rfl
      · exact rdown (by rw [hTl]; exact hovt) h1 h4
      · exact RdSl.ofMem (junk := []) h1 h3 (by rw [fl_u8, List.append_nil])
  repeat' (first | (apply R.is1; first | (apply R.isBin; first | (apply R.pure; exact rfl; first | (apply Ok1.neq_t; exact rfl; exact rfl; omega) | (apply Ok1.neq_f; exact rfl; exact rfl; omega) | (apply Ok1.neqP; (iterate 5 exact rfl)) | (apply Ok1.neqM; (iterate 5 exact rfl)) | (apply Ok1.neqS; (iterate 5 exact rfl))) | (apply R.neq rfl rfl rfl <;> intro) | (apply R.neqF; (iterate 8 exact rfl); all_goals intro)) | (apply R.isCall; first | (apply R.callW (vs := [.pointer (some ⟨bk, 0, none⟩), .slice (some ⟨b3, 0, none⟩) 3 3]); (iterate 3 exact rfl); intro w1 hw1; exact htg (ovp ovt) (ovc ovt b.length) b3 w1 hw1.chg (hp3 _ w1 hw1 List.mem_cons_self) (rdown (by rw [hTl]; exact hovt) hw1 (Ext.mem (by (focus ((repeat' (first | exact Ext.none _ | exact Ext.one _ _ | exact Ext.here _ _ | exact Ext.all _ | apply Ext.cons | apply Ext.app | apply Ext.two)); done))))); rintro v rfl) | (apply R.pure; exact rfl; first | (apply Ok1.lenS; (iterate 3 exact rfl)) | (apply Ok1.lenStr; (iterate 3 exact rfl)) | (apply Ok1.lenMm; (iterate 3 exact rfl); (focus ((repeat' (first | exact At.head | apply At.tail | apply At.right)); done))) | (apply Ok1.lenM_nil; (iterate 3 exact rfl)))) | (apply R.pure; exact rfl; first | (apply Ok1.sliceArr; (iterate 4 exact rfl)) | (apply Ok1.move; exact rfl) | (apply Ok1.assign; exact rfl) | (apply Ok1.extract; exact rfl; exact rfl) | (apply Ok1.slice0; (iterate 7 exact rfl); (refine ⟨?_, ?_, ?_⟩ <;> omega); (first | exact Or.inl rfl | exact Or.inr (fun e => by cases e))) | (apply Ok1.sliceTo; (iterate 6 exact rfl); omega; omega; omega; (first | exact Or.inl rfl | exact Or.inr (fun e => by cases e))) | (apply Ok1.sliceFrom; (iterate 7 exact rfl); omega; omega; omega; omega; omega; (first | exact Or.inl rfl | exact Or.inr (fun e => by cases e)))) | (apply R.alloc; (iterate 3 exact rfl); intro) | (apply R.buildSlice; (iterate 12 exact rfl); intro)) | (apply R.is0; first | (apply R.store; (iterate 4 exact rfl); exact hls; exact u8s_one D; (focus ((repeat' (first | exact Upd.head | apply Upd.tail | apply Upd.right)); done)); exact hset _ rfl) | (apply R.store; (iterate 6 exact rfl); (focus ((repeat' (first | exact Upd.head | apply Upd.tail | apply Upd.right)); done)); exact rfl) | fail) | (apply R.isG; first | (apply R.guard_run; exact rfl; exact rfl) | (apply R.guard_not; (iterate 3 exact rfl)) | (apply R.guard_not0; exact rfl; exact rfl) | (apply R.guard_un; (iterate 3 exact rfl)) | (apply R.guard_un0; exact rfl; exact rfl) | (apply R.guard rfl rfl ?_ (fun h => ⟨rfl, ?_⟩) <;> try intro)) | apply R.nil | (apply T.is; first | apply T.seq | apply T.region | apply T.block | apply T.scope | apply T.label | apply T.skip | apply T.exit | apply T.ret | (apply T.cond_t; exact rfl) | (apply T.cond_f; exact rfl) | (apply T.cond_h; exact rfl; assumption) | (apply T.cond_n; exact rfl; assumption) | (apply T.cond rfl <;> intro)) | apply Rnd.step)
  rename_i b13 b2
  repeat' (first | (apply R.is1; first | (apply R.isBin; first | (apply R.pure; exact rfl; first | (apply Ok1.neq_t; exact rfl; exact rfl; omega) | (apply Ok1.neq_f; exact rfl; exact rfl; omega) | (apply Ok1.neqP; (iterate 5 exact rfl)) | (apply Ok1.neqM; (iterate 5 exact rfl)) | (apply Ok1.neqS; (iterate 5 exact rfl))) | (apply R.neq rfl rfl rfl <;> intro) | (apply R.neqF; (iterate 8 exact rfl); all_goals intro)) | (apply R.isCall; first | (apply R.callE (vs := [.slice (some ⟨b2, 0, none⟩) 2 2]); (iterate 3 exact rfl); exact Ext.none _; intro w1 hw1; exact hcc _ w1 b2 b13 hw1 (by simp) (by simp) (Ext.mem (by (focus ((repeat' (first | exact Ext.none _ | exact Ext.one _ _ | exact Ext.here _ _ | exact Ext.all _ | apply Ext.cons | apply Ext.app | apply Ext.two)); done)))); rintro v Lo ⟨ov9, hov9, rfl, rfl⟩) | (apply R.pure; exact rfl; first | (apply Ok1.lenS; (iterate 3 exact rfl)) | (apply Ok1.lenStr; (iterate 3 exact rfl)) | (apply Ok1.lenMm; (iterate 3 exact rfl); (focus ((repeat' (first | exact At.head | apply At.tail | apply At.right)); done))) | (apply Ok1.lenM_nil; (iterate 3 exact rfl)))) | (apply R.pure; exact rfl; first | (apply Ok1.move; exact rfl) | (apply Ok1.assign; exact rfl) | (apply Ok1.extract; exact rfl; exact rfl) | (apply Ok1.slice0; (iterate 7 exact rfl); (refine ⟨?_, ?_, ?_⟩ <;> omega); (first | exact Or.inl rfl | exact Or.inr (fun e => by cases e))) | (apply Ok1.sliceTo; (iterate 6 exact rfl); omega; omega; omega; (first | exact Or.inl rfl | exact Or.inr (fun e => by cases e))) | (apply Ok1.sliceFrom; (iterate 7 exact rfl); omega; omega; omega; omega; omega; (first | exact Or.inl rfl | exact Or.inr (fun e => by cases e)))) | (apply R.alloc; (iterate 3 exact rfl); intro) | (apply R.buildSlice; (iterate 12 exact rfl); intro)) | (apply R.is0; first | (apply R.store; (iterate 6 exact rfl); (focus ((repeat' (first | exact Upd.head | apply Upd.tail | apply Upd.right)); done)); exact rfl) | fail) | (apply R.isG; first | (apply R.guard_run; exact rfl; exact rfl) | (apply R.guard_not; (iterate 3 exact rfl)) | (apply R.guard_not0; exact rfl; exact rfl) | (apply R.guard_un; (iterate 3 exact rfl)) | (apply R.guard_un0; exact rfl; exact rfl) | (apply R.guard rfl rfl ?_ (fun h => ⟨rfl, ?_⟩) <;> try intro)) | apply R.nil | (apply T.is; first | apply T.seq | apply T.region | apply T.block | apply T.scope | apply T.label | apply T.skip | apply T.exit | apply T.ret | (apply T.cond_t; exact rfl) | (apply T.cond_f; exact rfl) | (apply T.cond_h; exact rfl; assumption) | (apply T.cond_n; exact rfl; assumption) | (apply T.cond rfl <;> intro)) | apply Rnd.step)
  (apply RetOk.tt; exact rfl; exact rfl)
  exact ⟨_, by (focus ((repeat' (first | exact Keep.nil _ | exact Ext.one _ _ | exact Ext.here _ _ | exact Ext.all _ | apply Keep.cons | apply Keep.app | apply Keep.last | apply Ext.cons | apply Ext.app)); done)), ov9, hov9, rfl, rfl⟩
end Go.Proofs.Ytligngjcnlbgmaa
set_option linter.unusedSimpArgs false
set_option linter.unusedVariables false
namespace Go.Proofs.Ytligngjcnlbgmaa
open Go.RowKit Go.Shelf
set_option maxRecDepth 100000
theorem num_byt9 (s : Nat) (n : Int) : Byt (numI s n) := by
  unfold numI
  split
  · intro y hy; rw [List.mem_singleton.1 hy]; omega
  · intro y hy; simp only [List.mem_cons, List.not_mem_nil, or_false] at hy; rcases hy with rfl | rfl <;> omega
  · exact len4_byt n
def HRt (o r v : Int) : Prop := 1 ≤ o ∧ o ≤ 65535 ∧ 0 ≤ r ∧ r < 8 ∧ 1 ≤ v ∧ v ≤ 2147483647
instance (o r v : Int) : Decidable (HRt o r v) := by unfold HRt; infer_instance
def headI (o r v : Int) : List Int := (([] ++ numI 1 o) ++ numI 0 r) ++ numI 2 v
theorem headI_len (o r v : Int) : (headI o r v).length = 7 := rfl
theorem headI_byt (o r v : Int) : Byt (headI o r v) := by
  intro y hy
  simp only [headI, List.nil_append, List.append_assoc, List.mem_append] at hy
  rcases hy with h | h | h <;> exact num_byt9 _ _ y h
theorem head_bad (o r v : Int) (h : ¬ HRt o r v) : CallP Try.prog 27 [.int .i64 o, .int .i64 r, .int .i64 v] (.tuple #[.slice none 0 0, .bool false]) := by
  unfold HRt at h
  refine enterP (tb := tb) Try.func27 rfl Try.ntmps27 rfl fun w => ?_
  by_cases h1 : o < 1
  · repeat' (first | (apply R.is1; first | (apply R.isBin; (apply R.pure; exact rfl; (apply Ok1.lss_t; exact rfl; exact rfl; omega))) | (apply R.pure; exact rfl; first | (apply Ok1.move; exact rfl) | (apply Ok1.assign; exact rfl) | (apply Ok1.pick_t; exact rfl; exact rfl))) | (apply R.isG; (apply R.guard_not; (iterate 3 exact rfl))) | apply R.nil | (apply T.is; first | apply T.seq | apply T.region | apply T.ret | (apply T.cond_t; exact rfl)))
    (apply RetOk.tt; exact rfl; exact rfl)
    rfl
  by_cases h2 : 65535 < o
  · repeat' (first | (apply R.is1; first | (apply R.isBin; (apply R.pure; exact rfl; first | (apply Ok1.lss_f; exact rfl; exact rfl; omega) | (apply Ok1.gtr_t; exact rfl; exact rfl; omega))) | (apply R.pure; exact rfl; first | (apply Ok1.move; exact rfl) | (apply Ok1.assign; exact rfl) | (apply Ok1.pick_t; exact rfl; exact rfl) | (apply Ok1.pick_f; exact rfl; exact rfl))) | (apply R.isG; first | (apply R.guard_run; exact rfl; exact rfl) | (apply R.guard_not; (iterate 3 exact rfl))) | apply R.nil | (apply T.is; first | apply T.seq | apply T.region | apply T.ret | (apply T.cond_t; exact rfl)))
    (apply RetOk.tt; exact rfl; exact rfl)
    rfl
  by_cases h3 : r < 0
  · repeat' (first | (apply R.is1; first | (apply R.isBin; (apply R.pure; exact rfl; first | (apply Ok1.lss_t; exact rfl; exact rfl; omega) | (apply Ok1.lss_f; exact rfl; exact rfl; omega) | (apply Ok1.gtr_f; exact rfl; exact rfl; omega))) | (apply R.pure; exact rfl; first | (apply Ok1.move; exact rfl) | (apply Ok1.assign; exact rfl) | (apply Ok1.pick_t; exact rfl; exact rfl) | (apply Ok1.pick_f; exact rfl; exact rfl))) | (apply R.isG; first | (apply R.guard_run; exact rfl; exact rfl) | (apply R.guard_not; (iterate 3 exact rfl))) | apply R.nil | (apply T.is; first | apply T.seq | apply T.region | apply T.ret | (apply T.cond_t; exact rfl)))
    (apply RetOk.tt; exact rfl; exact rfl)
    rfl
  by_cases h4 : 8 ≤ r
  · repeat' (first | (apply R.is1; first | (apply R.isBin; (apply R.pure; exact rfl; first | (apply Ok1.lss_f; exact rfl; exact rfl; omega) | (apply Ok1.gtr_f; exact rfl; exact rfl; omega) | (apply Ok1.geq_t; exact rfl; exact rfl; omega))) | (apply R.pure; exact rfl; first | (apply Ok1.move; exact rfl) | (apply Ok1.assign; exact rfl) | (apply Ok1.pick_t; exact rfl; exact rfl) | (apply Ok1.pick_f; exact rfl; exact rfl))) | (apply R.isG; first | (apply R.guard_run; exact rfl; exact rfl) | (apply R.guard_not; (iterate 3 exact rfl))) | apply R.nil | (apply T.is; first | apply T.seq | apply T.region | apply T.ret | (apply T.cond_t; exact rfl)))
    (apply RetOk.tt; exact rfl; exact rfl)
    rfl
  by_cases h5 : v < 1
  · repeat' (first | (apply R.is1; first | (apply R.isBin; (apply R.pure; exact rfl; first | (apply Ok1.lss_t; exact rfl; exact rfl; omega) | (apply Ok1.lss_f; exact rfl; exact rfl; omega) | (apply Ok1.gtr_f; exact rfl; exact rfl; omega) | (apply Ok1.geq_f; exact rfl; exact rfl; omega))) | (apply R.pure; exact rfl; first | (apply Ok1.move; exact rfl) | (apply Ok1.assign; exact rfl) | (apply Ok1.pick_t; exact rfl; exact rfl) | (apply Ok1.pick_f; exact rfl; exact rfl))) | (apply R.isG; first | (apply R.guard_run; exact rfl; exact rfl) | (apply R.guard_not; (iterate 3 exact rfl))) | apply R.nil | (apply T.is; first | apply T.seq | apply T.region | apply T.ret | (apply T.cond_t; exact rfl)))
    (apply RetOk.tt; exact rfl; exact rfl)
    rfl
  have h6 : 2147483647 < v := by omega
  repeat' (first | (apply R.is1; first | (apply R.isBin; (apply R.pure; exact rfl; first | (apply Ok1.lss_f; exact rfl; exact rfl; omega) | (apply Ok1.gtr_t; exact rfl; exact rfl; omega) | (apply Ok1.gtr_f; exact rfl; exact rfl; omega) | (apply Ok1.geq_f; exact rfl; exact rfl; omega))) | (apply R.pure; exact rfl; first | (apply Ok1.move; exact rfl) | (apply Ok1.assign; exact rfl) | (apply Ok1.pick_f; exact rfl; exact rfl))) | (apply R.isG; (apply R.guard_run; exact rfl; exact rfl)) | apply R.nil | (apply T.is; first | apply T.seq | apply T.region | apply T.ret | (apply T.cond_t; exact rfl)))
  (apply RetOk.tt; exact rfl; exact rfl)
  rfl
theorem head_ok (o r v : Int) (h : HRt o r v) (w : World) : CallM Try.prog 27 [.int .i64 o, .int .i64 r, .int .i64 v] [] w fun x L => ∃ ov, OvOk 1 ov 7 (u8s (headI o r v)) ∧ x = .tuple #[slV ov 7, .bool true] ∧ L = blkL 5 ov (u8s (headI o r v)) := by
  unfold HRt at h
  have hf1 : Fits 1 o := by unfold Fits; omega
  have hf2 : Fits 0 r := by unfold Fits; omega
  have hf3 : Fits 2 v := by unfold Fits; omega
  obtain ⟨B1, hB1⟩ : ∃ B, B = [] ++ numI 1 o := ⟨_, rfl⟩
  obtain ⟨B2, hB2⟩ : ∃ B, B = B1 ++ numI 0 r := ⟨_, rfl⟩
  obtain ⟨B3, hB3⟩ : ∃ B, B = B2 ++ numI 2 v := ⟨_, rfl⟩
  have hB : B3 = headI o r v := by rw [hB3, hB2, hB1]; rfl
  have hl1 : B1.length ≤ 1000 := by rw [hB1]; exact Nat.le_of_ble_eq_true rfl
  have hl2 : B2.length ≤ 1000 := by rw [hB2, hB1]; exact Nat.le_of_ble_eq_true rfl
  have hl3 : B3.length = 7 := by rw [hB, headI_len]
  have hn1 := fun bw bl fz e w1 => number1_ok bw none [] (OvOk.start 1) 1 o hf1 (by decide) bl fz e w1
  have hn2 := fun bw ov hov bl fz e w1 => number1_ok bw ov B1 hov 0 r hf2 hl1 bl fz e w1
  have hn3 := fun bw ov hov bl fz e w1 => number1_ok bw ov B2 hov 2 v hf3 hl2 bl fz e w1
  rw [← hB1] at hn1
  rw [← hB2] at hn2
  rw [← hB3] at hn3
  rw [← hB]
  refine enterK (tb := tb) Try.func27 rfl Try.ntmps27 rfl ?_
  repeat' (first | (apply R.is1; first | (apply R.isBin; (apply R.pure; exact rfl; first | (apply Ok1.lss_f; exact rfl; exact rfl; omega) | (apply Ok1.gtr_f; exact rfl; exact rfl; omega) | (apply Ok1.geq_f; exact rfl; exact rfl; omega))) | (apply R.pure; exact rfl; first | (apply Ok1.move; exact rfl) | (apply Ok1.assign; exact rfl) | (apply Ok1.pick_f; exact rfl; exact rfl)) | (apply R.alloc; (iterate 3 exact rfl); intro) | (apply R.buildSlice; (iterate 12 exact rfl); intro)) | (apply R.isG; (apply R.guard_run; exact rfl; exact rfl)) | apply R.nil | (apply T.is; first | apply T.seq | apply T.region | apply T.skip | (apply T.cond_f; exact rfl)))
  rename_i bw bl
  repeat' ((apply R.is1; first | (apply R.isCall; (apply R.callE (Li := [(bw, .cells ⟨[.slice none 0 0, .int .i64 0]⟩ 84 (0, 0))]) (vs := [.pointer (some ⟨bw, 0, none⟩), .int .i64 1, .slice (some ⟨bl, 0, none⟩) 1 1]); (iterate 3 exact rfl); (focus ((repeat' (first | exact Ext.one _ _ | apply Ext.cons)); done)); intro w1 hw1; exact hn1 bw bl _ _ w1 (hw1.get _ _ List.mem_cons_self) (RdSl.off hw1 (by (focus ((repeat' (first | exact Ext.one _ _ | apply Ext.cons)); done))) List.mem_cons_self); rintro x Lo ⟨ov1, rfl, hov1, rfl⟩)) | (apply R.pure; exact rfl; (apply Ok1.move; exact rfl)) | (apply R.buildSlice; (iterate 12 exact rfl); intro)))
  rename_i bl2
  have h2 := fun bl fz e w1 => hn2 bw ov1 hov1 bl fz e w1
  generalize WL bw ov1 B1 = W1 at h2 ⊢
  repeat' ((apply R.is1; first | (apply R.isCall; (apply R.callE (Li := W1) (vs := [.pointer (some ⟨bw, 0, none⟩), .int .i64 0, .slice (some ⟨bl2, 0, none⟩) 1 1]); (iterate 3 exact rfl); (focus ((repeat' (first | exact Ext.here _ _ | apply Ext.cons)); done)); intro w1 hw1; exact h2 bl2 _ _ w1 (hw1.get _ _ List.mem_cons_self) (RdSl.off hw1 (by (focus ((repeat' (first | exact Ext.here _ _ | apply Ext.cons)); done))) List.mem_cons_self); rintro x Lo ⟨ov2, rfl, hov2, rfl⟩)) | (apply R.pure; exact rfl; (apply Ok1.move; exact rfl)) | (apply R.buildSlice; (iterate 12 exact rfl); intro)))
  rename_i bl3
  have h3 := fun bl fz e w1 => hn3 bw ov2 hov2 bl fz e w1
  generalize WL bw ov2 B2 = W2 at h3 ⊢
  repeat' ((apply R.is1; (apply R.isCall; (apply R.callE (Li := W2) (vs := [.pointer (some ⟨bw, 0, none⟩), .int .i64 2, .slice (some ⟨bl3, 0, none⟩) 1 1]); (iterate 3 exact rfl); (focus ((repeat' (first | exact Ext.here _ _ | apply Ext.cons)); done)); intro w1 hw1; exact h3 bl3 _ _ w1 (hw1.get _ _ List.mem_cons_self) (RdSl.off hw1 (by (focus ((repeat' (first | exact Ext.here _ _ | apply Ext.cons)); done))) List.mem_cons_self); rintro x Lo ⟨ov3, rfl, hov3, rfl⟩))))
  have h4 : ∀ L w1, Hp w [] L w1 → (∀ z ∈ WL bw ov3 B3, z ∈ L) → CallM Try.prog 36 [.pointer (some ⟨bw, 0, none⟩)] [] w1 fun v L => ∃ ov', OvOk 1 ov' B3.length (u8s B3) ∧ v = .tuple #[slV ov' B3.length, .int .i64 0] ∧ L = blkL 5 ov' (u8s B3) := fun L w1 h1 h2 => wout_ok bw ov3 B3 hov3 (by rw [hl3]; decide) w1 (h1.get _ _ (h2 _ List.mem_cons_self)) (rdown hov3 h1 fun z hz => h2 z (List.mem_cons_of_mem _ hz))
  generalize WL bw ov3 B3 = W3 at h4 ⊢
  rw [hl3] at h4
  repeat' (first | (apply R.is1; first | (apply R.isCall; (apply R.callE (vs := [.pointer (some ⟨bw, 0, none⟩)]); (iterate 3 exact rfl); exact Ext.none _; intro w1 hw1; exact h4 _ w1 hw1 (Ext.mem (by (focus ((repeat' (exact Ext.here _ _)); done)))); rintro x Lo ⟨ov9, hov9, rfl, rfl⟩)) | (apply R.pure; exact rfl; first | (apply Ok1.move; exact rfl) | (apply Ok1.assign; exact rfl) | (apply Ok1.extract; exact rfl; exact rfl))) | apply R.nil | (apply T.is; first | apply T.seq | apply T.region | apply T.ret))
  (apply RetOk.tt; exact rfl; exact rfl)
  exact ⟨_, by (focus ((repeat' (first | exact Ext.here _ _ | apply Keep.last)); done)), ov9, hov9, rfl, rfl⟩
def ntC (o r v : Int) (p : Option Addr) (n cap : Nat) : List Value := [.int .i64 o, .int .i64 r, .int .i64 v, .slice p n cap]
end Go.Proofs.Ytligngjcnlbgmaa
set_option linter.unusedSimpArgs false
set_option linter.unusedVariables false
namespace Go.Proofs.Ytligngjcnlbgmaa
open Go.ChangeShapes Go.WideShapes Go.ChangeAt Go.RowKit
theorem ownY : ownKnob Try.prog.godebug = none := by kernel_rfl
theorem laidY : laidOutB Try.prog = true := by kernel_rfl
section
variable {H : Type} {enc : TypeId × Value → H} {P : Program} {w : World} {base : Nat} {spare : Nat → Bool} {held : Bool}
end
theorem int1_dec {cs : List Value} (h : allW [.int .i64] cs) : ∃ a : Int, cs = [.int .i64 a] := by
  match cs, h with
  | [.int k1 a], h =>
    obtain ⟨⟨rfl, _⟩, _⟩ := h
    exact ⟨a, rfl⟩
end Go.Proofs.Ytligngjcnlbgmaa
set_option linter.unusedSimpArgs false
set_option linter.unusedVariables false
namespace Go.Proofs.Ytligngjcnlbgmaa
open Go.RowKit Go.Shelf
set_option maxRecDepth 100000
def nsE (o r v : Int) (n : Nat) : Int := if ¬ HRt o r v then 10 else if 64 < n then 2 else 0
theorem nseal_bad (bk : Nat) (o r v : Int) (p : Option Addr) (n cap : Nat) (hne : nsE o r v n ≠ 0) (w : World) : CallM Try.prog 17 [.pointer (some ⟨bk, 0, none⟩), .agg ⟨ntC o r v p n cap⟩] [] w fun x L => x = .tuple #[.agg ⟨ntC 0 0 0 none 0 0⟩, .int .i64 (nsE o r v n)] ∧ L = [] := by
  by_cases h : HRt o r v
  · have hh := fun w1 => head_ok o r v h w1
    have h64 : 64 < n := by
      unfold nsE at hne
      rw [if_neg (fun g => g h)] at hne
      by_cases g : 64 < n
      · exact g
      · rw [if_neg g] at hne; exact absurd rfl hne
    have he : nsE o r v n = 2 := by unfold nsE; rw [if_neg (fun g => g h), if_pos h64]
    rw [he]
    refine enterK (tb := tb) Try.func17 rfl Try.ntmps17 rfl ?_
    simp only [ntC]
    repeat' (first | (apply R.is1; first | (apply R.isBin; (apply R.pure; exact rfl; first | (apply Ok1.eqlP; (iterate 5 exact rfl)) | (apply Ok1.gtr_t; exact rfl; exact rfl; omega))) | (apply R.isCall; first | (apply R.callE (vs := [.int .i64 o, .int .i64 r, .int .i64 v]); (iterate 3 exact rfl); exact Ext.none _; intro w1 hw1; exact hh w1; rintro x Lo ⟨ov7, hov7, rfl, rfl⟩; rw [slV_eq hov7]) | (apply R.pure; exact rfl; (apply Ok1.lenS; (iterate 3 exact rfl)))) | (apply R.pure; exact rfl; first | (apply Ok1.move; exact rfl) | (apply Ok1.fieldAddr; (iterate 5 exact rfl)) | (apply Ok1.load; exact rfl; (apply Ld.own1; exact rfl; exact rfl; (focus ((repeat' (first | exact At.head | apply At.tail | apply At.right)); done)); exact rfl)) | (apply Ok1.assign; exact rfl) | (apply Ok1.build; (iterate 5 exact rfl)) | (apply Ok1.extract; exact rfl; exact rfl) | (apply Ok1.not_t; exact rfl)) | (apply R.box; (iterate 3 exact rfl); intro) | (apply R.alloc; (iterate 3 exact rfl); intro)) | (apply R.is0; (apply R.store; (iterate 6 exact rfl); (focus ((repeat' (first | exact Upd.head | apply Upd.right)); done)); exact rfl)) | apply R.nil | (apply T.is; first | apply T.seq | apply T.region | apply T.block | apply T.ret | (apply T.cond_t; exact rfl) | (apply T.cond_f; exact rfl)))
    (apply RetOk.ct; exact rfl; ((apply Ld.ownk; exact rfl; exact rfl; (focus ((repeat' (first | exact At.head | apply At.right)); done)); exact rfl)); exact rfl)
    exact ⟨[], by (focus ((repeat' (exact Keep.nil _)); done)), rfl, rfl⟩
  · have hb := head_bad o r v h
    have he : nsE o r v n = 10 := by unfold nsE; rw [if_pos h]
    rw [he]
    refine enterK (tb := tb) Try.func17 rfl Try.ntmps17 rfl ?_
    simp only [ntC]
    repeat' (first | (apply R.is1; first | (apply R.isBin; (apply R.pure; exact rfl; (apply Ok1.eqlP; (iterate 5 exact rfl)))) | (apply R.isCall; apply R.callP rfl rfl rfl hb) | (apply R.pure; exact rfl; first | (apply Ok1.move; exact rfl) | (apply Ok1.fieldAddr; (iterate 5 exact rfl)) | (apply Ok1.load; exact rfl; (apply Ld.own1; exact rfl; exact rfl; (focus ((repeat' (first | exact At.head | apply At.tail)); done)); exact rfl)) | (apply Ok1.assign; exact rfl) | (apply Ok1.build; (iterate 5 exact rfl)) | (apply Ok1.extract; exact rfl; exact rfl) | (apply Ok1.not_f; exact rfl)) | (apply R.box; (iterate 3 exact rfl); intro) | (apply R.alloc; (iterate 3 exact rfl); intro)) | (apply R.is0; (apply R.store; (iterate 6 exact rfl); exact Upd.head; exact rfl)) | apply R.nil | (apply T.is; first | apply T.seq | apply T.region | apply T.block | apply T.ret | (apply T.cond_t; exact rfl) | (apply T.cond_f; exact rfl)))
    (apply RetOk.ct; exact rfl; ((apply Ld.ownk; exact rfl; exact rfl; exact At.head; exact rfl)); exact rfl)
    exact ⟨[], by (focus ((repeat' (exact Keep.nil _)); done)), rfl, rfl⟩
/-- A note's bytes, sealed. -/
def nsI (k : List Int) (o r v : Int) (xs : List Int) : List Int := sealI k (headI o r v) (headI o r v) xs
theorem nseal_ok (bk : Nat) (k : List Int) (hkl : k.length ≤ 999999000) (hkb : Byt k) (o r v : Int) (p : Option Addr) (n cap : Nat) (xs : List Int) (hn : n = xs.length) (hby : Byt xs) (h : HRt o r v) (h64 : n ≤ 64) (w : World) (hk : KeyR w bk k) (hp : RdSl w p u8V xs) : CallM Try.prog 17 [.pointer (some ⟨bk, 0, none⟩), .agg ⟨ntC o r v p n cap⟩] [] w fun x L => ∃ ov, OvOk 1 ov (n + 32) (u8s (nsI k o r v xs)) ∧ x = .tuple #[.agg ⟨ntC o r v (ovp ov) (n + 32) (ovc ov (n + 32))⟩, .int .i64 0] ∧ L = blkL 5 ov (u8s (nsI k o r v xs)) := by
  have hh := fun w1 => head_ok o r v h w1
  have hhl := headI_len o r v
  have hhb := headI_byt o r v
  have hss : nsI k o r v xs = sealI k (headI o r v) (headI o r v) xs := rfl
  have hse := fun q c w1 (hc : Chg [] w w1) h1 => sseal_ok bk k hkl hkb q 7 c (headI o r v) hhl.symm (by decide) hhb q 7 c (headI o r v) hhl.symm (by decide) hhb p n cap xs hn (by omega) hby w1 (hk.chg hc) h1 h1 (hp.chg' hc (fun _ => Off.nil _))
  rw [← hss] at hse
  generalize nsI k o r v xs = SS at *
  generalize headI o r v = H at *
  refine enterK (tb := tb) Try.func17 rfl Try.ntmps17 rfl ?_
  simp only [ntC]
  repeat' (first | (apply R.is1; first | (apply R.isBin; (apply R.pure; exact rfl; first | (apply Ok1.eqlP; (iterate 5 exact rfl)) | (apply Ok1.gtr_f; exact rfl; exact rfl; omega))) | (apply R.isCall; first | (apply R.callE (vs := [.int .i64 o, .int .i64 r, .int .i64 v]); (iterate 3 exact rfl); exact Ext.none _; intro w1 hw1; exact hh w1; rintro x Lo ⟨ov7, hov7, rfl, rfl⟩; rw [slV_eq hov7]) | (apply R.callE (vs := [.pointer (some ⟨bk, 0, none⟩), .slice (ovp ov7) 7 (ovc ov7 7), .slice (ovp ov7) 7 (ovc ov7 7), .slice p n cap]); (iterate 3 exact rfl); exact Ext.none _; intro w1 hw1; exact hse _ _ w1 hw1.chg (rdown (by rw [hhl]; exact hov7) hw1 (Ext.mem (by (focus ((repeat' (exact Ext.here _ _)); done))))); rintro x Lo ⟨ov9, hov9, rfl, rfl⟩; rw [slV_eq hov9]) | (apply R.pure; exact rfl; (apply Ok1.lenS; (iterate 3 exact rfl)))) | (apply R.pure; exact rfl; first | (apply Ok1.move; exact rfl) | (apply Ok1.fieldAddr; (iterate 5 exact rfl)) | (apply Ok1.load; exact rfl; (apply Ld.own1; exact rfl; exact rfl; (focus ((repeat' (first | exact At.head | apply At.tail | apply At.right)); done)); exact rfl)) | (apply Ok1.assign; exact rfl) | (apply Ok1.build; (iterate 5 exact rfl)) | (apply Ok1.extract; exact rfl; exact rfl) | (apply Ok1.not_t; exact rfl)) | (apply R.box; (iterate 3 exact rfl); intro) | (apply R.alloc; (iterate 3 exact rfl); intro)) | (apply R.is0; (apply R.store; (iterate 6 exact rfl); (focus ((repeat' (first | exact Upd.head | apply Upd.right)); done)); exact rfl)) | apply R.nil | (apply T.is; first | apply T.seq | apply T.region | apply T.block | apply T.skip | apply T.ret | (apply T.cond_f; exact rfl)))
  (apply RetOk.ct; exact rfl; ((apply Ld.ownk; exact rfl; exact rfl; (focus ((repeat' (first | exact At.head | apply At.right)); done)); exact rfl)); exact rfl)
  exact ⟨_, by (focus ((repeat' (first | exact Ext.here _ _ | apply Keep.last)); done)), ov9, hov9, rfl, rfl⟩
end Go.Proofs.Ytligngjcnlbgmaa
set_option linter.unusedSimpArgs false
set_option linter.unusedVariables false
namespace Go.Proofs.Ytligngjcnlbgmaa
open Go.RowKit Go.Shelf
theorem KeyT.flatA {P : Program} (tb : Tb P) {t : Nat} {r : TRow} {ks : List TK} {κ : Type} (enc : κ → List Value) (ht : tb.row t = some r) {n e : Nat} (hk : r.k = .arr n e) (hf : flatE tb 8 t = some ks) (ho : ∀ k, allOk ks (enc k) = true) (hi : ∀ a b, enc a = enc b → a = b) :
    KeyT P t (fun k => .agg ⟨enc k⟩) := by
  refine ⟨fun w a b => ?_, fun w e9 a => ?_, fun a => ?_, ?_⟩
  · obtain ⟨b', r1, r2⟩ := Op_equal_flat tb ht (by rw [hk]; rfl) hf (ho a) (ho b) w
    exact ⟨b', r1, r2.trans ⟨hi a b, fun e => by rw [e]⟩⟩
  · obtain ⟨ag, a1, a2, a3⟩ := chkFlat tb e9 8 t ks hf
    have : ag = true := by
      have e1 := a1 w
      rw [(tb.get ht).agg (b := true) (by rw [hk]; rfl) w] at e1
      injection e1 with e1 _
      exact e1.symm
    subst this
    simpa [valOf] using a3 10000 (by omega) w _ (ho a)
  · have h := sameBits_flat (ho a)
    show (((Array.mk (enc a)).size == (Array.mk (enc a)).size) && ((Array.mk (enc a)).toList.zip (Array.mk (enc a)).toList).all fun (x, y) => Instr.sameBits 9999 x y) = true
    simp only [beq_self_eq_true, Bool.true_and]
    exact h
  · have his := (tb.get ht).is
    rw [hk] at his
    exact ⟨_, his, .inl fun a b => rfl⟩
/-- The blocks of the second list are taken out of the first, one by one. -/
def Rem9 : Lst → Lst → Lst → Prop
  | L, [], L2 => L = L2
  | L, x :: s, L2 => ∃ P Q, L = P ++ x :: Q ∧ Rem9 (P ++ Q) s L2
theorem Rem9.ext : ∀ (s L L2 : Lst), Rem9 L s L2 → Ext L s L2
  | [], L, L2, h => by
    have h' : L = L2 := h
    subst h'
    exact .none L
  | x :: s, L, L2, h => by
    obtain ⟨P, Q, rfl, h⟩ := h
    exact .two x (.app P (.one x Q)) (Rem9.ext s _ _ h)
theorem Rem9.cons (y : Nat × Obj) : ∀ (s L L2 : Lst), Rem9 L s L2 → Rem9 (y :: L) s (y :: L2)
  | [], L, L2, h => by
    have h' : L = L2 := h
    subst h'
    exact rfl
  | x :: s, L, L2, h => by
    obtain ⟨P, Q, rfl, h⟩ := h
    exact ⟨y :: P, Q, rfl, Rem9.cons y s _ _ h⟩
theorem Rem9.app (B : Lst) {s L L2 : Lst} (h : Rem9 L s L2) : Rem9 (B ++ L) s (B ++ L2) := by
  induction B with
  | nil => exact h
  | cons y B ih => exact Rem9.cons y _ _ _ ih
theorem Rem9.cat : ∀ (C L L1 s L2 : Lst), Rem9 L C L1 → Rem9 L1 s L2 → Rem9 L (C ++ s) L2
  | [], L, L1, s, L2, h, h2 => by
    have h' : L = L1 := h
    subst h'
    exact h2
  | x :: C, L, L1, s, L2, h, h2 => by
    obtain ⟨P, Q, rfl, h⟩ := h
    exact ⟨P, Q, rfl, Rem9.cat C _ _ _ _ h h2⟩
theorem Rem9.here : ∀ (C B : Lst), Rem9 (C ++ B) C B
  | [], B => rfl
  | x :: C, B => ⟨[], C ++ B, rfl, Rem9.here C B⟩
theorem Ext.rem9 {L s L1 : Lst} (h : Ext L s L1) : Rem9 L s L1 := by
  induction h with
  | none L => exact rfl
  | all L => have := Rem9.here L []; rwa [List.append_nil] at this
  | here C B => exact Rem9.here C B
  | one x L => exact ⟨[], L, rfl, rfl⟩
  | cons x _ ih => exact Rem9.cons x _ _ _ ih
  | app C _ ih => exact Rem9.app C ih
  | two x _ _ ih1 ih2 =>
    obtain ⟨P, Q, h1, h2⟩ := ih1
    have h2' : P ++ Q = _ := h2
    exact ⟨P, Q, h1, h2' ▸ ih2⟩
/-- A part that lies in two pieces. -/
theorem Ext.cat9 {L C L1 s L2 : Lst} (h1 : Ext L C L1) (h2 : Ext L1 s L2) : Ext L (C ++ s) L2 := Rem9.ext _ _ _ (Rem9.cat _ _ _ _ _ h1.rem9 h2.rem9)
end Go.Proofs.Ytligngjcnlbgmaa
set_option linter.unusedSimpArgs false
set_option linter.unusedVariables false
namespace Go.Proofs.Ytligngjcnlbgmaa
open Go.RowKit Go.Shelf
set_option maxRecDepth 100000
def kv2 (k : Int × Int) : Value := .agg ⟨[.int .i64 k.1, .int .i64 k.2]⟩
theorem kt2 : KeyT Try.prog 78 kv2 := KeyT.flatA tb (fun k : Int × Int => [.int .i64 k.1, .int .i64 k.2]) rfl rfl rfl (fun _ => rfl) fun a b h => by
  simp only [List.cons.injEq, Value.int.injEq, true_and, and_true] at h
  exact Prod.ext h.1 h.2
/-- An entry of a store. -/
structure SE where
  o : Int
  r : Int
  ver : Int
  bov : Ov
  body : List Int
  vov : Ov
  val : List Int
  op : Bool
def SE.v (e : SE) : List Value := [.int .i64 e.o, .int .i64 e.r, .int .i64 e.ver, slV e.bov e.body.length, slV e.vov e.val.length, .bool e.op]
def SE.L (e : SE) : Lst := blkL 5 e.bov (u8s e.body) ++ blkL 5 e.vov (u8s e.val)
def evS (e : SE) : Value := .agg ⟨[.int .i64 e.o, .int .i64 e.r, .int .i64 e.ver, slV e.bov e.body.length, slV e.vov e.val.length, .bool e.op]⟩
abbrev SMs := Ms (Int × Int) SE
def SX (ms : SMs) : Lst := ms.flatMap fun x => x.2.1.L
def SL (bs bm : Nat) (ms : SMs) (clk : Nat) : Lst := (bs, .cells ⟨[.map (some bm)]⟩ 65 (0, 0)) :: (bm, mobj kv2 evS ms clk) :: SX ms
theorem stnew_ok (w : World) : CallM Try.prog 8 [] [] w fun v L => ∃ bs bm, v = .pointer (some ⟨bs, 0, none⟩) ∧ L = SL bs bm [] 0 := by
  refine enterK (tb := tb) Try.func8 rfl Try.ntmps8 rfl ?_
  repeat' (first | (apply R.is1; first | (apply R.makeMap kv2 evS; exact rfl; intro bm) | (apply R.pure; exact rfl; first | (apply Ok1.assign; exact rfl) | (apply Ok1.build; (iterate 5 exact rfl))) | (apply R.box; (iterate 3 exact rfl); intro)) | apply R.nil | (apply T.is; first | apply T.seq | apply T.region | apply T.ret))
  (apply RetOk.t; exact rfl)
  exact ⟨_, by (focus ((repeat' (first | exact Keep.nil _ | exact Ext.one _ _ | apply Keep.cons)); done)), _, bm, rfl, rfl⟩
def verI (ms : SMs) (k : Int × Int) : Int := match mget k ms with | some e => e.ver | none => 0
theorem stver_ok (bs bm : Nat) (ms : SMs) (clk : Nat) (o r : Int) (w : World) : CallM Try.prog 19 [.pointer (some ⟨bs, 0, none⟩), .int .i64 o, .int .i64 r] (SL bs bm ms clk) w fun v L => v = .int .i64 (verI ms (o, r)) ∧ L = SL bs bm ms clk := by
  cases hm : mget (o, r) ms with
  | some e =>
    have hv : verI ms (o, r) = e.ver := by unfold verI; rw [hm]
    rw [hv]
    refine enterK (tb := tb) Try.func19 rfl Try.ntmps19 rfl ?_
    simp only [SL]
    generalize SX ms = X
    repeat' (first | (apply R.is1; first | (apply R.isBin; (apply R.pure; exact rfl; (apply Ok1.eqlP; (iterate 5 exact rfl)))) | (apply R.pure; exact rfl; first | (apply Ok1.lookup_some (kv := kv2) (vv := evS) (o, r) kt2; (iterate 6 exact rfl); (focus ((repeat' (first | exact At.head | apply At.tail)); done)); assumption; (exact (if_neg Bool.false_ne_true).symm)) | (apply Ok1.move; exact rfl) | (apply Ok1.fieldAddr; (iterate 5 exact rfl)) | (apply Ok1.load; exact rfl; (apply Ld.own1; exact rfl; exact rfl; exact At.head; exact rfl)) | (apply Ok1.assign; exact rfl) | (apply Ok1.nilCheck; exact rfl) | (apply Ok1.buildA; (iterate 6 exact rfl)) | (apply Ok1.field1; (iterate 7 exact rfl)) | (apply Ok1.fieldk; (iterate 7 exact rfl)))) | apply R.nil | (apply T.is; first | apply T.seq | apply T.region | apply T.skip | apply T.ret | (apply T.cond_f; exact rfl)))
    (apply RetOk.t; exact rfl)
    exact ⟨_, by (focus ((repeat' (first | exact Ext.one _ _ | exact Ext.all _ | apply Keep.cons | apply Keep.last)); done)), rfl, rfl⟩
  | none =>
    have hv : verI ms (o, r) = 0 := by unfold verI; rw [hm]
    rw [hv]
    refine enterK (tb := tb) Try.func19 rfl Try.ntmps19 rfl ?_
    simp only [SL]
    generalize SX ms = X
    repeat' (first | (apply R.is1; first | (apply R.isBin; (apply R.pure; exact rfl; (apply Ok1.eqlP; (iterate 5 exact rfl)))) | (apply R.pure; exact rfl; first | (apply Ok1.lookup_none (kv := kv2) (vv := evS) (o, r) kt2; (iterate 6 exact rfl); (focus ((repeat' (first | exact At.head | apply At.tail)); done)); assumption; (exact (if_neg Bool.false_ne_true).symm)) | (apply Ok1.move; exact rfl) | (apply Ok1.fieldAddr; (iterate 5 exact rfl)) | (apply Ok1.load; exact rfl; (apply Ld.own1; exact rfl; exact rfl; exact At.head; exact rfl)) | (apply Ok1.assign; exact rfl) | (apply Ok1.nilCheck; exact rfl) | (apply Ok1.buildA; (iterate 6 exact rfl)) | (apply Ok1.field1; (iterate 7 exact rfl)) | (apply Ok1.fieldk; (iterate 7 exact rfl)))) | apply R.nil | (apply T.is; first | apply T.seq | apply T.region | apply T.skip | apply T.ret | (apply T.cond_f; exact rfl)))
    (apply RetOk.t; exact rfl)
    exact ⟨_, by (focus ((repeat' (first | exact Ext.one _ _ | exact Ext.all _ | apply Keep.cons | apply Keep.last)); done)), rfl, rfl⟩
theorem SX_app (a b : SMs) : SX (a ++ b) = SX a ++ SX b := List.flatMap_append
theorem SX_cons (x : (Int × Int) × SE × Nat) (b : SMs) : SX (x :: b) = x.2.1.L ++ SX b := List.flatMap_cons
theorem mset_split9 {κ α : Type} [DecidableEq κ] {k : κ} {a e : α} : ∀ {ms : Ms κ α}, mget k ms = some a → ∃ A c B, ms = A ++ (k, a, c) :: B ∧ mset k e ms = A ++ (k, e, c) :: B
  | [], h => by simp [mget] at h
  | x :: r, h => by
    simp only [mget] at h
    simp only [mset]
    by_cases hx : x.1 = k
    · rw [if_pos hx] at h ⊢
      cases h
      exact ⟨[], x.2.2, r, by rw [← hx]; rfl, by simp [hx]⟩
    · rw [if_neg hx] at h ⊢
      obtain ⟨A, c, B, h1, h2⟩ := mset_split9 (e := e) h
      exact ⟨x :: A, c, B, by rw [h1]; rfl, by rw [h2]; rfl⟩
def putE (ms : SMs) (k : Int × Int) : Int := match mget k ms with | some _ => 0 | none => if ms.length = 64 then 6 else 0
def putM (ms : SMs) (clk : Nat) (k : Int × Int) (e : SE) : SMs × Nat := match mget k ms with | some _ => (mset k e ms, clk) | none => if ms.length = 64 then (ms, clk) else (ms ++ [(k, e, clk)], clk + 1)
theorem stput_ok (bs bm : Nat) (ms : SMs) (clk : Nat) (hver : ∀ k a, mget k ms = some a → a.ver ≠ 0) (e : SE) (w : World) : CallM Try.prog 25 [.pointer (some ⟨bs, 0, none⟩), evS e] (SL bs bm ms clk ++ e.L) w fun v L => v = .int .i64 (putE ms (e.o, e.r)) ∧ L = SL bs bm (putM ms clk (e.o, e.r) e).1 (putM ms clk (e.o, e.r) e).2 := by
  generalize hEL : e.L = EL
  cases hm : mget (e.o, e.r) ms with
  | some a =>
    have h1 : putE ms (e.o, e.r) = 0 := by unfold putE; rw [hm]
    have h2 : putM ms clk (e.o, e.r) e = (mset (e.o, e.r) e ms, clk) := by unfold putM; rw [hm]
    have hva := hver _ _ hm
    obtain ⟨MA, c, MB, hA, hB⟩ := mset_split9 (e := e) hm
    have hX : SX ms = SX MA ++ (a.L ++ SX MB) := by rw [hA, SX_app, SX_cons]
    have hX2 : SX (mset (e.o, e.r) e ms) = SX MA ++ (EL ++ SX MB) := by rw [hB, SX_app, SX_cons, hEL]
    rw [h1, h2]
    refine enterK (tb := tb) Try.func25 rfl Try.ntmps25 rfl ?_
    simp only [SL, evS, hX, hX2]
    generalize SX MA = XA
    generalize SX MB = XB
    generalize a.L = AL
    repeat' (first | (apply R.is1; first | (apply R.pure; exact rfl; first | (apply Ok1.fieldAddr; (iterate 5 exact rfl)) | (apply Ok1.load; exact rfl; (apply Ld.own1; exact rfl; exact rfl; exact At.head; exact rfl)) | (apply Ok1.assign; exact rfl) | (apply Ok1.buildA; (iterate 6 exact rfl))) | (apply R.box; (iterate 3 exact rfl); intro) | (apply R.alloc; (iterate 3 exact rfl); intro)) | (apply R.is0; (apply R.store; (iterate 6 exact rfl); exact Upd.head; exact rfl)) | apply R.nil | (apply T.is; first | (apply T.drawC (id := 2) [0,2,3] (by decide); ((apply A.take 0; exact rfl; exact rfl; kernel_rfl; kernel_rfl; kernel_rfl; (apply Ok1.move; exact rfl)) <;> (apply A.take 1; exact rfl; exact rfl; kernel_rfl; kernel_rfl; kernel_rfl; (apply Ok1.nilCheck; exact rfl)) <;> (apply A.take 2; exact rfl; exact rfl; kernel_rfl; kernel_rfl; kernel_rfl; (apply Ok1.fieldAddr; (iterate 5 exact rfl))) <;> (apply A.take 3; exact rfl; exact rfl; kernel_rfl; kernel_rfl; kernel_rfl; (apply Ok1.load; exact rfl; (apply Ld.own1; exact rfl; exact rfl; (focus ((repeat' (first | exact At.head | apply At.tail)); done)); exact rfl))) <;> (apply A.take 4; exact rfl; exact rfl; kernel_rfl; kernel_rfl; kernel_rfl; (apply Ok1.load; exact rfl; (apply Ld.ownk; exact rfl; exact rfl; exact At.head; exact rfl))) <;> (apply A.take 5; exact rfl; exact rfl; kernel_rfl; kernel_rfl; kernel_rfl; (apply Ok1.lookup_some (kv := kv2) (vv := evS) (e.o, e.r) kt2; (iterate 6 exact rfl); (focus ((repeat' (first | exact At.head | apply At.tail)); done)); assumption; (exact (if_neg Bool.false_ne_true).symm))) <;> (apply A.take 6; exact rfl; exact rfl; kernel_rfl; kernel_rfl; kernel_rfl; (apply Ok1.fieldk; (iterate 7 exact rfl))) <;> (apply A.take 7; exact rfl; exact rfl; kernel_rfl; kernel_rfl; kernel_rfl; (apply Ok1.field1; (iterate 7 exact rfl))) <;> ((apply A.take 8; exact rfl; exact rfl; kernel_rfl; kernel_rfl; kernel_rfl; (apply Ok1.eql_f; exact rfl; exact rfl; omega))) <;> (apply A.take 9; exact rfl; exact rfl; kernel_rfl; kernel_rfl; kernel_rfl; (apply Ok1.move; exact rfl)) <;> ((apply A.skipG 10; exact rfl; exact rfl; rotate_left 3; exact rfl; exact rfl; rotate_right 3; kernel_rfl; kernel_rfl; kernel_rfl)) <;> ((apply A.skipG 11; exact rfl; exact rfl; rotate_left 3; exact rfl; exact rfl; rotate_right 3; kernel_rfl; kernel_rfl; kernel_rfl)) <;> ((apply A.skipG 12; exact rfl; exact rfl; rotate_left 3; exact rfl; exact rfl; rotate_right 3; kernel_rfl; kernel_rfl; kernel_rfl)) <;> ((apply A.skipG 13; exact rfl; exact rfl; rotate_left 3; exact rfl; exact rfl; rotate_right 3; kernel_rfl; kernel_rfl; kernel_rfl)) <;> ((apply A.skipG 14; exact rfl; exact rfl; rotate_left 3; exact rfl; exact rfl; rotate_right 3; kernel_rfl; kernel_rfl; kernel_rfl)) <;> ((apply A.skipG 15; exact rfl; exact rfl; rotate_left 3; exact rfl; exact rfl; rotate_right 3; kernel_rfl; kernel_rfl; kernel_rfl)) <;> (apply A.take 16; exact rfl; exact rfl; kernel_rfl; kernel_rfl; kernel_rfl; (apply Ok1.pick_f; exact rfl; exact rfl)) <;> (apply A.done; kernel_rfl))) | (apply T.drawC (id := 4) [0,1,2] (by decide); ((apply A.take 0; exact rfl; exact rfl; kernel_rfl; kernel_rfl; kernel_rfl; (apply Ok1.move; exact rfl)) <;> (apply A.take 1; exact rfl; exact rfl; kernel_rfl; kernel_rfl; kernel_rfl; (apply Ok1.nilCheck; exact rfl)) <;> (apply A.take 2; exact rfl; exact rfl; kernel_rfl; kernel_rfl; kernel_rfl; (apply Ok1.fieldAddr; (iterate 5 exact rfl))) <;> (apply A.take 3; exact rfl; exact rfl; kernel_rfl; kernel_rfl; kernel_rfl; (apply Ok1.load; exact rfl; (apply Ld.own1; exact rfl; exact rfl; (focus ((repeat' (first | exact At.head | apply At.tail)); done)); exact rfl))) <;> (apply A.take 4; exact rfl; exact rfl; kernel_rfl; kernel_rfl; kernel_rfl; (apply Ok1.load; exact rfl; (apply Ld.ownk; exact rfl; exact rfl; exact At.head; exact rfl))) <;> (apply A.take 5; exact rfl; exact rfl; kernel_rfl; kernel_rfl; kernel_rfl; (apply Ok1.load; exact rfl; (apply Ld.ownk; exact rfl; exact rfl; (focus ((repeat' (first | exact At.head | apply At.tail)); done)); exact rfl))) <;> (apply A.one 6; kernel_rfl; exact rfl; (((apply R.mapSet_old (kv := kv2) (vv := evS) (a := e) (e.o, e.r) kt2; (iterate 7 exact rfl); (focus ((repeat' (first | exact Upd.head | apply Upd.tail)); done)); exact hm))); apply R.nil; refine ⟨?_, ?_⟩; (focus ((repeat' (first | exact trivial | (refine ⟨?_, ?_⟩; (focus ((repeat' (first | exact At.head | apply At.tail)); done)))))))) <;> (apply A.done; kernel_rfl))) | apply T.seq | apply T.region | apply T.skip | apply T.ret | (apply T.cond_f; exact rfl)))
    (apply RetOk.t; exact rfl)
    refine ⟨_, ?_, rfl, rfl⟩
    simp only [List.append_eq, List.append_assoc, List.cons_append]
    (focus ((repeat' (first | exact Ext.one _ _ | exact Ext.here _ _ | exact Ext.all _ | apply Keep.cons | apply Keep.app | apply Keep.last | apply Ext.cons | apply Ext.app)); done))
  | none =>
    by_cases h64 : ms.length = 64
    · have h1 : putE ms (e.o, e.r) = 6 := by unfold putE; rw [hm]; exact if_pos h64
      have h2 : putM ms clk (e.o, e.r) e = (ms, clk) := by unfold putM; rw [hm]; exact if_pos h64
      have h6 : ((ms.length : Nat) : Int) = 64 := by omega
      rw [h1, h2]
      refine enterK (tb := tb) Try.func25 rfl Try.ntmps25 rfl ?_
      simp only [SL, evS]
      generalize SX ms = X9
      repeat' (first | (apply R.is1; first | (apply R.pure; exact rfl; first | (apply Ok1.fieldAddr; (iterate 5 exact rfl)) | (apply Ok1.load; exact rfl; (apply Ld.own1; exact rfl; exact rfl; exact At.head; exact rfl)) | (apply Ok1.assign; exact rfl) | (apply Ok1.buildA; (iterate 6 exact rfl))) | (apply R.box; (iterate 3 exact rfl); intro) | (apply R.alloc; (iterate 3 exact rfl); intro)) | (apply R.is0; (apply R.store; (iterate 6 exact rfl); exact Upd.head; exact rfl)) | apply R.nil | (apply T.is; first | (apply T.drawC (id := 2) [0,2,3] (by decide); ((apply A.take 0; exact rfl; exact rfl; kernel_rfl; kernel_rfl; kernel_rfl; (apply Ok1.move; exact rfl)) <;> (apply A.take 1; exact rfl; exact rfl; kernel_rfl; kernel_rfl; kernel_rfl; (apply Ok1.nilCheck; exact rfl)) <;> (apply A.take 2; exact rfl; exact rfl; kernel_rfl; kernel_rfl; kernel_rfl; (apply Ok1.fieldAddr; (iterate 5 exact rfl))) <;> (apply A.take 3; exact rfl; exact rfl; kernel_rfl; kernel_rfl; kernel_rfl; (apply Ok1.load; exact rfl; (apply Ld.own1; exact rfl; exact rfl; (focus ((repeat' (first | exact At.head | apply At.tail)); done)); exact rfl))) <;> (apply A.take 4; exact rfl; exact rfl; kernel_rfl; kernel_rfl; kernel_rfl; (apply Ok1.load; exact rfl; (apply Ld.ownk; exact rfl; exact rfl; exact At.head; exact rfl))) <;> (apply A.take 5; exact rfl; exact rfl; kernel_rfl; kernel_rfl; kernel_rfl; (apply Ok1.lookup_none (kv := kv2) (vv := evS) (e.o, e.r) kt2; (iterate 6 exact rfl); (focus ((repeat' (first | exact At.head | apply At.tail)); done)); assumption; (exact (if_neg Bool.false_ne_true).symm))) <;> (apply A.take 6; exact rfl; exact rfl; kernel_rfl; kernel_rfl; kernel_rfl; (apply Ok1.fieldk; (iterate 7 exact rfl))) <;> (apply A.take 7; exact rfl; exact rfl; kernel_rfl; kernel_rfl; kernel_rfl; (apply Ok1.field1; (iterate 7 exact rfl))) <;> ((apply A.take 8; exact rfl; exact rfl; kernel_rfl; kernel_rfl; kernel_rfl; (apply Ok1.eql_t; exact rfl; exact rfl; omega))) <;> (apply A.take 9; exact rfl; exact rfl; kernel_rfl; kernel_rfl; kernel_rfl; (apply Ok1.move; exact rfl)) <;> ((apply A.takeG 10; exact rfl; exact rfl; rotate_left 3; exact rfl; exact rfl; rotate_right 3; kernel_rfl; kernel_rfl; kernel_rfl; (apply Ok1.move; exact rfl))) <;> ((apply A.takeG 11; exact rfl; exact rfl; rotate_left 3; exact rfl; exact rfl; rotate_right 3; kernel_rfl; kernel_rfl; kernel_rfl; (apply Ok1.nilCheck; exact rfl))) <;> ((apply A.takeG 12; exact rfl; exact rfl; rotate_left 3; exact rfl; exact rfl; rotate_right 3; kernel_rfl; kernel_rfl; kernel_rfl; (apply Ok1.fieldAddr; (iterate 5 exact rfl)))) <;> ((apply A.takeG 13; exact rfl; exact rfl; rotate_left 3; exact rfl; exact rfl; rotate_right 3; kernel_rfl; kernel_rfl; kernel_rfl; (apply Ok1.load; exact rfl; (apply Ld.own1; exact rfl; exact rfl; (focus ((repeat' (first | exact At.head | apply At.tail)); done)); exact rfl)))) <;> ((apply A.takeG 14; exact rfl; exact rfl; rotate_left 3; exact rfl; exact rfl; rotate_right 3; kernel_rfl; kernel_rfl; kernel_rfl; (apply Ok1.lenMm; (iterate 3 exact rfl); (focus ((repeat' (first | exact At.head | apply At.tail)); done))))) <;> ((apply A.takeG 15; exact rfl; exact rfl; rotate_left 3; exact rfl; exact rfl; rotate_right 3; kernel_rfl; kernel_rfl; kernel_rfl; (apply Ok1.eql_t; exact rfl; exact rfl; omega))) <;> (apply A.take 16; exact rfl; exact rfl; kernel_rfl; kernel_rfl; kernel_rfl; (apply Ok1.pick_t; exact rfl; exact rfl)) <;> (apply A.done; kernel_rfl))) | apply T.seq | apply T.region | apply T.ret | (apply T.cond_t; exact rfl)))
      (apply RetOk.t; exact rfl)
      refine ⟨_, ?_, rfl, rfl⟩
      simp only [List.append_eq, List.append_assoc, List.cons_append]
      (focus ((repeat' (first | exact Ext.one _ _ | exact Ext.here _ _ | apply Keep.cons | apply Keep.last | apply Ext.cons)); done))
    · have h1 : putE ms (e.o, e.r) = 0 := by unfold putE; rw [hm]; exact if_neg h64
      have h2 : putM ms clk (e.o, e.r) e = (ms ++ [((e.o, e.r), e, clk)], clk + 1) := by unfold putM; rw [hm]; exact if_neg h64
      have h6 : ¬ ((ms.length : Nat) : Int) = 64 := by omega
      have hX2 : SX (ms ++ [((e.o, e.r), e, clk)]) = SX ms ++ EL := by rw [SX_app, SX_cons, hEL]; simp [SX]
      rw [h1, h2]
      refine enterK (tb := tb) Try.func25 rfl Try.ntmps25 rfl ?_
      simp only [SL, evS, hX2]
      generalize SX ms = X9
      repeat' (first | (apply R.is1; first | (apply R.pure; exact rfl; first | (apply Ok1.fieldAddr; (iterate 5 exact rfl)) | (apply Ok1.load; exact rfl; (apply Ld.own1; exact rfl; exact rfl; exact At.head; exact rfl)) | (apply Ok1.assign; exact rfl) | (apply Ok1.buildA; (iterate 6 exact rfl))) | (apply R.box; (iterate 3 exact rfl); intro) | (apply R.alloc; (iterate 3 exact rfl); intro)) | (apply R.is0; (apply R.store; (iterate 6 exact rfl); exact Upd.head; exact rfl)) | apply R.nil | (apply T.is; first | (apply T.drawC (id := 2) [0,2,3] (by decide); ((apply A.take 0; exact rfl; exact rfl; kernel_rfl; kernel_rfl; kernel_rfl; (apply Ok1.move; exact rfl)) <;> (apply A.take 1; exact rfl; exact rfl; kernel_rfl; kernel_rfl; kernel_rfl; (apply Ok1.nilCheck; exact rfl)) <;> (apply A.take 2; exact rfl; exact rfl; kernel_rfl; kernel_rfl; kernel_rfl; (apply Ok1.fieldAddr; (iterate 5 exact rfl))) <;> (apply A.take 3; exact rfl; exact rfl; kernel_rfl; kernel_rfl; kernel_rfl; (apply Ok1.load; exact rfl; (apply Ld.own1; exact rfl; exact rfl; (focus ((repeat' (first | exact At.head | apply At.tail)); done)); exact rfl))) <;> (apply A.take 4; exact rfl; exact rfl; kernel_rfl; kernel_rfl; kernel_rfl; (apply Ok1.load; exact rfl; (apply Ld.ownk; exact rfl; exact rfl; exact At.head; exact rfl))) <;> (apply A.take 5; exact rfl; exact rfl; kernel_rfl; kernel_rfl; kernel_rfl; (apply Ok1.lookup_none (kv := kv2) (vv := evS) (e.o, e.r) kt2; (iterate 6 exact rfl); (focus ((repeat' (first | exact At.head | apply At.tail)); done)); assumption; (exact (if_neg Bool.false_ne_true).symm))) <;> (apply A.take 6; exact rfl; exact rfl; kernel_rfl; kernel_rfl; kernel_rfl; (apply Ok1.fieldk; (iterate 7 exact rfl))) <;> (apply A.take 7; exact rfl; exact rfl; kernel_rfl; kernel_rfl; kernel_rfl; (apply Ok1.field1; (iterate 7 exact rfl))) <;> ((apply A.take 8; exact rfl; exact rfl; kernel_rfl; kernel_rfl; kernel_rfl; (apply Ok1.eql_t; exact rfl; exact rfl; omega))) <;> (apply A.take 9; exact rfl; exact rfl; kernel_rfl; kernel_rfl; kernel_rfl; (apply Ok1.move; exact rfl)) <;> ((apply A.takeG 10; exact rfl; exact rfl; rotate_left 3; exact rfl; exact rfl; rotate_right 3; kernel_rfl; kernel_rfl; kernel_rfl; (apply Ok1.move; exact rfl))) <;> ((apply A.takeG 11; exact rfl; exact rfl; rotate_left 3; exact rfl; exact rfl; rotate_right 3; kernel_rfl; kernel_rfl; kernel_rfl; (apply Ok1.nilCheck; exact rfl))) <;> ((apply A.takeG 12; exact rfl; exact rfl; rotate_left 3; exact rfl; exact rfl; rotate_right 3; kernel_rfl; kernel_rfl; kernel_rfl; (apply Ok1.fieldAddr; (iterate 5 exact rfl)))) <;> ((apply A.takeG 13; exact rfl; exact rfl; rotate_left 3; exact rfl; exact rfl; rotate_right 3; kernel_rfl; kernel_rfl; kernel_rfl; (apply Ok1.load; exact rfl; (apply Ld.own1; exact rfl; exact rfl; (focus ((repeat' (first | exact At.head | apply At.tail)); done)); exact rfl)))) <;> ((apply A.takeG 14; exact rfl; exact rfl; rotate_left 3; exact rfl; exact rfl; rotate_right 3; kernel_rfl; kernel_rfl; kernel_rfl; (apply Ok1.lenMm; (iterate 3 exact rfl); (focus ((repeat' (first | exact At.head | apply At.tail)); done))))) <;> ((apply A.takeG 15; exact rfl; exact rfl; rotate_left 3; exact rfl; exact rfl; rotate_right 3; kernel_rfl; kernel_rfl; kernel_rfl; (apply Ok1.eql_f; exact rfl; exact rfl; omega))) <;> (apply A.take 16; exact rfl; exact rfl; kernel_rfl; kernel_rfl; kernel_rfl; (apply Ok1.pick_t; exact rfl; exact rfl)) <;> (apply A.done; kernel_rfl))) | (apply T.drawC (id := 4) [0,1,2] (by decide); ((apply A.take 0; exact rfl; exact rfl; kernel_rfl; kernel_rfl; kernel_rfl; (apply Ok1.move; exact rfl)) <;> (apply A.take 1; exact rfl; exact rfl; kernel_rfl; kernel_rfl; kernel_rfl; (apply Ok1.nilCheck; exact rfl)) <;> (apply A.take 2; exact rfl; exact rfl; kernel_rfl; kernel_rfl; kernel_rfl; (apply Ok1.fieldAddr; (iterate 5 exact rfl))) <;> (apply A.take 3; exact rfl; exact rfl; kernel_rfl; kernel_rfl; kernel_rfl; (apply Ok1.load; exact rfl; (apply Ld.own1; exact rfl; exact rfl; (focus ((repeat' (first | exact At.head | apply At.tail)); done)); exact rfl))) <;> (apply A.take 4; exact rfl; exact rfl; kernel_rfl; kernel_rfl; kernel_rfl; (apply Ok1.load; exact rfl; (apply Ld.ownk; exact rfl; exact rfl; exact At.head; exact rfl))) <;> (apply A.take 5; exact rfl; exact rfl; kernel_rfl; kernel_rfl; kernel_rfl; (apply Ok1.load; exact rfl; (apply Ld.ownk; exact rfl; exact rfl; (focus ((repeat' (first | exact At.head | apply At.tail)); done)); exact rfl))) <;> (apply A.one 6; kernel_rfl; exact rfl; (((apply R.mapSet_new (kv := kv2) (vv := evS) (a := e) (e.o, e.r) kt2; (iterate 7 exact rfl); (focus ((repeat' (first | exact Upd.head | apply Upd.tail)); done)); exact hm))); apply R.nil; refine ⟨?_, ?_⟩; (focus ((repeat' (first | exact trivial | (refine ⟨?_, ?_⟩; (focus ((repeat' (first | exact At.head | apply At.tail)); done)))))))) <;> (apply A.done; kernel_rfl))) | apply T.seq | apply T.region | apply T.skip | apply T.ret | (apply T.cond_f; exact rfl)))
      (apply RetOk.t; exact rfl)
      refine ⟨_, ?_, rfl, rfl⟩
      simp only [List.append_eq, List.append_assoc, List.cons_append]
      (focus ((repeat' (first | exact Ext.one _ _ | exact Ext.here _ _ | exact Ext.all _ | apply Keep.cons | apply Keep.app | apply Keep.last | apply Ext.cons)); done))
end Go.Proofs.Ytligngjcnlbgmaa
set_option linter.unusedSimpArgs false
set_option linter.unusedVariables false
namespace Go.Proofs.Ytligngjcnlbgmaa
open Go.RowKit Go.Shelf
set_option maxRecDepth 100000
theorem KeyR.keep {ov : Ov} {bk : Nat} {xs : List Int} (hov : OvOk 1 ov xs.length (u8s xs)) {w0 w1 w2 : World} {S : List Nat} {L Li Lr : Lst} (hw : Hp w0 S L w1) (he : Ext L Li Lr) (hin : ∀ z ∈ KL bk ov xs, z ∈ Lr) (hc : Chg (blks Li) w1 w2) : KeyR w2 bk xs := by
  have hm : ∀ z ∈ KL bk ov xs, w2.heap[z.1]? = some z.2 := fun z hz => hc.heap (hw.get z.1 z.2 (he.perm.subset (List.mem_append_right _ (hin z hz)))) (RdSl.off hw he (hin z hz))
  refine ⟨ovp ov, ovc ov xs.length, ?_, ?_⟩
  · rw [← slV_eq hov]
    exact hm _ List.mem_cons_self
  · cases ov with
    | none =>
      have h0 : xs = [] := List.eq_nil_of_length_eq_zero hov.2
      rw [h0]
      exact .inl rfl
    | some q =>
      obtain ⟨b, j, junk⟩ := q
      exact RdSl.heap (junk := junk) (e := 5) (fz := (0, 0)) (by rw [fl_u8]; exact hm (b, _) (List.mem_cons_of_mem _ (by simp [blkL])))
theorem stset_bad (bs bm : Nat) (ms : SMs) (clk : Nat) (bk : Nat) (o r : Int) (p : Option Addr) (n cap : Nat) (hb : nsE o r (verI ms (o, r) + 1) n ≠ 0) (hv : 0 ≤ verI ms (o, r) ∧ verI ms (o, r) ≤ 2147483647) (w : World) :
    CallM Try.prog 10 [.pointer (some ⟨bs, 0, none⟩), .pointer (some ⟨bk, 0, none⟩), .int .i64 o, .int .i64 r, .slice p n cap] (SL bs bm ms clk) w fun v L => v = .int .i64 (nsE o r (verI ms (o, r) + 1) n) ∧ L = SL bs bm ms clk := by
  have hve := fun w1 => stver_ok bs bm ms clk o r w1
  have hns := fun w1 => nseal_bad bk o r (verI ms (o, r) + 1) p n cap hb w1
  generalize verI ms (o, r) = vv at *
  generalize nsE o r (vv + 1) n = E9 at *
  generalize SL bs bm ms clk = LS at *
  simp only [ntC] at hns
  refine enterK (tb := tb) Try.func10 rfl Try.ntmps10 rfl ?_
  repeat' (first | (apply R.is1; first | (apply R.isBin; first | (apply R.pure; exact rfl; first | (apply Ok1.eqlP; (iterate 5 exact rfl)) | (apply Ok1.add64; exact rfl; exact rfl; omega; omega) | (apply Ok1.eql_t; exact rfl; exact rfl; omega) | (apply Ok1.eql_f; exact rfl; exact rfl; omega) | (apply Ok1.neq_t; exact rfl; exact rfl; omega) | (apply Ok1.neq_f; exact rfl; exact rfl; omega) | (apply Ok1.eqlP; (iterate 5 exact rfl)) | (apply Ok1.neqP; (iterate 5 exact rfl)) | (apply Ok1.eqlM; (iterate 5 exact rfl)) | (apply Ok1.neqM; (iterate 5 exact rfl)) | (apply Ok1.eqlS; (iterate 5 exact rfl)) | (apply Ok1.neqS; (iterate 5 exact rfl))) | (apply R.eql rfl rfl rfl <;> intro) | (apply R.neq rfl rfl rfl <;> intro) | (apply R.eqlF; (iterate 8 exact rfl); all_goals intro) | (apply R.neqF; (iterate 8 exact rfl); all_goals intro)) | (apply R.isCall; first | (apply R.callE (Li := LS) (vs := [.pointer (some ⟨bs, 0, none⟩), .int .i64 o, .int .i64 r]); (iterate 3 exact rfl); (focus ((repeat' (first | exact Ext.none _ | exact Ext.one _ _ | exact Ext.here _ _ | exact Ext.all _ | apply Ext.cons | apply Ext.app | apply Ext.two)); done)); intro w1 hw1; exact hve w1; rintro v Lo ⟨rfl, hq⟩; rw [hq]; clear hq) | (apply R.callE (vs := [.pointer (some ⟨bk, 0, none⟩), .agg ⟨[.int .i64 o, .int .i64 r, .int .i64 (vv + 1), .slice p n cap]⟩]); (iterate 3 exact rfl); exact Ext.none _; intro w1 hw1; exact hns w1; rintro v Lo ⟨rfl, rfl⟩)) | (apply R.pure; exact rfl; first | (apply Ok1.move; exact rfl) | (apply Ok1.load; exact rfl; first | (apply Ld.own1; exact rfl; exact rfl; (focus ((repeat' (first | exact At.head | apply At.tail | apply At.right)); done)); exact rfl) | (apply Ld.ownk; exact rfl; exact rfl; (focus ((repeat' (first | exact At.head | apply At.tail | apply At.right)); done)); exact rfl) | (apply Ld.old1; exact rfl; exact rfl; assumption; (first | exact List.not_mem_nil | assumption)) | (apply Ld.blk1; exact rfl; exact rfl; assumption; (first | exact List.not_mem_nil | assumption); exact rfl) | (apply Ld.blkk; exact rfl; exact rfl; assumption; (first | exact List.not_mem_nil | assumption); exact rfl)) | (apply Ok1.assign; exact rfl) | (apply Ok1.build; (iterate 5 exact rfl)) | (apply Ok1.extract; exact rfl; exact rfl) | (apply Ok1.buildA; (iterate 6 exact rfl))) | (apply R.alloc; (iterate 3 exact rfl); intro)) | (apply R.is0; first | (apply R.store; (iterate 6 exact rfl); (focus ((repeat' (first | exact Upd.head | apply Upd.tail | apply Upd.right)); done)); exact rfl) | fail) | (apply R.isG; first | (apply R.guard_run; exact rfl; exact rfl) | (apply R.guard_not; (iterate 3 exact rfl)) | (apply R.guard_not0; exact rfl; exact rfl) | (apply R.guard_un; (iterate 3 exact rfl)) | (apply R.guard_un0; exact rfl; exact rfl) | (apply R.guard rfl rfl ?_ (fun h => ⟨rfl, ?_⟩) <;> try intro)) | apply R.nil | (apply T.is; first | apply T.seq | apply T.region | apply T.block | apply T.scope | apply T.label | apply T.skip | apply T.exit | apply T.ret | (apply T.cond_t; exact rfl) | (apply T.cond_f; exact rfl) | (apply T.cond_h; exact rfl; assumption) | (apply T.cond_n; exact rfl; assumption) | (apply T.cond rfl <;> intro)) | apply Rnd.step)
  (apply RetOk.t; exact rfl)
  exact ⟨LS, by (focus ((repeat' (first | exact Keep.nil _ | exact Ext.one _ _ | exact Ext.here _ _ | exact Ext.all _ | apply Keep.cons | apply Keep.app | apply Keep.last | apply Ext.cons | apply Ext.app)); done)), rfl, rfl⟩
theorem stset_ok (bs bm : Nat) (ms : SMs) (clk : Nat) (hver : ∀ k a, mget k ms = some a → a.ver ≠ 0) (bk : Nat) (k : List Int) (hkl : k.length ≤ 999999000) (hkb : Byt k) (o r : Int) (p : Option Addr) (n cap : Nat) (xs : List Int) (hn : n = xs.length) (hby : Byt xs) (h64 : n ≤ 64) (hrt : HRt o r (verI ms (o, r) + 1)) (w : World) (hk : ∀ w1, Chg (blks (SL bs bm ms clk)) w w1 → KeyR w1 bk k) (hp : ∀ w1, Chg (blks (SL bs bm ms clk)) w w1 → RdSl w1 p u8V xs) :
    CallM Try.prog 10 [.pointer (some ⟨bs, 0, none⟩), .pointer (some ⟨bk, 0, none⟩), .int .i64 o, .int .i64 r, .slice p n cap] (SL bs bm ms clk) w fun v L => v = .int .i64 (putE ms (o, r)) ∧ ∃ bov vov, OvOk 1 bov (n + 32) (u8s (nsI k o r (verI ms (o, r) + 1) xs)) ∧ OvOk 1 vov n (u8s xs) ∧ L = SL bs bm (putM ms clk (o, r) ⟨o, r, verI ms (o, r) + 1, bov, nsI k o r (verI ms (o, r) + 1) xs, vov, xs, true⟩).1 (putM ms clk (o, r) ⟨o, r, verI ms (o, r) + 1, bov, nsI k o r (verI ms (o, r) + 1) xs, vov, xs, true⟩).2 := by
  have hve := fun w1 => stver_ok bs bm ms clk o r w1
  have hvr : 0 ≤ verI ms (o, r) ∧ verI ms (o, r) ≤ 2147483647 := by unfold HRt at hrt; omega
  have hpt := fun e w1 => stput_ok bs bm ms clk hver e w1
  have hIl : (nsI k o r (verI ms (o, r) + 1) xs).length = n + 32 := by unfold nsI; rw [sealI_len, hn]
  have hns := fun w1 h1 h2 => nseal_ok bk k hkl hkb o r (verI ms (o, r) + 1) p n cap xs hn hby hrt h64 w1 h1 h2
  have hcl := fun w1 h1 => clone_ok p n cap xs hn (by omega) w1 h1
  generalize verI ms (o, r) = vv at *
  generalize nsI k o r (vv + 1) xs = I9 at *
  generalize SL bs bm ms clk = LS at *
  simp only [ntC] at hns
  refine enterK (tb := tb) Try.func10 rfl Try.ntmps10 rfl ?_
  repeat' (first | (apply R.is1; first | (apply R.isBin; first | (apply R.pure; exact rfl; first | (apply Ok1.eqlP; (iterate 5 exact rfl)) | (apply Ok1.add64; exact rfl; exact rfl; omega; omega) | (apply Ok1.eql_t; exact rfl; exact rfl; omega) | (apply Ok1.eql_f; exact rfl; exact rfl; omega) | (apply Ok1.neq_t; exact rfl; exact rfl; omega) | (apply Ok1.neq_f; exact rfl; exact rfl; omega) | (apply Ok1.eqlP; (iterate 5 exact rfl)) | (apply Ok1.neqP; (iterate 5 exact rfl)) | (apply Ok1.eqlM; (iterate 5 exact rfl)) | (apply Ok1.neqM; (iterate 5 exact rfl)) | (apply Ok1.eqlS; (iterate 5 exact rfl)) | (apply Ok1.neqS; (iterate 5 exact rfl))) | (apply R.eql rfl rfl rfl <;> intro) | (apply R.neq rfl rfl rfl <;> intro) | (apply R.eqlF; (iterate 8 exact rfl); all_goals intro) | (apply R.neqF; (iterate 8 exact rfl); all_goals intro)) | (apply R.isCall; first | (apply R.callE (Li := LS) (vs := [.pointer (some ⟨bs, 0, none⟩), .int .i64 o, .int .i64 r]); (iterate 3 exact rfl); (focus ((repeat' (first | exact Ext.none _ | exact Ext.one _ _ | exact Ext.here _ _ | exact Ext.all _ | apply Ext.cons | apply Ext.app | apply Ext.two)); done)); intro w1 hw1; exact hve w1; rintro v Lo ⟨rfl, hq⟩; rw [hq]; clear hq) | (apply R.callE (vs := [.pointer (some ⟨bk, 0, none⟩), .agg ⟨[.int .i64 o, .int .i64 r, .int .i64 (vv + 1), .slice p n cap]⟩]); (iterate 3 exact rfl); exact Ext.none _; intro w1 hw1; exact hns w1 (hk w1 hw1.chg) (hp w1 hw1.chg); rintro v Lo ⟨bov, hbov, rfl, rfl⟩)) | (apply R.pure; exact rfl; first | (apply Ok1.move; exact rfl) | (apply Ok1.load; exact rfl; first | (apply Ld.own1; exact rfl; exact rfl; (focus ((repeat' (first | exact At.head | apply At.tail | apply At.right)); done)); exact rfl) | (apply Ld.ownk; exact rfl; exact rfl; (focus ((repeat' (first | exact At.head | apply At.tail | apply At.right)); done)); exact rfl) | (apply Ld.old1; exact rfl; exact rfl; assumption; (first | exact List.not_mem_nil | assumption)) | (apply Ld.blk1; exact rfl; exact rfl; assumption; (first | exact List.not_mem_nil | assumption); exact rfl) | (apply Ld.blkk; exact rfl; exact rfl; assumption; (first | exact List.not_mem_nil | assumption); exact rfl)) | (apply Ok1.assign; exact rfl) | (apply Ok1.build; (iterate 5 exact rfl)) | (apply Ok1.extract; exact rfl; exact rfl) | (apply Ok1.buildA; (iterate 6 exact rfl))) | (apply R.alloc; (iterate 3 exact rfl); intro)) | (apply R.is0; first | (apply R.store; (iterate 6 exact rfl); (focus ((repeat' (first | exact Upd.head | apply Upd.tail | apply Upd.right)); done)); exact rfl) | fail) | (apply R.isG; first | (apply R.guard_run; exact rfl; exact rfl) | (apply R.guard_not; (iterate 3 exact rfl)) | (apply R.guard_not0; exact rfl; exact rfl) | (apply R.guard_un; (iterate 3 exact rfl)) | (apply R.guard_un0; exact rfl; exact rfl) | (apply R.guard rfl rfl ?_ (fun h => ⟨rfl, ?_⟩) <;> try intro)) | apply R.nil | (apply T.is; first | apply T.seq | apply T.region | apply T.block | apply T.scope | apply T.label | apply T.skip | apply T.exit | apply T.ret | (apply T.cond_t; exact rfl) | (apply T.cond_f; exact rfl) | (apply T.cond_h; exact rfl; assumption) | (apply T.cond_n; exact rfl; assumption) | (apply T.cond rfl <;> intro)) | apply Rnd.step)
  have hpt2 : ∀ vov w1, OvOk 1 vov n (u8s xs) → CallM Try.prog 25 [.pointer (some ⟨bs, 0, none⟩), .agg ⟨[.int .i64 o, .int .i64 r, .int .i64 (vv + 1), .slice (ovp bov) (n + 32) (ovc bov (n + 32)), (.slice (ovp vov) n (ovc vov n)), .bool true]⟩] (LS ++ (blkL 5 bov (u8s I9) ++ blkL 5 vov (u8s xs))) w1 fun v L => v = .int .i64 (putE ms (o, r)) ∧ L = SL bs bm (putM ms clk (o, r) ⟨o, r, vv + 1, bov, I9, vov, xs, true⟩).1 (putM ms clk (o, r) ⟨o, r, vv + 1, bov, I9, vov, xs, true⟩).2 := by
    intro vov w1 hvov
    have g := hpt ⟨o, r, vv + 1, bov, I9, vov, xs, true⟩ w1
    simp only [evS, SE.L, hIl, ← hn] at g
    rw [slV_eq hbov, slV_eq hvov] at g
    exact g
  repeat' (first | (apply R.is1; first | (apply R.isBin; first | (apply R.pure; exact rfl; first | (apply Ok1.add64; exact rfl; exact rfl; omega; omega) | (apply Ok1.eql_t; exact rfl; exact rfl; omega) | (apply Ok1.eql_f; exact rfl; exact rfl; omega) | (apply Ok1.neq_t; exact rfl; exact rfl; omega) | (apply Ok1.neq_f; exact rfl; exact rfl; omega) | (apply Ok1.eqlP; (iterate 5 exact rfl)) | (apply Ok1.neqP; (iterate 5 exact rfl)) | (apply Ok1.eqlM; (iterate 5 exact rfl)) | (apply Ok1.neqM; (iterate 5 exact rfl)) | (apply Ok1.eqlS; (iterate 5 exact rfl)) | (apply Ok1.neqS; (iterate 5 exact rfl))) | (apply R.eql rfl rfl rfl <;> intro) | (apply R.neq rfl rfl rfl <;> intro) | (apply R.eqlF; (iterate 8 exact rfl); all_goals intro) | (apply R.neqF; (iterate 8 exact rfl); all_goals intro)) | (apply R.isCall; first | (apply R.callE (vs := [.slice p n cap]); (iterate 3 exact rfl); exact Ext.none _; intro w1 hw1; exact hcl w1 (hp w1 hw1.chg); rintro v Lo ⟨vov, hvov, hsome, rfl, rfl⟩; rw [slV_eq hvov]) | (apply R.callE (Li := LS ++ (blkL 5 bov (u8s I9) ++ blkL 5 vov (u8s xs))) (vs := [.pointer (some ⟨bs, 0, none⟩), .agg ⟨[.int .i64 o, .int .i64 r, .int .i64 (vv + 1), .slice (ovp bov) (n + 32) (ovc bov (n + 32)), (.slice (ovp vov) n (ovc vov n)), .bool true]⟩]); (iterate 3 exact rfl); (apply Ext.cat9; (focus ((repeat' (first | exact Ext.none _ | exact Ext.one _ _ | exact Ext.here _ _ | exact Ext.all _ | apply Ext.cons | apply Ext.app | apply Ext.two)); done)); apply Ext.cat9; (focus ((repeat' (first | exact Ext.none _ | exact Ext.one _ _ | exact Ext.here _ _ | exact Ext.all _ | apply Ext.cons | apply Ext.app | apply Ext.two)); done)); (focus ((repeat' (first | exact Ext.none _ | exact Ext.one _ _ | exact Ext.here _ _ | exact Ext.all _ | apply Ext.cons | apply Ext.app | apply Ext.two)); done))); intro w1 hw1; exact hpt2 vov w1 hvov; rintro v Lo ⟨rfl, rfl⟩)) | (apply R.pure; exact rfl; first | (apply Ok1.move; exact rfl) | (apply Ok1.load; exact rfl; first | (apply Ld.own1; exact rfl; exact rfl; (focus ((repeat' (first | exact At.head | apply At.tail | apply At.right)); done)); exact rfl) | (apply Ld.ownk; exact rfl; exact rfl; (focus ((repeat' (first | exact At.head | apply At.tail | apply At.right)); done)); exact rfl) | (apply Ld.old1; exact rfl; exact rfl; assumption; (first | exact List.not_mem_nil | assumption)) | (apply Ld.blk1; exact rfl; exact rfl; assumption; (first | exact List.not_mem_nil | assumption); exact rfl) | (apply Ld.blkk; exact rfl; exact rfl; assumption; (first | exact List.not_mem_nil | assumption); exact rfl)) | (apply Ok1.assign; exact rfl) | (apply Ok1.build; (iterate 5 exact rfl)) | (apply Ok1.extract; exact rfl; exact rfl) | (apply Ok1.buildA; (iterate 6 exact rfl))) | (apply R.alloc; (iterate 3 exact rfl); intro)) | (apply R.is0; first | (apply R.store; (iterate 6 exact rfl); (focus ((repeat' (first | exact Upd.head | apply Upd.tail | apply Upd.right)); done)); exact rfl) | fail) | (apply R.isG; first | (apply R.guard_run; exact rfl; exact rfl) | (apply R.guard_not; (iterate 3 exact rfl)) | (apply R.guard_not0; exact rfl; exact rfl) | (apply R.guard_un; (iterate 3 exact rfl)) | (apply R.guard_un0; exact rfl; exact rfl) | (apply R.guard rfl rfl ?_ (fun h => ⟨rfl, ?_⟩) <;> try intro)) | apply R.nil | (apply T.is; first | (apply T.drawC (id := 6) [0] (by decide); ((apply A.take 0; exact rfl; exact rfl; kernel_rfl; kernel_rfl; kernel_rfl; first | (apply Ok1.move; exact rfl)) <;> (apply A.take 1; exact rfl; exact rfl; kernel_rfl; kernel_rfl; kernel_rfl; first | (apply Ok1.load; exact rfl; first | (apply Ld.own1; exact rfl; exact rfl; (focus ((repeat' (first | exact At.head | apply At.tail | apply At.right)); done)); exact rfl) | (apply Ld.ownk; exact rfl; exact rfl; (focus ((repeat' (first | exact At.head | apply At.tail | apply At.right)); done)); exact rfl) | (apply Ld.old1; exact rfl; exact rfl; assumption; (first | exact List.not_mem_nil | assumption)) | (apply Ld.blk1; exact rfl; exact rfl; assumption; (first | exact List.not_mem_nil | assumption); exact rfl) | (apply Ld.blkk; exact rfl; exact rfl; assumption; (first | exact List.not_mem_nil | assumption); exact rfl))) <;> (apply A.take 2; exact rfl; exact rfl; kernel_rfl; kernel_rfl; kernel_rfl; first | (apply Ok1.move; exact rfl)) <;> (apply A.one 3; kernel_rfl; exact rfl; ((first | (apply R.callE (vs := [.slice p n cap]); (iterate 3 exact rfl); exact Ext.none _; intro w1 hw1; exact hcl w1 (hp w1 hw1.chg); rintro v Lo ⟨vov, hvov, hsome, rfl, rfl⟩; rw [slV_eq hvov]) | (apply R.callE (Li := LS ++ (blkL 5 bov (u8s I9) ++ blkL 5 vov (u8s xs))) (vs := [.pointer (some ⟨bs, 0, none⟩), .agg ⟨[.int .i64 o, .int .i64 r, .int .i64 (vv + 1), .slice (ovp bov) (n + 32) (ovc bov (n + 32)), (.slice (ovp vov) n (ovc vov n)), .bool true]⟩]); (iterate 3 exact rfl); (apply Ext.cat9; (focus ((repeat' (first | exact Ext.none _ | exact Ext.one _ _ | exact Ext.here _ _ | exact Ext.all _ | apply Ext.cons | apply Ext.app | apply Ext.two)); done)); apply Ext.cat9; (focus ((repeat' (first | exact Ext.none _ | exact Ext.one _ _ | exact Ext.here _ _ | exact Ext.all _ | apply Ext.cons | apply Ext.app | apply Ext.two)); done)); (focus ((repeat' (first | exact Ext.none _ | exact Ext.one _ _ | exact Ext.here _ _ | exact Ext.all _ | apply Ext.cons | apply Ext.app | apply Ext.two)); done))); intro w1 hw1; exact hpt2 vov w1 hvov; rintro v Lo ⟨rfl, rfl⟩) | (apply R.pure; exact rfl; first | (apply Ok1.lenS; (iterate 3 exact rfl)) | (apply Ok1.lenStr; (iterate 3 exact rfl)) | (apply Ok1.lenMm; (iterate 3 exact rfl); (focus ((repeat' (first | exact At.head | apply At.tail | apply At.right)); done))) | (apply Ok1.lenM_nil; (iterate 3 exact rfl)) | (apply Ok1.max2; exact rfl; exact rfl) | (apply Ok1.min2; exact rfl; exact rfl)))); apply R.nil; refine ⟨?_, ?_⟩; (focus ((repeat' (first | exact trivial | (refine ⟨?_, ?_⟩; (focus ((repeat' (first | exact At.head | apply At.tail | apply At.right)); done)))))))) <;> (apply A.take 4; exact rfl; exact rfl; kernel_rfl; kernel_rfl; kernel_rfl; first | (apply Ok1.build; (iterate 5 exact rfl)) | (apply Ok1.buildA; (iterate 6 exact rfl))) <;> (apply A.one 5; kernel_rfl; exact rfl; ((first | (apply R.callE (vs := [.slice p n cap]); (iterate 3 exact rfl); exact Ext.none _; intro w1 hw1; exact hcl w1 (hp w1 hw1.chg); rintro v Lo ⟨vov, hvov, hsome, rfl, rfl⟩; rw [slV_eq hvov]) | (apply R.callE (Li := LS ++ (blkL 5 bov (u8s I9) ++ blkL 5 vov (u8s xs))) (vs := [.pointer (some ⟨bs, 0, none⟩), .agg ⟨[.int .i64 o, .int .i64 r, .int .i64 (vv + 1), .slice (ovp bov) (n + 32) (ovc bov (n + 32)), (.slice (ovp vov) n (ovc vov n)), .bool true]⟩]); (iterate 3 exact rfl); (apply Ext.cat9; (focus ((repeat' (first | exact Ext.none _ | exact Ext.one _ _ | exact Ext.here _ _ | exact Ext.all _ | apply Ext.cons | apply Ext.app | apply Ext.two)); done)); apply Ext.cat9; (focus ((repeat' (first | exact Ext.none _ | exact Ext.one _ _ | exact Ext.here _ _ | exact Ext.all _ | apply Ext.cons | apply Ext.app | apply Ext.two)); done)); (focus ((repeat' (first | exact Ext.none _ | exact Ext.one _ _ | exact Ext.here _ _ | exact Ext.all _ | apply Ext.cons | apply Ext.app | apply Ext.two)); done))); intro w1 hw1; exact hpt2 vov w1 hvov; rintro v Lo ⟨rfl, rfl⟩) | (apply R.pure; exact rfl; first | (apply Ok1.lenS; (iterate 3 exact rfl)) | (apply Ok1.lenStr; (iterate 3 exact rfl)) | (apply Ok1.lenMm; (iterate 3 exact rfl); (focus ((repeat' (first | exact At.head | apply At.tail | apply At.right)); done))) | (apply Ok1.lenM_nil; (iterate 3 exact rfl)) | (apply Ok1.max2; exact rfl; exact rfl) | (apply Ok1.min2; exact rfl; exact rfl)))); apply R.nil; refine ⟨?_, ?_⟩; (focus ((repeat' (first | exact trivial | (refine ⟨?_, ?_⟩; (focus ((repeat' (first | exact At.head | apply At.tail | apply At.right)); done)))))))) <;> (apply A.take 6; exact rfl; exact rfl; kernel_rfl; kernel_rfl; kernel_rfl; first | (apply Ok1.assign; exact rfl)) <;> (apply A.done; kernel_rfl))) | apply T.seq | apply T.region | apply T.block | apply T.scope | apply T.label | apply T.skip | apply T.exit | apply T.ret | (apply T.cond_t; exact rfl) | (apply T.cond_f; exact rfl) | (apply T.cond_h; exact rfl; assumption) | (apply T.cond_n; exact rfl; assumption) | (apply T.cond rfl <;> intro)) | apply Rnd.step)
  all_goals (apply RetOk.t; exact rfl)
  all_goals exact ⟨_, by (focus ((repeat' (first | exact Keep.nil _ | exact Ext.one _ _ | exact Ext.here _ _ | exact Ext.all _ | apply Keep.cons | apply Keep.app | apply Keep.last | apply Ext.cons | apply Ext.app)); done)), rfl, bov, vov, hbov, hvov, rfl⟩
end Go.Proofs.Ytligngjcnlbgmaa
set_option linter.unusedSimpArgs false
set_option linter.unusedVariables false
namespace Go.Proofs.Ytligngjcnlbgmaa
open Go.RowKit Go.Shelf Go.Sort
set_option maxRecDepth 100000
theorem insS_nil (p : Option Addr) (cap : Nat) (f : Value) : CallP Try.prog 53 [.slice p 0 cap, .int .i64 0, .int .i64 0, f] (.tuple #[]) := by
  refine enterP (tb := tb) Try.func53 rfl Try.ntmps53 rfl fun w => ?_
  repeat' (first | (apply R.is1; first | (apply R.isBin; (apply R.pure; exact rfl; first | (apply Ok1.add64; exact rfl; exact rfl; omega; omega) | (apply Ok1.lss_f; exact rfl; exact rfl; omega))) | (apply R.pure; exact rfl; first | (apply Ok1.move; exact rfl) | (apply Ok1.assign; exact rfl))) | apply R.nil | (apply T.is; first | apply T.rounds 2 | apply T.seq | apply T.region | apply T.block | apply T.exit | (apply T.cond_f; exact rfl)))
  all_goals (apply RetOk.n)
  all_goals rfl
theorem pdqS_nil (p : Option Addr) (cap : Nat) (l : Int) (f : Value) : CallP Try.prog 42 [.slice p 0 cap, .int .i64 0, .int .i64 0, .int .i64 l, f] (.tuple #[]) := by
  refine enterP (tb := tb) Try.func42 rfl Try.ntmps42 rfl fun w => ?_
  repeat' (first | (apply R.is1; first | (apply R.isBin; (apply R.pure; exact rfl; first | (apply Ok1.sub64; exact rfl; exact rfl; omega; omega) | (apply Ok1.leq_t; exact rfl; exact rfl; omega))) | (apply R.isCall; apply R.callP rfl rfl rfl (insS_nil _ _ _)) | (apply R.pure; exact rfl; first | (apply Ok1.move; exact rfl) | (apply Ok1.assign; exact rfl))) | apply R.nil | (apply T.is; first | apply T.rounds 2 | apply T.seq | apply T.region | apply T.block | apply T.ret | (apply T.cond_t; exact rfl)))
  all_goals (apply RetOk.n)
  all_goals rfl
theorem sortS_nil (p : Option Addr) (cap : Nat) (f : Value) : CallP Try.prog 31 [.slice p 0 cap, f] (.tuple #[]) := by
  refine enterP (tb := tb) Try.func31 rfl Try.ntmps31 rfl fun w => ?_
  repeat' (first | (apply R.is1; first | (apply R.isCall; first | apply R.callP rfl rfl rfl (len_ok _ (by omega) (by omega)) | apply R.callP rfl rfl rfl (pdqS_nil _ _ _ _) | (apply R.pure; exact rfl; (apply Ok1.lenS; (iterate 3 exact rfl)))) | (apply R.pure; exact rfl; first | (apply Ok1.move; exact rfl) | (apply Ok1.assign; exact rfl) | (apply Ok1.convU64; (iterate 5 exact rfl); omega; omega))) | apply R.nil | (apply T.is; first | apply T.seq | apply T.region))
  all_goals (apply RetOk.n)
  all_goals rfl
/-- The order of entries: by owner, by role. -/
def cfS (x y : SE) : Int := or2 (cmpI x.o y.o) (cmpI x.r y.r)
theorem cfS_neg (x y : SE) : cfS x y < 0 ↔ x.o < y.o ∨ x.o = y.o ∧ x.r < y.r := by
  have h1 := cmpI_neg x.o y.o
  have h2 := cmpI_zero x.o y.o
  have h3 := cmpI_neg x.r y.r
  unfold cfS or2
  split <;> omega
theorem swoS : SWO (ltOf cfS) where
  irrefl := fun x => by simp only [ltOf, decide_eq_false_iff_not, cfS_neg]; omega
  trans := fun x y z => by simp only [ltOf, decide_eq_true_eq, cfS_neg]; omega
  ntrans := fun x y z => by simp only [ltOf, decide_eq_false_iff_not, cfS_neg]; omega
instance : Inhabited SE := ⟨⟨0, 0, 0, none, [], none, [], false⟩⟩
theorem SE.v_len (e : SE) : e.v.length = 6 := rfl
theorem slV_one9 (ov : Ov) (n : Nat) : (slV ov n).oneCell' = true := by cases ov <;> rfl
theorem SE.v_one (e : SE) : ∀ v ∈ e.v, v.oneCell' = true := by
  intro v hv
  simp only [SE.v, List.mem_cons, List.not_mem_nil, or_false] at hv
  rcases hv with rfl | rfl | rfl | rfl | rfl | rfl
  · rfl
  · rfl
  · rfl
  · exact slV_one9 _ _
  · exact slV_one9 _ _
  · rfl
theorem ssort1_ok (x y : SE) : CallP Try.prog 32 [.agg ⟨x.v⟩, .agg ⟨y.v⟩] (.int .i64 (cfS x y)) := by
  refine enterP (tb := tb) Try.func32 rfl Try.ntmps32 rfl fun w => ?_
  simp only [SE.v]
  repeat' (first | (apply R.is1; first | (apply R.pure; exact rfl; (apply Ok1.assign; exact rfl)) | (apply R.box; (iterate 3 exact rfl); intro)) | apply R.nil | (apply T.is; first | (apply T.drawC (id := 1) [0,1] (by decide); ((apply A.take 0; exact rfl; exact rfl; kernel_rfl; kernel_rfl; kernel_rfl; (apply Ok1.fieldAddr; (iterate 5 exact rfl))) <;> (apply A.take 1; exact rfl; exact rfl; kernel_rfl; kernel_rfl; kernel_rfl; (apply Ok1.fieldAddr; (iterate 5 exact rfl))) <;> (apply A.take 2; exact rfl; exact rfl; kernel_rfl; kernel_rfl; kernel_rfl; (apply Ok1.load; exact rfl; (apply Ld.own1; exact rfl; exact rfl; (focus ((repeat' (first | exact At.head | apply At.tail)); done)); exact rfl))) <;> (apply A.take 3; exact rfl; exact rfl; kernel_rfl; kernel_rfl; kernel_rfl; (apply Ok1.fieldAddr; (iterate 5 exact rfl))) <;> (apply A.take 4; exact rfl; exact rfl; kernel_rfl; kernel_rfl; kernel_rfl; (apply Ok1.fieldAddr; (iterate 5 exact rfl))) <;> (apply A.take 5; exact rfl; exact rfl; kernel_rfl; kernel_rfl; kernel_rfl; (apply Ok1.load; exact rfl; (apply Ld.own1; exact rfl; exact rfl; exact At.head; exact rfl))) <;> (apply A.take 7; exact rfl; exact rfl; kernel_rfl; kernel_rfl; kernel_rfl; (apply Ok1.fieldAddr; (iterate 5 exact rfl))) <;> (apply A.take 8; exact rfl; exact rfl; kernel_rfl; kernel_rfl; kernel_rfl; (apply Ok1.fieldAddr; (iterate 5 exact rfl))) <;> (apply A.take 9; exact rfl; exact rfl; kernel_rfl; kernel_rfl; kernel_rfl; (apply Ok1.load; exact rfl; (apply Ld.own1; exact rfl; exact rfl; (focus ((repeat' (first | exact At.head | apply At.tail)); done)); exact rfl))) <;> (apply A.take 10; exact rfl; exact rfl; kernel_rfl; kernel_rfl; kernel_rfl; (apply Ok1.fieldAddr; (iterate 5 exact rfl))) <;> (apply A.take 11; exact rfl; exact rfl; kernel_rfl; kernel_rfl; kernel_rfl; (apply Ok1.fieldAddr; (iterate 5 exact rfl))) <;> (apply A.take 12; exact rfl; exact rfl; kernel_rfl; kernel_rfl; kernel_rfl; (apply Ok1.load; exact rfl; (apply Ld.own1; exact rfl; exact rfl; exact At.head; exact rfl))) <;> (apply A.one 6; kernel_rfl; exact rfl; ((apply R.callP rfl rfl rfl (cmp_ok x.o y.o))); apply R.nil; refine ⟨?_, ?_⟩; (focus ((repeat' (first | exact trivial | (refine ⟨?_, ?_⟩; (focus ((repeat' (first | exact At.head | apply At.tail)); done)))))))) <;> (apply A.one 13; kernel_rfl; exact rfl; ((apply R.callP rfl rfl rfl (cmp_ok x.r y.r))); apply R.nil; refine ⟨?_, ?_⟩; (focus ((repeat' (first | exact trivial | (refine ⟨?_, ?_⟩; (focus ((repeat' (first | exact At.head | apply At.tail)); done)))))))) <;> (apply A.one 14; kernel_rfl; exact rfl; (((apply R.buildSlice; (iterate 12 exact rfl); intro))); apply R.nil; refine ⟨?_, ?_⟩; (focus ((repeat' (first | exact trivial | (refine ⟨?_, ?_⟩; (focus ((repeat' (first | exact At.head | apply At.tail)); done)))))))) <;> (apply A.one 15; kernel_rfl; exact rfl; (((apply R.callV; (iterate 3 exact rfl); (intro w1 hw1; exact or2_ok _ _ _ _ _ (hw1.get _ _ (At.mem (by exact At.head))))))); apply R.nil; refine ⟨?_, ?_⟩; (focus ((repeat' (first | exact trivial | (refine ⟨?_, ?_⟩; (focus ((repeat' (first | exact At.head | apply At.tail)); done)))))))) <;> (apply A.take 16; exact rfl; exact rfl; kernel_rfl; kernel_rfl; kernel_rfl; (apply Ok1.assign; exact rfl)) <;> (apply A.done; kernel_rfl))) | apply T.seq | apply T.region | apply T.ret))
  all_goals (apply RetOk.t; exact rfl)
  all_goals rfl
theorem sortS_ok (rs : List SE) (hlen : rs.length ≤ 1000) (ov : Ov) (hov : OvOk 6 ov rs.length (fl SE.v rs)) (w : World) :
    CallM Try.prog 31 [slV ov rs.length, .func (.func 32) #[] #[]] (blkL 68 ov (fl SE.v rs)) w fun v L => v = .tuple #[] ∧ ∃ rs', rs'.Perm rs ∧ Asc cfS rs' ∧ L = blkL 68 ov (fl SE.v rs') := by
  cases ov with
  | none =>
    have h0 : rs.length = 0 := hov.2
    have : rs = [] := by cases rs; rfl; simp at h0
    subst this
    exact ⟨fun hw => ((sortS_nil none 0 _).run w).mono fun e' w' ⟨h1, h2⟩ => ⟨_, _, h1, ⟨rfl, [], .refl _, .nil, rfl⟩, hw.step h2⟩⟩
  | some x =>
    obtain ⟨b, j, junk⟩ := x
    exact sort_ok Try.sortS (fun w => (tb.get (t := 68) rfl).agg rfl w) (tb.get (t := 68) rfl).size SE.v_len SE.v_one _ swoS 32 [] rfl b _ rs junk _ w (tb.ent rfl) (by omega)
      (fun W hW x y => (ssort1_ok x y).at W)
/-- A store as it must be. -/
structure SOk (ms : SMs) (clk : Nat) : Prop where
  wf : MWf (ms, clk)
  key : ∀ e ∈ ms, e.1 = (e.2.1.o, e.2.1.r)
  hrt : ∀ e ∈ ms, HRt e.2.1.o e.2.1.r e.2.1.ver
  bok : ∀ e ∈ ms, OvOk 1 e.2.1.bov e.2.1.body.length (u8s e.2.1.body)
  vok : ∀ e ∈ ms, OvOk 1 e.2.1.vov e.2.1.val.length (u8s e.2.1.val)
  blen : ∀ e ∈ ms, e.2.1.body.length ≤ 96
  vlen : ∀ e ∈ ms, e.2.1.val.length ≤ 96
  few : ms.length ≤ 64
theorem SE.v_all (e : SE) : e.v.all Value.oneCell' = true := List.all_eq_true.2 fun v hv => e.v_one v hv
theorem fl1_all (e : SE) : (fl SE.v [e]).all Value.oneCell' = true := by
  rw [show fl SE.v [e] = e.v from by simp [fl]]
  exact e.v_all
theorem SE.set9 (e : SE) (cs : List Value) (h : cs.length = 6) : setE cs 0 e.v = some e.v := setE_all (by rw [SE.v_len, h])
theorem SE.sub9 (e : SE) : subE e.v 0 6 = some e.v := subE_all e.v_len
theorem ssorted_ok (bs bm : Nat) (ms : SMs) (clk : Nat) (hwf : MWf (ms, clk)) (hlen : ms.length ≤ 64) (w : World) : CallM Try.prog 26 [.pointer (some ⟨bs, 0, none⟩)] (SL bs bm ms clk) w fun v L => ∃ ov rs, rs.Perm (ms.map (·.2.1)) ∧ Asc cfS rs ∧ OvOk 6 ov rs.length (fl SE.v rs) ∧ v = slV ov rs.length ∧ L = blkL 68 ov (fl SE.v rs) ++ SL bs bm ms clk := by
  refine enterK (tb := tb) Try.func26 rfl Try.ntmps26 rfl ?_
  simp only [SL]
  generalize SX ms = X9
  repeat' (first | (apply R.is1; first | (apply R.range (kv := kv2) (vv := evS) (ms := ms) (clk := clk); (iterate 4 exact rfl); (focus ((repeat' (first | exact At.head | apply At.tail)); done)); intro c) | (apply R.isBin; (apply R.pure; exact rfl; (apply Ok1.eqlP; (iterate 5 exact rfl)))) | (apply R.pure; exact rfl; first | (apply Ok1.move; exact rfl) | (apply Ok1.fieldAddr; (iterate 5 exact rfl)) | (apply Ok1.load; exact rfl; (apply Ld.own1; exact rfl; exact rfl; exact At.head; exact rfl)) | (apply Ok1.assign; exact rfl) | (apply Ok1.nilCheck; exact rfl))) | apply R.nil | (apply T.is; first | apply T.seq | apply T.region | apply T.block | apply T.skip | (apply T.cond_f; exact rfl)))
  apply T.loopK (α := SMs × Ov) (I := fun x => Met ms x.1 ∧ OvOk 6 x.2 x.1.length (fl SE.v (x.1.map (·.2.1)))) (σi := fun x => [(0, .pointer (some ⟨bs, 0, none⟩)), (3, slV x.2 x.1.length), (12, .pointer (some ⟨c, 0, none⟩))])
    (Li := fun x => (c, .mapIter (some bm) clk ⟨x.1.map (·.2.2)⟩ clk) :: (bs, .cells ⟨[.map (some bm)]⟩ 65 (0, 0)) :: (bm, mobj kv2 evS ms clk) :: (blkL 68 x.2 (fl SE.v (x.1.map (·.2.1))) ++ X9)) (μ := fun x => ms.length - x.1.length) (i0 := ([], none))
  · exact ⟨Met.start _, OvOk.start 6⟩
  · exact ⟨rfl, rfl, rfl, trivial⟩
  · simp only [blkL, List.nil_append]
    (focus ((repeat' (first | exact Ext.one _ _ | exact Ext.all _ | apply Keep.cons | apply Keep.last)); done))
  · rintro ⟨vis, ov⟩ ⟨hmet, hov⟩
    simp only at hmet hov ⊢
    have hvl : vis.length ≤ ms.length := by
      classical
      exact nodup_sub_len (nodup_map_born hmet.nd) hmet.sub
    repeat' (first | (apply R.is1; first | (apply R.next (kv := kv2) (vv := evS) (ms := ms); exact rfl; exact rfl; (focus ((repeat' (first | exact At.head | apply At.tail)); done)); exact At.head; exact hwf.bnd; intro hall; rotate_left 1; intro e he hne; apply Exists.intro; apply And.intro; exact Upd.head) | (apply R.isCall; (apply R.appendRd (xs := [e.2.1]) (v := SE.v) (sz := 6) (ov := ov) (n := vis.length) (old := fl SE.v (vis.map (·.2.1))); (iterate 12 exact rfl); exact hov; (focus ((repeat' (first | exact Ext.here _ _ | apply Ext.cons)); done)); exact rfl; exact SE.v_len; exact rfl; (intro w1 hw1; exact RdSl.of (junk := []) hw1 (by exact At.head) (by simp [fl, SE.v])); (exact fl1_all _); omega; intro ov1 hov1 hsome)) | (apply R.pure; exact rfl; first | (apply Ok1.entry; exact rfl; exact At.head; (focus ((repeat' (first | exact At.head | apply At.tail)); done)); assumption; exact hwf.nd) | (apply Ok1.load; exact rfl; (apply Ld.ownk; exact rfl; exact rfl; exact At.head; exact SE.sub9 _)) | (apply Ok1.move; exact rfl) | (apply Ok1.assign; exact rfl) | (apply Ok1.extract; exact rfl; exact rfl)) | (apply R.alloc; (iterate 3 exact rfl); intro) | (apply R.buildSlice; (iterate 12 exact rfl); intro)) | (apply R.is0; (apply R.store; (iterate 3 exact rfl); (exact (rfl : cellsE (evS e.2.1) = some e.2.1.v)); exact SE.v_len _; exact SE.v_all _; exact Upd.head; exact SE.set9 _ _ rfl)) | apply R.nil | (apply T.is; first | apply T.seq | apply T.region | apply T.block | apply T.skip | apply T.exit | (apply T.cond_t; exact rfl) | (apply T.cond_f; exact rfl)))
    · rw [show fl SE.v [e.2.1] = e.2.1.v from by simp [fl]] at hov1 ⊢
      have hls : (vis ++ [e]).length = vis.length + 1 := by simp
      have hms : fl SE.v ((vis ++ [e]).map (·.2.1)) = fl SE.v (vis.map (·.2.1)) ++ e.2.1.v := by simp only [List.map_append, List.map_cons, List.map_nil, fl_snoc]
      refine ⟨(vis ++ [e], ov1), ⟨hmet.step he hne, ?_⟩, ?_, ?_, ?_⟩
      · simp only [hls, hms]
        exact hov1
      · have := hmet.le hwf.nd he hne
        simp only [hls]
        omega
      · simp only [hls]
        exact ⟨rfl, rfl, rfl, trivial⟩
      · simp only [hms]
        simp only [List.map_append, List.map_cons, List.map_nil]
        (focus ((repeat' (first | exact Ext.one _ _ | exact Ext.here _ _ | exact Ext.all _ | apply Keep.cons | apply Keep.app | apply Keep.last | apply Ext.cons | apply Ext.app)); done))
    · have hperm : vis.Perm ms := hmet.perm hwf.nd hall
      have hsort := fun w1 => sortS_ok (vis.map (·.2.1)) (by rw [List.length_map]; omega) ov (by rw [List.length_map]; exact hov) w1
      simp only [List.length_map] at hsort
      generalize hLB : blkL 68 ov (fl SE.v (vis.map (·.2.1))) = LB at *
      repeat' (first | (apply R.is1; first | (apply R.isCall; (apply R.callE (Li := LB) (vs := [slV ov vis.length, .func (.func 32) #[] #[]]); (iterate 3 exact rfl); (focus ((repeat' (first | exact Ext.here _ _ | apply Ext.cons)); done)); intro w1 hw1; exact hsort w1; rintro v Lo ⟨rfl, rs, hp, hasc, rfl⟩)) | (apply R.pure; exact rfl; first | (apply Ok1.move; exact rfl) | (apply Ok1.assign; exact rfl))) | apply R.nil | (apply T.is; first | apply T.seq | apply T.region | apply T.ret))
      (apply RetOk.t; exact rfl)
      have hrl : rs.length = vis.length := by rw [hp.length_eq, List.length_map]
      refine ⟨_, ?_, ov, rs, hp.trans (hperm.map _), hasc, ⟨fl_len SE.v_len rs, by rw [hrl]; exact hov.2⟩, by rw [hrl], rfl⟩
      (focus ((repeat' (first | exact Ext.one _ _ | exact Ext.here _ _ | exact Ext.all _ | apply Keep.cons | apply Keep.app | apply Keep.last | apply Ext.cons)); done))
end Go.Proofs.Ytligngjcnlbgmaa
set_option linter.unusedSimpArgs false
set_option linter.unusedVariables false
namespace Go.Proofs.Ytligngjcnlbgmaa
open Go.RowKit Go.Shelf Go.Sort
set_option maxRecDepth 100000
/-- Is a role in a mask? -/
def inM (mask r : Int) : Bool := decide (andI .i64 (mask / (pw r.toNat)) 1 = 1)
/-- A note in memory of its own. -/
structure NE where
  o : Int
  r : Int
  ver : Int
  ov : Ov
  xs : List Int
instance : Inhabited NE := ⟨⟨0, 0, 0, none, []⟩⟩
def NE.v (e : NE) : List Value := [.int .i64 e.o, .int .i64 e.r, .int .i64 e.ver, slV e.ov e.xs.length]
theorem NE.v_len (e : NE) : e.v.length = 4 := rfl
def NX (ns : List NE) : Lst := ns.flatMap fun x => blkL 5 x.ov (u8s x.xs)
theorem NX_app (a b : List NE) : NX (a ++ b) = NX a ++ NX b := List.flatMap_append
/-- What a note says. -/
def NE.say (e : NE) : Int × Int × Int × List Int := (e.o, e.r, e.ver, e.xs)
def rdN (mask : Int) (rs : List SE) : List (Int × Int × Int × List Int) := (rs.filter fun x => x.op && inM mask x.r).map fun x => (x.o, x.r, x.ver, x.val)
theorem rdN_snoc (mask : Int) {rs : List SE} {i : Nat} {x : SE} (hx : rs[i]? = some x) : rdN mask (rs.take (i + 1)) = if (x.op && inM mask x.r) = true then rdN mask (rs.take i) ++ [(x.o, x.r, x.ver, x.val)] else rdN mask (rs.take i) := by
  unfold rdN
  rw [List.take_add_one, hx, Option.toList_some, List.filter_append, List.map_append]
  by_cases h : (x.op && inM mask x.r) = true
  · rw [if_pos h]; simp [h]
  · rw [if_neg h]; simp [h]
theorem NE.v_all (e : NE) : e.v.all Value.oneCell' = true := by
  rw [List.all_eq_true]
  intro v hv
  simp only [NE.v, List.mem_cons, List.not_mem_nil, or_false] at hv
  rcases hv with rfl | rfl | rfl | rfl
  · rfl
  · rfl
  · rfl
  · exact slV_one9 _ _
theorem fl1N (e : NE) : fl NE.v [e] = e.v := by simp [fl]
theorem fl1N_all (e : NE) : (fl NE.v [e]).all Value.oneCell' = true := by rw [fl1N]; exact e.v_all
theorem stread_ok (bs bm : Nat) (ms : SMs) (clk : Nat) (hs : SOk ms clk) (mask : Int) (w : World) : CallM Try.prog 14 [.pointer (some ⟨bs, 0, none⟩), .int .i64 mask] (SL bs bm ms clk) w fun v L => ∃ rs ov ns, rs.Perm (ms.map (·.2.1)) ∧ Asc cfS rs ∧ OvOk 4 ov ns.length (fl NE.v ns) ∧ (∀ x ∈ ns, OvOk 1 x.ov x.xs.length (u8s x.xs)) ∧ ns.map NE.say = rdN mask rs ∧ v = slV ov ns.length ∧ L = blkL 32 ov (fl NE.v ns) ++ (NX ns ++ SL bs bm ms clk) := by
  have hso := fun w1 => ssorted_ok bs bm ms clk hs.wf hs.few w1
  have hSm : ∀ (L : Lst) w1, Hp w (blks (SL bs bm ms clk)) L w1 → (∀ z ∈ SL bs bm ms clk, z ∈ L) → ∀ e ∈ ms, RdSl w1 (ovp e.2.1.vov) u8V e.2.1.val := by
    intro L w1 h1 h2 e he
    exact rdown (hs.vok e he) h1 fun z hz => h2 z (List.mem_cons_of_mem _ (List.mem_cons_of_mem _ (List.mem_flatMap.2 ⟨e, he, List.mem_append_right _ hz⟩)))
  generalize hSL : SL bs bm ms clk = LS at *
  refine enterK (tb := tb) Try.func14 rfl Try.ntmps14 rfl ?_
  repeat' (first | (apply R.is1; first | (apply R.isCall; first | (apply R.callE (Li := LS) (vs := [.pointer (some ⟨bs, 0, none⟩)]); (iterate 3 exact rfl); (focus ((repeat' (exact Ext.all _)); done)); intro w1 hw1; exact hso w1; rintro v Lo ⟨ovs, rs, hp, hasc, hovs, rfl, rfl⟩; rw [List.append_assoc]) | (apply R.pure; exact rfl; apply Ok1.lenOv; (iterate 3 exact rfl); exact hovs)) | (apply R.pure; exact rfl; first | (apply Ok1.move; exact rfl) | (apply Ok1.assign; exact rfl))) | apply R.nil | (apply T.is; first | apply T.seq | apply T.region | apply T.block))
  have hmem : ∀ (i : Nat) (x : SE), rs[i]? = some x → ∃ e ∈ ms, e.2.1 = x := fun i x hx => by
    have := hp.subset (List.mem_of_getElem? hx)
    obtain ⟨e, he, h⟩ := List.mem_map.1 this
    exact ⟨e, he, h⟩
  have hrl : rs.length ≤ 64 := by rw [hp.length_eq, List.length_map]; exact hs.few
  cases ovs with
  | none =>
    have h00 : rs = [] := List.eq_nil_of_length_eq_zero hovs.2
    subst h00
    simp only [slV, blkL, List.length_nil, List.nil_append]
    repeat' (first | (apply R.is1; first | (apply R.isBin; (apply R.pure; exact rfl; (apply Ok1.lss_f; exact rfl; exact rfl; omega))) | (apply R.pure; exact rfl; first | (apply Ok1.move; exact rfl) | (apply Ok1.assign; exact rfl))) | apply R.nil | (apply T.is; first | apply T.rounds 1 | apply T.seq | apply T.region | apply T.exit | apply T.ret | (apply T.cond_f; exact rfl)))
    (apply RetOk.t; exact rfl)
    exact ⟨LS, by (focus ((repeat' (first | exact Ext.here _ _ | apply Keep.last)); done)), [], none, [], hp, hasc, OvOk.start 4, (by simp), rfl, rfl, rfl⟩
  | some q =>
    obtain ⟨bq, j, junk⟩ := q
    simp only [slV, blkL]
    apply T.loopK (α := Nat × Ov × List NE) (I := fun y => y.1 ≤ rs.length ∧ OvOk 4 y.2.1 y.2.2.length (fl NE.v y.2.2) ∧ (∀ x ∈ y.2.2, OvOk 1 x.ov x.xs.length (u8s x.xs)) ∧ y.2.2.map NE.say = rdN mask (rs.take y.1)) (σi := fun y => [(1, .int .i64 mask), (5, slV y.2.1 y.2.2.length), (9, .slice (some ⟨bq, 0, none⟩) rs.length (rs.length + j)), (10, .int .i64 rs.length), (11, .int .i64 y.1)]) (Li := fun y => (bq, .cells ⟨fl SE.v rs ++ junk⟩ 68 (0, 0)) :: (blkL 32 y.2.1 (fl NE.v y.2.2) ++ (NX y.2.2 ++ LS))) (μ := fun y => rs.length - y.1) (i0 := (0, none, []))
    · exact ⟨Nat.zero_le _, OvOk.start 4, (by simp), rfl⟩
    · exact ⟨rfl, rfl, rfl, rfl, rfl, trivial⟩
    · simp only [blkL, NX, List.flatMap_nil, List.nil_append, List.cons_append, List.append_nil]
      (focus ((repeat' (first | exact Ext.one _ _ | exact Ext.all _ | apply Keep.cons | apply Keep.last)); done))
    · rintro ⟨i, ov, ns⟩ ⟨hi, hov, hns, hsay⟩
      simp only at hi hov hns hsay ⊢
      have hnl : ns.length ≤ i := by
        have h1 := congrArg List.length hsay
        rw [List.length_map] at h1
        rw [h1]
        unfold rdN
        rw [List.length_map]
        have := List.length_filter_le (fun x => x.op && inM mask x.r) (rs.take i)
        rw [List.length_take] at this
        omega
      rcases Nat.lt_or_ge i rs.length with hlt | hge
      · obtain ⟨x, hx⟩ : ∃ x, rs[i]? = some x := ⟨_, List.getElem?_eq_getElem (by omega)⟩
        obtain ⟨e, he, hex⟩ := hmem i x hx
        have hrt := hs.hrt e he
        have hr8 : 0 ≤ x.r ∧ x.r < 8 := by rw [hex] at hrt; unfold HRt at hrt; omega
        have hvok := hs.vok e he
        have hvln := hs.vlen e he
        have hSm1 := fun L w1 h1 h2 => hSm L w1 h1 h2 e he
        rw [hex] at hvok hvln hSm1
        have hsn := rdN_snoc mask hx
        generalize hNX : NX ns = LN at *
        cases hop : x.op with
        | false =>
          rw [hop, Bool.false_and, if_neg (by simp)] at hsn
          have hov5 : x.v[5]? = some (.bool false) := by rw [← hop]; rfl
          repeat' (first | (apply R.is1; first | (apply R.isBin; (apply R.pure; exact rfl; first | (apply Ok1.add64; exact rfl; exact rfl; omega; omega) | (apply Ok1.lss_t; exact rfl; exact rfl; omega))) | (apply R.pure; exact rfl; first | (apply Ok1.load; exact rfl; first | (apply Ld.ownrowk (f := 0) (us := x.v); (focus ((repeat' (first | exact At.head | apply At.tail | apply At.right)); done)); exact SE.v_len; exact hx; (focus ((simp; done))); exact rfl; exact rfl; exact SE.sub9 _) | (apply Ld.own1; exact rfl; exact rfl; exact At.head; exact hov5)) | (apply Ok1.move; exact rfl) | (apply Ok1.fieldAddr; (iterate 5 exact rfl)) | (apply Ok1.indexAddr; (iterate 5 exact rfl); omega; omega) | (apply Ok1.pick_f; exact rfl; exact rfl)) | (apply R.alloc; (iterate 3 exact rfl); intro)) | (apply R.is0; (apply R.store; (iterate 3 exact rfl); (exact (rfl : cellsE (.agg ⟨x.v⟩) = some x.v)); exact SE.v_len _; exact SE.v_all _; exact Upd.head; exact SE.set9 _ _ rfl)) | (apply R.isG; (apply R.guard_not; (iterate 3 exact rfl))) | apply R.nil | (apply T.is; first | apply T.seq | apply T.region | apply T.block | apply T.skip | (apply T.cond_t; exact rfl) | (apply T.cond_f; exact rfl)))
          refine ⟨(i + 1, ov, ns), ⟨by simp only; omega, hov, hns, by rw [hsn]; exact hsay⟩, by simp only; omega, ⟨rfl, rfl, rfl, rfl, rfl, trivial⟩, ?_⟩
          simp only [hNX]
          (focus ((repeat' (first | exact Ext.one _ _ | exact Ext.here _ _ | exact Ext.all _ | apply Keep.cons | apply Keep.app | apply Keep.last | apply Ext.cons)); done))
        | true =>
          rw [hop, Bool.true_and] at hsn
          have hov5 : x.v[5]? = some (.bool true) := by rw [← hop]; rfl
          have hv0 : x.v[0]? = some (.int .i64 x.o) := rfl
          have hv1 : x.v[1]? = some (.int .i64 x.r) := rfl
          have hv2 : x.v[2]? = some (.int .i64 x.ver) := rfl
          have hv4 : x.v[4]? = some (.slice (ovp x.vov) x.val.length (ovc x.vov x.val.length)) := by rw [← slV_eq hvok]; rfl
          by_cases hA : andI .i64 (mask / (pw x.r.toNat)) 1 = 1
          · have hin : inM mask x.r = true := decide_eq_true hA
            rw [hin, if_pos rfl] at hsn
            have hcl := fun w1 h1 => clone_ok (ovp x.vov) x.val.length (ovc x.vov x.val.length) x.val rfl (by omega) w1 h1
            repeat' (first | (apply R.is1; first | (apply R.isBin; (apply R.pure; exact rfl; first | (apply Ok1.shr; exact rfl; exact rfl; omega; (focus (show _ ≤ 64; omega)); exact rfl) | (apply Ok1.andK; exact rfl; exact rfl) | (apply Ok1.add64; exact rfl; exact rfl; omega; omega) | (apply Ok1.lss_t; exact rfl; exact rfl; omega) | (apply Ok1.eql_t; exact rfl; exact rfl; omega))) | (apply R.pure; exact rfl; first | (apply Ok1.load; exact rfl; first | (apply Ld.ownrowk (f := 0) (us := x.v); (focus ((repeat' (first | exact At.head | apply At.tail | apply At.right)); done)); exact SE.v_len; exact hx; (focus ((simp; done))); exact rfl; exact rfl; exact SE.sub9 _) | (apply Ld.own1; exact rfl; exact rfl; exact At.head; first | exact hov5 | exact hv1)) | (apply Ok1.move; exact rfl) | (apply Ok1.fieldAddr; (iterate 5 exact rfl)) | (apply Ok1.indexAddr; (iterate 5 exact rfl); omega; omega) | (apply Ok1.pick_t; exact rfl; exact rfl)) | (apply R.alloc; (iterate 3 exact rfl); intro)) | (apply R.is0; (apply R.store; (iterate 3 exact rfl); (exact (rfl : cellsE (.agg ⟨x.v⟩) = some x.v)); exact SE.v_len _; exact SE.v_all _; exact Upd.head; exact SE.set9 _ _ rfl)) | (apply R.isG; (apply R.guard_run; exact rfl; exact rfl)) | apply R.nil | (apply T.is; first | (apply T.drawC (id := 6) [0] (by decide); ((apply A.take 0; exact rfl; exact rfl; kernel_rfl; kernel_rfl; kernel_rfl; (apply Ok1.move; exact rfl)) <;> (apply A.take 1; exact rfl; exact rfl; kernel_rfl; kernel_rfl; kernel_rfl; (apply Ok1.fieldAddr; (iterate 5 exact rfl))) <;> (apply A.take 2; exact rfl; exact rfl; kernel_rfl; kernel_rfl; kernel_rfl; (apply Ok1.fieldAddr; (iterate 5 exact rfl))) <;> (apply A.take 3; exact rfl; exact rfl; kernel_rfl; kernel_rfl; kernel_rfl; (apply Ok1.load; exact rfl; (apply Ld.own1; exact rfl; exact rfl; exact At.head; exact hv0))) <;> (apply A.take 4; exact rfl; exact rfl; kernel_rfl; kernel_rfl; kernel_rfl; (apply Ok1.fieldAddr; (iterate 5 exact rfl))) <;> (apply A.take 5; exact rfl; exact rfl; kernel_rfl; kernel_rfl; kernel_rfl; (apply Ok1.fieldAddr; (iterate 5 exact rfl))) <;> (apply A.take 6; exact rfl; exact rfl; kernel_rfl; kernel_rfl; kernel_rfl; (apply Ok1.load; exact rfl; (apply Ld.own1; exact rfl; exact rfl; exact At.head; exact hv1))) <;> (apply A.take 7; exact rfl; exact rfl; kernel_rfl; kernel_rfl; kernel_rfl; (apply Ok1.fieldAddr; (iterate 5 exact rfl))) <;> (apply A.take 8; exact rfl; exact rfl; kernel_rfl; kernel_rfl; kernel_rfl; (apply Ok1.fieldAddr; (iterate 5 exact rfl))) <;> (apply A.take 9; exact rfl; exact rfl; kernel_rfl; kernel_rfl; kernel_rfl; (apply Ok1.load; exact rfl; (apply Ld.own1; exact rfl; exact rfl; exact At.head; exact hv2))) <;> (apply A.take 10; exact rfl; exact rfl; kernel_rfl; kernel_rfl; kernel_rfl; (apply Ok1.fieldAddr; (iterate 5 exact rfl))) <;> (apply A.take 11; exact rfl; exact rfl; kernel_rfl; kernel_rfl; kernel_rfl; (apply Ok1.load; exact rfl; (apply Ld.own1; exact rfl; exact rfl; exact At.head; exact hv4))) <;> (apply A.one 12; kernel_rfl; exact rfl; (((apply R.callE (vs := [.slice (ovp x.vov) x.val.length (ovc x.vov x.val.length)]); (iterate 3 exact rfl); exact Ext.none _; intro w1 hw1; exact hcl w1 (hSm1 _ w1 hw1 (Ext.mem (by (focus ((repeat' (first | exact Ext.all _ | apply Ext.cons | apply Ext.app)); done))))); rintro v Lo ⟨ov8, hov8, hsome, rfl, rfl⟩; rw [slV_eq hov8]))); apply R.nil; refine ⟨?_, ?_⟩; (focus ((repeat' (first | exact trivial | (refine ⟨?_, ?_⟩; (focus ((repeat' (first | exact At.head | apply At.right)); done)))))))) <;> (apply A.take 13; exact rfl; exact rfl; kernel_rfl; kernel_rfl; kernel_rfl; (apply Ok1.build; (iterate 5 exact rfl))) <;> (apply A.one 14; kernel_rfl; exact rfl; (((apply R.buildSlice; (iterate 12 exact rfl); intro))); apply R.nil; refine ⟨?_, ?_⟩; (focus ((repeat' (first | exact trivial | (refine ⟨?_, ?_⟩; (focus ((repeat' (first | exact At.head | apply At.tail | apply At.right)); done)))))))) <;> (apply A.one 15; kernel_rfl; exact rfl; (((apply R.appendRd (xs := [⟨x.o, x.r, x.ver, ov8, x.val⟩]) (v := NE.v) (sz := 4) (ov := ov) (n := ns.length) (old := fl NE.v ns); (iterate 12 exact rfl); exact hov; (focus ((repeat' (first | exact Ext.here _ _ | apply Ext.cons | apply Ext.app)); done)); exact rfl; exact NE.v_len; exact rfl; (intro w1 hw1; exact RdSl.of (junk := []) hw1 (by exact At.head) (by simp [fl, NE.v, slV_eq hov8])); (exact fl1N_all _); omega; intro ov1 hov1 hsome1))); apply R.nil; refine ⟨?_, ?_⟩; (focus ((repeat' (first | exact trivial | (refine ⟨?_, ?_⟩; (focus ((repeat' (first | exact At.head | apply At.tail | apply At.right)); done)))))))) <;> (apply A.take 16; exact rfl; exact rfl; kernel_rfl; kernel_rfl; kernel_rfl; (apply Ok1.assign; exact rfl)) <;> (apply A.done; kernel_rfl))) | apply T.seq | apply T.region | apply T.block | apply T.skip | (apply T.cond_t; exact rfl)))
            have hls : (ns ++ [(⟨x.o, x.r, x.ver, ov8, x.val⟩ : NE)]).length = ns.length + 1 := by simp
            have hfl : fl NE.v (ns ++ [(⟨x.o, x.r, x.ver, ov8, x.val⟩ : NE)]) = fl NE.v ns ++ fl NE.v [(⟨x.o, x.r, x.ver, ov8, x.val⟩ : NE)] := fl_app _ _ _
            have hnx : NX (ns ++ [(⟨x.o, x.r, x.ver, ov8, x.val⟩ : NE)]) = LN ++ blkL 5 ov8 (u8s x.val) := by rw [NX_app, hNX]; simp [NX]
            refine ⟨(i + 1, ov1, ns ++ [⟨x.o, x.r, x.ver, ov8, x.val⟩]), ?_⟩
            simp only [hls, hfl, hnx]
            refine ⟨⟨by omega, hov1, ?_, ?_⟩, by omega, ⟨rfl, rfl, rfl, rfl, rfl, trivial⟩, ?_⟩
            · intro y hy
              rcases List.mem_append.1 hy with h9 | h9
              · exact hns y h9
              · rw [List.mem_singleton.1 h9]
                exact hov8
            · rw [List.map_append, hsay, hsn]
              rfl
            · simp only [List.append_assoc]
              (focus ((repeat' (first | exact Ext.one _ _ | exact Ext.here _ _ | exact Ext.all _ | apply Keep.cons | apply Keep.app | apply Keep.last | apply Ext.cons | apply Ext.app)); done))
          · have hin : inM mask x.r = false := decide_eq_false hA
            rw [hin, if_neg (by simp)] at hsn
            repeat' (first | (apply R.is1; first | (apply R.isBin; (apply R.pure; exact rfl; first | (apply Ok1.shr; exact rfl; exact rfl; omega; (focus (show _ ≤ 64; omega)); exact rfl) | (apply Ok1.andK; exact rfl; exact rfl) | (apply Ok1.add64; exact rfl; exact rfl; omega; omega) | (apply Ok1.lss_t; exact rfl; exact rfl; omega) | (apply Ok1.eql_f; exact rfl; exact rfl; omega))) | (apply R.pure; exact rfl; first | (apply Ok1.load; exact rfl; first | (apply Ld.ownrowk (f := 0) (us := x.v); (focus ((repeat' (first | exact At.head | apply At.tail | apply At.right)); done)); exact SE.v_len; exact hx; (focus ((simp; done))); exact rfl; exact rfl; exact SE.sub9 _) | (apply Ld.own1; exact rfl; exact rfl; exact At.head; first | exact hov5 | exact hv1)) | (apply Ok1.move; exact rfl) | (apply Ok1.fieldAddr; (iterate 5 exact rfl)) | (apply Ok1.indexAddr; (iterate 5 exact rfl); omega; omega) | (apply Ok1.pick_t; exact rfl; exact rfl)) | (apply R.alloc; (iterate 3 exact rfl); intro)) | (apply R.is0; (apply R.store; (iterate 3 exact rfl); (exact (rfl : cellsE (.agg ⟨x.v⟩) = some x.v)); exact SE.v_len _; exact SE.v_all _; exact Upd.head; exact SE.set9 _ _ rfl)) | (apply R.isG; (apply R.guard_run; exact rfl; exact rfl)) | apply R.nil | (apply T.is; first | apply T.seq | apply T.region | apply T.block | apply T.skip | (apply T.cond_t; exact rfl) | (apply T.cond_f; exact rfl)))
            refine ⟨(i + 1, ov, ns), ⟨by simp only; omega, hov, hns, by rw [hsn]; exact hsay⟩, by simp only; omega, ⟨rfl, rfl, rfl, rfl, rfl, trivial⟩, ?_⟩
            simp only [hNX]
            (focus ((repeat' (first | exact Ext.one _ _ | exact Ext.here _ _ | exact Ext.all _ | apply Keep.cons | apply Keep.app | apply Keep.last | apply Ext.cons)); done))
      · have him : i = rs.length := by omega
        subst him
        rw [List.take_length] at hsay
        repeat' (first | (apply R.is1; first | (apply R.isBin; (apply R.pure; exact rfl; (apply Ok1.lss_f; exact rfl; exact rfl; omega))) | (apply R.pure; exact rfl; first | (apply Ok1.move; exact rfl) | (apply Ok1.assign; exact rfl))) | apply R.nil | (apply T.is; first | apply T.seq | apply T.region | apply T.exit | apply T.ret | (apply T.cond_f; exact rfl)))
        (apply RetOk.t; exact rfl)
        refine ⟨_, ?_, rs, ov, ns, hp, hasc, hov, hns, hsay, rfl, rfl⟩
        (focus ((repeat' (first | exact Ext.here _ _ | exact Ext.all _ | apply Keep.app | apply Keep.last | apply Ext.cons)); done))
end Go.Proofs.Ytligngjcnlbgmaa
set_option linter.unusedSimpArgs false
set_option linter.unusedVariables false
namespace Go.Proofs.Ytligngjcnlbgmaa
open Go.RowKit Go.Shelf Go.Sort
set_option maxRecDepth 100000
def alN (rs : List SE) : List (Int × Int × Int × List Int) := rs.map fun x => (x.o, x.r, x.ver, x.body)
theorem stall_ok (bs bm : Nat) (ms : SMs) (clk : Nat) (hs : SOk ms clk) (w : World) : CallM Try.prog 11 [.pointer (some ⟨bs, 0, none⟩)] (SL bs bm ms clk) w fun v L => ∃ rs ov ns, rs.Perm (ms.map (·.2.1)) ∧ Asc cfS rs ∧ OvOk 4 ov ns.length (fl NE.v ns) ∧ (∀ x ∈ ns, OvOk 1 x.ov x.xs.length (u8s x.xs)) ∧ ns.map NE.say = alN rs ∧ v = slV ov ns.length ∧ L = blkL 44 ov (fl NE.v ns) ++ (NX ns ++ SL bs bm ms clk) := by
  have hso := fun w1 => ssorted_ok bs bm ms clk hs.wf hs.few w1
  have hSm : ∀ (L : Lst) w1, Hp w (blks (SL bs bm ms clk)) L w1 → (∀ z ∈ SL bs bm ms clk, z ∈ L) → ∀ e ∈ ms, RdSl w1 (ovp e.2.1.bov) u8V e.2.1.body := by
    intro L w1 h1 h2 e he
    exact rdown (hs.bok e he) h1 fun z hz => h2 z (List.mem_cons_of_mem _ (List.mem_cons_of_mem _ (List.mem_flatMap.2 ⟨e, he, List.mem_append_left _ hz⟩)))
  generalize hSL : SL bs bm ms clk = LS at *
  refine enterK (tb := tb) Try.func11 rfl Try.ntmps11 rfl ?_
  repeat' (first | (apply R.is1; first | (apply R.isCall; first | (apply R.callE (Li := LS) (vs := [.pointer (some ⟨bs, 0, none⟩)]); (iterate 3 exact rfl); (focus ((repeat' (exact Ext.all _)); done)); intro w1 hw1; exact hso w1; rintro v Lo ⟨ovs, rs, hp, hasc, hovs, rfl, rfl⟩; rw [List.append_assoc]) | (apply R.pure; exact rfl; apply Ok1.lenOv; (iterate 3 exact rfl); exact hovs)) | (apply R.pure; exact rfl; first | (apply Ok1.move; exact rfl) | (apply Ok1.assign; exact rfl))) | apply R.nil | (apply T.is; first | apply T.seq | apply T.region | apply T.block))
  have hmem : ∀ (i : Nat) (x : SE), rs[i]? = some x → ∃ e ∈ ms, e.2.1 = x := fun i x hx => by
    have := hp.subset (List.mem_of_getElem? hx)
    obtain ⟨e, he, h⟩ := List.mem_map.1 this
    exact ⟨e, he, h⟩
  have hrl : rs.length ≤ 64 := by rw [hp.length_eq, List.length_map]; exact hs.few
  cases ovs with
  | none =>
    have h00 : rs = [] := List.eq_nil_of_length_eq_zero hovs.2
    subst h00
    simp only [slV, blkL, List.length_nil, List.nil_append]
    repeat' (first | (apply R.is1; first | (apply R.isBin; (apply R.pure; exact rfl; (apply Ok1.lss_f; exact rfl; exact rfl; omega))) | (apply R.pure; exact rfl; first | (apply Ok1.move; exact rfl) | (apply Ok1.assign; exact rfl))) | apply R.nil | (apply T.is; first | apply T.rounds 1 | apply T.seq | apply T.region | apply T.exit | apply T.ret | (apply T.cond_f; exact rfl)))
    (apply RetOk.t; exact rfl)
    exact ⟨LS, by (focus ((repeat' (first | exact Ext.here _ _ | apply Keep.last)); done)), [], none, [], hp, hasc, OvOk.start 4, (by simp), rfl, rfl, rfl⟩
  | some q =>
    obtain ⟨bq, j, junk⟩ := q
    simp only [slV, blkL]
    apply T.loopK (α := Nat × Ov × List NE) (I := fun y => y.1 ≤ rs.length ∧ y.2.2.length = y.1 ∧ OvOk 4 y.2.1 y.2.2.length (fl NE.v y.2.2) ∧ (∀ x ∈ y.2.2, OvOk 1 x.ov x.xs.length (u8s x.xs)) ∧ y.2.2.map NE.say = alN (rs.take y.1)) (σi := fun y => [(3, slV y.2.1 y.2.2.length), (7, .slice (some ⟨bq, 0, none⟩) rs.length (rs.length + j)), (8, .int .i64 rs.length), (9, .int .i64 y.1)]) (Li := fun y => (bq, .cells ⟨fl SE.v rs ++ junk⟩ 68 (0, 0)) :: (blkL 44 y.2.1 (fl NE.v y.2.2) ++ (NX y.2.2 ++ LS))) (μ := fun y => rs.length - y.1) (i0 := (0, none, []))
    · exact ⟨Nat.zero_le _, rfl, OvOk.start 4, (by simp), rfl⟩
    · exact ⟨rfl, rfl, rfl, rfl, trivial⟩
    · simp only [blkL, NX, List.flatMap_nil, List.nil_append, List.cons_append, List.append_nil]
      (focus ((repeat' (first | exact Ext.one _ _ | exact Ext.all _ | apply Keep.cons | apply Keep.last)); done))
    · rintro ⟨i, ov, ns⟩ ⟨hi, hnl, hov, hns, hsay⟩
      simp only at hi hnl hov hns hsay ⊢
      rcases Nat.lt_or_ge i rs.length with hlt | hge
      · obtain ⟨x, hx⟩ : ∃ x, rs[i]? = some x := ⟨_, List.getElem?_eq_getElem (by omega)⟩
        obtain ⟨e, he, hex⟩ := hmem i x hx
        have hbok := hs.bok e he
        have hbln := hs.blen e he
        have hSm1 := fun L w1 h1 h2 => hSm L w1 h1 h2 e he
        rw [hex] at hbok hbln hSm1
        have hsn : alN (rs.take (i + 1)) = alN (rs.take i) ++ [(x.o, x.r, x.ver, x.body)] := by unfold alN; rw [List.take_add_one, hx]; simp
        have hv3 : x.v[3]? = some (.slice (ovp x.bov) x.body.length (ovc x.bov x.body.length)) := by rw [← slV_eq hbok]; rfl
        have hcl := fun w1 h1 => clone_ok (ovp x.bov) x.body.length (ovc x.bov x.body.length) x.body rfl (by omega) w1 h1
        generalize hNX : NX ns = LN at *
        repeat' (first | (apply R.is1; first | (apply R.isBin; (apply R.pure; exact rfl; first | (apply Ok1.add64; exact rfl; exact rfl; omega; omega) | (apply Ok1.lss_t; exact rfl; exact rfl; omega))) | (apply R.isCall; first | (apply R.callE (vs := [.slice (ovp x.bov) x.body.length (ovc x.bov x.body.length)]); (iterate 3 exact rfl); exact Ext.none _; intro w1 hw1; exact hcl w1 (hSm1 _ w1 hw1 (Ext.mem (by (focus ((repeat' (first | exact Ext.all _ | apply Ext.cons | apply Ext.app)); done))))); rintro v Lo ⟨ov8, hov8, hsome, rfl, rfl⟩; rw [slV_eq hov8]) | (apply R.appendRd (xs := [⟨x.o, x.r, x.ver, ov8, x.body⟩]) (v := NE.v) (sz := 4) (ov := ov) (n := ns.length) (old := fl NE.v ns); (iterate 12 exact rfl); exact hov; (focus ((repeat' (first | exact Ext.here _ _ | apply Ext.cons | apply Ext.app)); done)); exact rfl; exact NE.v_len; exact rfl; (intro w1 hw1; exact RdSl.of (junk := []) hw1 (by exact At.head) (by simp [fl, NE.v, slV_eq hov8])); (exact fl1N_all _); omega; intro ov1 hov1 hsome1)) | (apply R.pure; exact rfl; first | (apply Ok1.load; exact rfl; first | (apply Ld.ownrowk (f := 0) (us := x.v); (focus ((repeat' (first | exact At.head | apply At.tail | apply At.right)); done)); exact SE.v_len; exact hx; (focus ((simp; done))); exact rfl; exact rfl; exact SE.sub9 _) | (apply Ld.own1; exact rfl; exact rfl; exact At.head; exact hv3)) | (apply Ok1.move; exact rfl) | (apply Ok1.fieldAddr; (iterate 5 exact rfl)) | (apply Ok1.load; exact rfl; (apply Ld.ownk; exact rfl; exact rfl; (focus ((repeat' (first | exact At.head | apply At.right)); done)); exact rfl)) | (apply Ok1.assign; exact rfl) | (apply Ok1.indexAddr; (iterate 5 exact rfl); omega; omega)) | (apply R.alloc; (iterate 3 exact rfl); intro) | (apply R.buildSlice; (iterate 12 exact rfl); intro)) | (apply R.is0; first | (apply R.store; (iterate 3 exact rfl); (exact (rfl : cellsE (.agg ⟨x.v⟩) = some x.v)); exact SE.v_len _; exact SE.v_all _; exact Upd.head; exact SE.set9 _ _ rfl) | (apply R.store; (iterate 6 exact rfl); (focus ((repeat' (first | exact Upd.head | apply Upd.right)); done)); exact rfl)) | apply R.nil | (apply T.is; first | apply T.seq | apply T.region | apply T.block | apply T.skip | (apply T.cond_t; exact rfl)))
        have hls : (ns ++ [(⟨x.o, x.r, x.ver, ov8, x.body⟩ : NE)]).length = ns.length + 1 := by simp
        have hfl : fl NE.v (ns ++ [(⟨x.o, x.r, x.ver, ov8, x.body⟩ : NE)]) = fl NE.v ns ++ fl NE.v [(⟨x.o, x.r, x.ver, ov8, x.body⟩ : NE)] := fl_app _ _ _
        have hnx : NX (ns ++ [(⟨x.o, x.r, x.ver, ov8, x.body⟩ : NE)]) = LN ++ blkL 5 ov8 (u8s x.body) := by rw [NX_app, hNX]; simp [NX]
        refine ⟨(i + 1, ov1, ns ++ [⟨x.o, x.r, x.ver, ov8, x.body⟩]), ?_⟩
        simp only [hls, hfl, hnx]
        refine ⟨⟨by omega, by omega, hov1, ?_, ?_⟩, by omega, ⟨rfl, rfl, rfl, rfl, trivial⟩, ?_⟩
        · intro y hy
          rcases List.mem_append.1 hy with h9 | h9
          · exact hns y h9
          · rw [List.mem_singleton.1 h9]
            exact hov8
        · rw [List.map_append, hsay, hsn]
          rfl
        · simp only [List.append_assoc]
          (focus ((repeat' (first | exact Ext.one _ _ | exact Ext.here _ _ | exact Ext.all _ | apply Keep.cons | apply Keep.app | apply Keep.last | apply Ext.cons | apply Ext.app)); done))
      · have him : i = rs.length := by omega
        subst him
        rw [List.take_length] at hsay
        repeat' (first | (apply R.is1; first | (apply R.isBin; (apply R.pure; exact rfl; (apply Ok1.lss_f; exact rfl; exact rfl; omega))) | (apply R.pure; exact rfl; first | (apply Ok1.move; exact rfl) | (apply Ok1.assign; exact rfl))) | apply R.nil | (apply T.is; first | apply T.seq | apply T.region | apply T.exit | apply T.ret | (apply T.cond_f; exact rfl)))
        (apply RetOk.t; exact rfl)
        refine ⟨_, ?_, rs, ov, ns, hp, hasc, hov, hns, hsay, rfl, rfl⟩
        (focus ((repeat' (first | exact Ext.here _ _ | exact Ext.all _ | apply Keep.app | apply Keep.last | apply Ext.cons)); done))
end Go.Proofs.Ytligngjcnlbgmaa
set_option linter.unusedSimpArgs false
set_option linter.unusedVariables false
namespace Go.Proofs.Ytligngjcnlbgmaa
open Go.RowKit Go.Shelf Go.Sort
set_option maxRecDepth 100000
section
variable {κ α β : Type} [DecidableEq κ]
def mmap (f : α → β) (ms : Ms κ α) : Ms κ β := ms.map fun x => (x.1, f x.2.1, x.2.2)
theorem mget_mmap (f : α → β) (k : κ) : ∀ (ms : Ms κ α), mget k (mmap f ms) = (mget k ms).map f
  | [] => rfl
  | x :: r => by
    have ih := mget_mmap f k r
    unfold mmap at ih ⊢
    simp only [List.map_cons, mget]
    by_cases h : x.1 = k
    · rw [if_pos h, if_pos h]; rfl
    · rw [if_neg h, if_neg h]; exact ih
theorem mset_mmap (f : α → β) (k : κ) (a : α) : ∀ (ms : Ms κ α), mmap f (mset k a ms) = mset k (f a) (mmap f ms)
  | [] => rfl
  | x :: r => by
    have ih := mset_mmap f k a r
    unfold mmap at ih ⊢
    simp only [List.map_cons, mset]
    by_cases h : x.1 = k
    · rw [if_pos h, if_pos h]; rfl
    · rw [if_neg h, if_neg h, List.map_cons, ih]
end
theorem mset_len9 {κ α : Type} [DecidableEq κ] (k : κ) (a : α) (ms : Ms κ α) : (mset k a ms).length = ms.length := by
  have := congrArg List.length (mset_keys k a ms)
  simpa [mkeys] using this
theorem mget_mem9 {κ α : Type} [DecidableEq κ] {k : κ} {a : α} : ∀ {ms : Ms κ α}, mget k ms = some a → ∃ b, (k, a, b) ∈ ms
  | [], h => by simp [mget] at h
  | x :: r, h => by
    simp only [mget] at h
    by_cases hx : x.1 = k
    · rw [if_pos hx] at h
      cases h
      exact ⟨x.2.2, by rw [← hx]; exact List.mem_cons_self⟩
    · rw [if_neg hx] at h
      obtain ⟨b, hb⟩ := mget_mem9 h
      exact ⟨b, List.mem_cons_of_mem _ hb⟩
/-- What of an entry is seen through a mask. -/
def vis (mask : Int) (e : SE) : Int × Int × Int × Nat × Bool × List Int × List Int := (e.o, e.r, e.ver, e.body.length, e.op, if inM mask e.r = true then e.body else [], if inM mask e.r = true then e.val else [])
theorem vis_ver {m : Int} {A B : SMs} (h : mmap (vis m) A = mmap (vis m) B) (k : Int × Int) : verI A k = verI B k := by
  have h1 := mget_mmap (vis m) k A
  have h2 := mget_mmap (vis m) k B
  rw [h, h2] at h1
  unfold verI
  cases ha : mget k A <;> cases hb : mget k B <;> rw [ha, hb] at h1 <;> simp only [Option.map_some, Option.map_none] at h1
  · cases h1
  · cases h1
  · simp only [vis, Option.some.injEq, Prod.mk.injEq] at h1
    exact h1.2.2.1.symm
theorem vis_len {m : Int} {A B : SMs} (h : mmap (vis m) A = mmap (vis m) B) : A.length = B.length := by
  have := congrArg List.length h
  simpa [mmap] using this
theorem vis_mem {m : Int} {A B : SMs} (h : mmap (vis m) A = mmap (vis m) B) (k : Int × Int) : mget k A = none ↔ mget k B = none := by
  have h1 := mget_mmap (vis m) k A
  have h2 := mget_mmap (vis m) k B
  rw [h, h2] at h1
  cases ha : mget k A <;> cases hb : mget k B <;> rw [ha, hb] at h1 <;> simp only [Option.map_some, Option.map_none] at h1 <;> first | cases h1 | simp
theorem vis_put {m : Int} {A B : SMs} (h : mmap (vis m) A = mmap (vis m) B) (k : Int × Int) (c : Nat) {e f : SE} (he : vis m e = vis m f) : putE A k = putE B k ∧ mmap (vis m) (putM A c k e).1 = mmap (vis m) (putM B c k f).1 ∧ (putM A c k e).2 = (putM B c k f).2 := by
  have hl := vis_len h
  have hm := vis_mem h k
  unfold putE putM
  cases ha : mget k A with
  | none =>
    rw [ha] at hm
    rw [hm.1 rfl]
    simp only [hl]
    by_cases h64 : B.length = 64
    · rw [if_pos h64, if_pos h64]; exact ⟨trivial, h, rfl⟩
    · rw [if_neg h64, if_neg h64]
      refine ⟨trivial, ?_, rfl⟩
      unfold mmap at h ⊢
      rw [List.map_append, List.map_append, h, List.map_singleton, List.map_singleton, he]
  | some a =>
    cases hb : mget k B with
    | none => rw [ha, hb] at hm; exact absurd (hm.2 rfl) (by simp)
    | some b =>
      refine ⟨rfl, ?_, rfl⟩
      simp only
      rw [mset_mmap, mset_mmap, h, he]
theorem SOk.put {ms : SMs} {clk : Nat} (h : SOk ms clk) (e : SE) (h1 : HRt e.o e.r e.ver) (h2 : OvOk 1 e.bov e.body.length (u8s e.body)) (h3 : OvOk 1 e.vov e.val.length (u8s e.val)) (h4 : e.body.length ≤ 96) (h5 : e.val.length ≤ 96) : SOk (putM ms clk (e.o, e.r) e).1 (putM ms clk (e.o, e.r) e).2 := by
  unfold putM
  cases hg : mget (e.o, e.r) ms with
  | some a =>
    have hall : ∀ (P : (Int × Int) × SE × Nat → Prop), (∀ x ∈ ms, P x) → (∀ b, P ((e.o, e.r), e, b)) → ∀ x ∈ mset (e.o, e.r) e ms, P x := by
      intro P hp hq x hx
      rcases mset_mem hx with h9 | ⟨h9, h8, _⟩
      · exact hp x h9
      · obtain ⟨k, v, b⟩ := x
        simp only at h9 h8
        subst h9 h8
        exact hq b
    refine ⟨h.wf.set _ _, hall _ h.key (fun _ => rfl), hall _ h.hrt (fun _ => h1), hall _ h.bok (fun _ => h2), hall _ h.vok (fun _ => h3), hall _ h.blen (fun _ => h4), hall _ h.vlen (fun _ => h5), ?_⟩
    rw [mset_len9]
    exact h.few
  | none =>
    by_cases h64 : ms.length = 64
    · simp only [if_pos h64]; exact h
    · simp only [if_neg h64]
      have hall : ∀ (P : (Int × Int) × SE × Nat → Prop), (∀ x ∈ ms, P x) → (∀ b, P ((e.o, e.r), e, b)) → ∀ x ∈ ms ++ [((e.o, e.r), e, clk)], P x := by
        intro P hp hq x hx
        rcases List.mem_append.1 hx with h9 | h9
        · exact hp x h9
        · rw [List.mem_singleton.1 h9]; exact hq _
      refine ⟨h.wf.snoc hg, hall _ h.key (fun _ => rfl), hall _ h.hrt (fun _ => h1), hall _ h.bok (fun _ => h2), hall _ h.vok (fun _ => h3), hall _ h.blen (fun _ => h4), hall _ h.vlen (fun _ => h5), ?_⟩
      have := h.few
      rw [List.length_append, List.length_singleton]
      omega
theorem SOk.nil : SOk [] 0 := ⟨MWf.nil, by simp, by simp, by simp, by simp, by simp, by simp, by simp⟩
theorem SOk.ver {ms : SMs} {clk : Nat} (h : SOk ms clk) : ∀ k a, mget k ms = some a → a.ver ≠ 0 := by
  intro k a hg
  obtain ⟨b, hb⟩ := mget_mem9 hg
  have := (h.hrt _ hb).2.2.2.2.1
  simp only at this
  omega
theorem SOk.ver2 {ms : SMs} {clk : Nat} (h : SOk ms clk) (k : Int × Int) : 0 ≤ verI ms k ∧ verI ms k ≤ 2147483647 := by
  unfold verI
  cases hg : mget k ms with
  | none => simp
  | some a =>
    obtain ⟨b, hb⟩ := mget_mem9 hg
    have h1 := (h.hrt _ hb).2.2.2.2
    simp only at h1 ⊢
    omega
/-- Two sorted lists of two stores that are seen alike are seen alike. -/
theorem vis_sorted {m : Int} {A B : SMs} {ca cb : Nat} (hA : SOk A ca) (hB : SOk B cb) (h : mmap (vis m) A = mmap (vis m) B) {ra rb : List SE} (pa : ra.Perm (A.map (·.2.1))) (pb : rb.Perm (B.map (·.2.1))) (aa : Asc cfS ra) (ab : Asc cfS rb) : ra.map (vis m) = rb.map (vis m) := by
  have hp : (ra.map (vis m)).Perm (rb.map (vis m)) := by
    refine (pa.map _).trans (.trans ?_ (pb.map _).symm)
    rw [List.map_map, List.map_map]
    have h2 := congrArg (List.map fun x : (Int × Int) × (Int × Int × Int × Nat × Bool × List Int × List Int) × Nat => x.2.1) h
    unfold mmap at h2
    rw [List.map_map, List.map_map] at h2
    exact .of_eq h2
  have hasc : ∀ {r : List SE}, Asc cfS r → List.Pairwise (fun x y : Int × Int × Int × Nat × Bool × List Int × List Int => ¬ (y.1 < x.1 ∨ y.1 = x.1 ∧ y.2.1 < x.2.1)) (r.map (vis m)) := by
    intro r hr
    rw [List.pairwise_map]
    refine List.Pairwise.imp (fun {x y} h9 => ?_) hr
    rw [cfS_neg] at h9
    exact h9
  refine List.Perm.eq_of_pairwise (fun x y hx hy h1 h2 => ?_) (hasc aa) (hasc ab) hp
  have hx2 := hp.subset hx
  have key : ∀ z ∈ rb.map (vis m), ∃ e ∈ B, vis m e.2.1 = z := by
    intro z hz
    obtain ⟨s, hs, rfl⟩ := List.mem_map.1 hz
    obtain ⟨e, he, rfl⟩ := List.mem_map.1 (pb.subset hs)
    exact ⟨e, he, rfl⟩
  obtain ⟨e, he, rfl⟩ := key x hx2
  obtain ⟨f, hf, rfl⟩ := key y hy
  simp only [vis] at h1 h2
  have ho : e.2.1.o = f.2.1.o := by omega
  have hr : e.2.1.r = f.2.1.r := by omega
  have hk : e.1 = f.1 := by rw [hB.key e he, hB.key f hf, ho, hr]
  have g1 := mget_of_mem hB.wf.keys he
  have g2 := mget_of_mem hB.wf.keys hf
  rw [hk, g2] at g1
  rw [Option.some.inj g1]
def rdV (m : Int) (rs : List (Int × Int × Int × Nat × Bool × List Int × List Int)) : List (Int × Int × Int × List Int) := (rs.filter fun x => x.2.2.2.2.1 && inM m x.2.1).map fun x => (x.1, x.2.1, x.2.2.1, x.2.2.2.2.2.2)
theorem rdN_vis (m : Int) : ∀ rs : List SE, rdN m rs = rdV m (rs.map (vis m))
  | [] => rfl
  | x :: r => by
    have ih := rdN_vis m r
    unfold rdN rdV at ih ⊢
    simp only [List.map_cons, List.filter_cons, vis] at ih ⊢
    by_cases h : (x.op && inM m x.r) = true
    · have h2 : inM m x.r = true := by simp at h; exact h.2
      rw [if_pos h, if_pos h, List.map_cons, List.map_cons, ih]
      simp only [if_pos h2]
    · rw [if_neg h, if_neg h, ih]
end Go.Proofs.Ytligngjcnlbgmaa
