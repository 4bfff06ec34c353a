/- Texts of the proof: Se4, Se5, Se6, Sc1, Lsc, Sc2, Eng34, Sc3, Sc4, Sc5, Sc7, Sp2, Sp3. -/
import Derived.Test.YtligngjcnlbgmaaGreatL26sb4
import Derived.Test.YtligngjcnlbgmaaGreatShelf
set_option linter.unusedSimpArgs false
set_option linter.unusedVariables false
namespace Go.Proofs.YtligngjcnlbgmaaGreat
open Go.RowKit Go.Shelf
set_option maxRecDepth 100000
theorem bv8_nat (v : BitVec 8) : IntKind.u8.wrap (v.toNat : Int) = (v.toNat : Int) := by
  rw [u8_mod]
  have := v.isLt
  omega
theorem bv8_eq {x : Int} (h : 0 ≤ x ∧ x ≤ 255) : ((BitVec.ofInt 8 x).toNat : Int) = x := by
  rw [BitVec.toNat_ofInt]
  omega
theorem xor8_iff {x y : Int} (hx : 0 ≤ x ∧ x ≤ 255) (hy : 0 ≤ y ∧ y ≤ 255) : xorI .u8 x y = 0 ↔ x = y := by
  have e : xorI .u8 x y = ((BitVec.ofInt 8 x ^^^ BitVec.ofInt 8 y).toNat : Int) := bv8_nat _
  rw [e]
  constructor
  · intro h
    have h1 : BitVec.ofInt 8 x ^^^ BitVec.ofInt 8 y = 0#8 := BitVec.eq_of_toNat_eq (by simpa using Int.ofNat.inj h)
    have h2 : BitVec.ofInt 8 x = BitVec.ofInt 8 y := BitVec.xor_eq_zero_iff.1 h1
    rw [← bv8_eq hx, ← bv8_eq hy, h2]
  · rintro rfl
    simp
theorem or8_range (x y : Int) : 0 ≤ orI .u8 x y ∧ orI .u8 x y ≤ 255 := by
  unfold orI; rw [u8_mod]; omega
theorem or8_iff {x y : Int} (hx : 0 ≤ x ∧ x ≤ 255) (hy : 0 ≤ y ∧ y ≤ 255) : orI .u8 x y = 0 ↔ x = 0 ∧ y = 0 := by
  have e : orI .u8 x y = ((BitVec.ofInt 8 x ||| BitVec.ofInt 8 y).toNat : Int) := bv8_nat _
  rw [e]
  constructor
  · intro h
    have h1 : BitVec.ofInt 8 x ||| BitVec.ofInt 8 y = 0#8 := BitVec.eq_of_toNat_eq (by simpa using Int.ofNat.inj h)
    obtain ⟨h2, h3⟩ := BitVec.or_eq_zero_iff.1 h1
    rw [← bv8_eq hx, ← bv8_eq hy, h2, h3]
    exact ⟨rfl, rfl⟩
  · rintro ⟨rfl, rfl⟩
    rfl
theorem mequal_ok (p1 p2 : Option Addr) (n1 n2 c1 c2 : Nat) (xs ys : List Int) (hn1 : n1 = xs.length) (hn2 : n2 = ys.length) (hbig : n1 ≤ 1000000000) (hb1 : Byt xs) (hb2 : Byt ys) (w : World) (h1 : RdSl w p1 u8V xs) (h2 : RdSl w p2 u8V ys) : CallW Tryz.prog 80 [.slice p1 n1 c1, .slice p2 n2 c2] w fun v _ => v = .bool (decide (xs = ys)) := by
  subst hn1 hn2
  refine enterW (tb := tb) Tryz.func80 rfl Tryz.ntmps80 rfl ?_
  by_cases hl : xs.length = ys.length
  case neg =>
    have hne : ¬ xs = ys := fun h => hl (by rw [h])
    have hl2 : ((xs.length : Nat) : Int) ≠ ys.length := by omega
    repeat' (first | (apply R.is1; first | (apply R.isBin; (apply R.pure; exact rfl; (apply Ok1.neq_t; exact rfl; exact rfl; omega))) | (apply R.isCall; (apply R.pure; exact rfl; (apply Ok1.lenS; (iterate 3 exact rfl)))) | (apply R.pure; exact rfl; first | (apply Ok1.move; exact rfl) | (apply Ok1.assign; exact rfl))) | apply R.nil | (apply T.is; first | apply T.seq | apply T.region | apply T.ret | (apply T.cond_t; exact rfl)))
    (apply RetOk.t; exact rfl)
    rw [decide_eq_false hne]
  repeat' (first | (apply R.is1; first | (apply R.isBin; (apply R.pure; exact rfl; (apply Ok1.neq_f; exact rfl; exact rfl; omega))) | (apply R.isCall; (apply R.pure; exact rfl; (apply Ok1.lenS; (iterate 3 exact rfl)))) | (apply R.pure; exact rfl; first | (apply Ok1.move; exact rfl) | (apply Ok1.assign; exact rfl))) | apply R.nil | (apply T.is; first | apply T.seq | apply T.region | apply T.block | apply T.skip | (apply T.cond_f; exact rfl)))
  apply T.loopK (α := Nat × Int) (I := fun q => q.1 ≤ xs.length ∧ (0 ≤ q.2 ∧ q.2 ≤ 255) ∧ (q.2 = 0 ↔ xs.take q.1 = ys.take q.1)) (σi := fun q => [(0, .slice p1 xs.length c1), (1, .slice p2 ys.length c2), (5, .int .u8 q.2), (13, .int .i64 xs.length), (14, .int .i64 q.1)]) (Li := fun _ => []) (μ := fun q => xs.length - q.1) (i0 := (0, 0))
  · exact ⟨Nat.zero_le _, by decide, by simp⟩
  · exact ⟨rfl, rfl, rfl, rfl, rfl, trivial⟩
  · (focus ((repeat' (exact Keep.nil _)); done))
  · rintro ⟨i, u⟩ ⟨hi, hu, hq⟩
    simp only at hi hu hq ⊢
    rcases Nat.lt_or_ge i xs.length with hlt | hge
    · obtain ⟨x, hx⟩ : ∃ x, xs[i]? = some x := ⟨_, List.getElem?_eq_getElem (by omega)⟩
      obtain ⟨y, hy⟩ : ∃ y, ys[i]? = some y := ⟨_, List.getElem?_eq_getElem (by omega)⟩
      obtain ⟨b1, o1, hpe1, H1⟩ := h1.at hx
      obtain ⟨b2, o2, hpe2, H2⟩ := h2.at hy
      replace H1 := H1 1 u8V_len
      replace H2 := H2 1 u8V_len
      have hxb := hb1 x (List.mem_of_getElem? hx)
      have hyb := hb2 y (List.mem_of_getElem? hy)
      have ho := or8_iff hu (xor8_range x y)
      rw [xor8_iff hxb hyb] at ho
      repeat' (first | (apply R.is1; first | (apply R.isBin; (apply R.pure; exact rfl; first | (apply Ok1.add64; exact rfl; exact rfl; omega; omega) | (apply Ok1.lss_t; exact rfl; exact rfl; omega))) | (apply R.pure; exact rfl; first | (apply Ok1.move; exact rfl) | (apply Ok1.assign; exact rfl))) | apply R.nil | (apply T.is; first | (apply T.drawC (id := 7) [] (by decide); ((apply A.take 0; exact rfl; exact rfl; kernel_rfl; kernel_rfl; kernel_rfl; (apply Ok1.move; exact rfl)) <;> (apply A.take 1; exact rfl; exact rfl; kernel_rfl; kernel_rfl; kernel_rfl; (apply Ok1.move; exact rfl)) <;> (apply A.take 2; exact rfl; exact rfl; kernel_rfl; kernel_rfl; kernel_rfl; (apply Ok1.move; exact rfl)) <;> (apply A.take 3; exact rfl; exact rfl; kernel_rfl; kernel_rfl; kernel_rfl; (apply Ok1.indexAddrP; (iterate 4 exact rfl); (exact hpe1); exact rfl; omega; omega)) <;> (apply A.take 4; exact rfl; exact rfl; kernel_rfl; kernel_rfl; kernel_rfl; (apply Ok1.load; exact rfl; (apply Ld.row0 H1; exact rfl; exact List.not_mem_nil; (iterate 3 exact rfl)))) <;> (apply A.take 5; exact rfl; exact rfl; kernel_rfl; kernel_rfl; kernel_rfl; (apply Ok1.move; exact rfl)) <;> (apply A.take 6; exact rfl; exact rfl; kernel_rfl; kernel_rfl; kernel_rfl; (apply Ok1.move; exact rfl)) <;> (apply A.take 7; exact rfl; exact rfl; kernel_rfl; kernel_rfl; kernel_rfl; (apply Ok1.indexAddrP; (iterate 4 exact rfl); (exact hpe2); exact rfl; omega; omega)) <;> (apply A.take 8; exact rfl; exact rfl; kernel_rfl; kernel_rfl; kernel_rfl; (apply Ok1.load; exact rfl; (apply Ld.row0 H2; exact rfl; exact List.not_mem_nil; (iterate 3 exact rfl)))) <;> (apply A.take 9; exact rfl; exact rfl; kernel_rfl; kernel_rfl; kernel_rfl; (apply Ok1.xorK; exact rfl; exact rfl)) <;> (apply A.take 10; exact rfl; exact rfl; kernel_rfl; kernel_rfl; kernel_rfl; (apply Ok1.orK; exact rfl; exact rfl)) <;> (apply A.take 11; exact rfl; exact rfl; kernel_rfl; kernel_rfl; kernel_rfl; (apply Ok1.assign; exact rfl)) <;> (apply A.done; kernel_rfl))) | apply T.seq | apply T.region | apply T.block | apply T.skip | (apply T.cond_t; exact rfl)))
      refine ⟨(i + 1, orI .u8 u (xorI .u8 x y)), ⟨by simp only; omega, or8_range _ _, ?_⟩, by simp only; omega, ⟨rfl, rfl, rfl, rfl, rfl, trivial⟩, by (focus ((repeat' (exact Keep.nil _)); done))⟩
      simp only [ho, hq]
      rw [List.take_add_one, List.take_add_one, hx, hy]
      constructor
      · rintro ⟨h3, rfl⟩
        rw [h3]
      · intro h3
        have h4 := List.append_inj h3 (by rw [List.length_take, List.length_take]; omega)
        exact ⟨h4.1, by simpa using h4.2⟩
    · have him : i = xs.length := by omega
      subst him
      rw [List.take_length, hl, List.take_length] at hq
      by_cases hu0 : u = 0
      · subst hu0
        repeat' (first | (apply R.is1; first | (apply R.isBin; (apply R.pure; exact rfl; first | (apply Ok1.lss_f; exact rfl; exact rfl; omega) | (apply Ok1.eql_t; exact rfl; exact rfl; omega))) | (apply R.pure; exact rfl; first | (apply Ok1.move; exact rfl) | (apply Ok1.assign; exact rfl))) | apply R.nil | (apply T.is; first | apply T.seq | apply T.region | apply T.exit | apply T.ret | (apply T.cond_f; exact rfl)))
        all_goals (apply RetOk.t; exact rfl)
        all_goals rw [decide_eq_true (hq.1 rfl)]
        all_goals rfl
      · repeat' (first | (apply R.is1; first | (apply R.isBin; (apply R.pure; exact rfl; first | (apply Ok1.lss_f; exact rfl; exact rfl; omega) | (apply Ok1.eql_f; exact rfl; exact rfl; omega))) | (apply R.pure; exact rfl; first | (apply Ok1.move; exact rfl) | (apply Ok1.assign; exact rfl))) | apply R.nil | (apply T.is; first | apply T.seq | apply T.region | apply T.exit | apply T.ret | (apply T.cond_f; exact rfl)))
        all_goals (apply RetOk.t; exact rfl)
        all_goals rw [decide_eq_false (fun h => hu0 (hq.2 h))]
        all_goals rfl
end Go.Proofs.YtligngjcnlbgmaaGreat
set_option linter.unusedSimpArgs false
set_option linter.unusedVariables false
namespace Go.Proofs.YtligngjcnlbgmaaGreat
open Go.RowKit Go.Shelf
set_option maxRecDepth 100000
theorem stag3_ok (bk : Nat) (k : List Int) (hkl : k.length ≤ 999999000) (hkb : Byt k) (a b c : Pt) (ha : Byt a.xs) (hb : Byt b.xs) (hc : Byt c.xs) (hla : a.xs.length ≤ 100000) (hlb : b.xs.length ≤ 100000) (hlc : c.xs.length ≤ 100000) (pp : Option Addr) (cap : Nat) (w : World) (hk : KeyR w bk k) (hp : RdSl w pp Pt.v [a, b, c]) (h1 : RdSl w a.p u8V a.xs) (h2 : RdSl w b.p u8V b.xs) (h3 : RdSl w c.p u8V c.xs) :
    CallW Tryz.prog 74 [.pointer (some ⟨bk, 0, none⟩), .slice pp 3 cap] w fun v _ => v = .agg ⟨u8s (stagI k a.xs b.xs c.xs)⟩ := by
  refine stag_ok bk k hkl hkb pp cap [a, b, c] (by simp) ?_ ?_ ?_ w hk hp ?_
  · intro x hx
    simp only [List.mem_cons, List.not_mem_nil, or_false] at hx
    rcases hx with rfl | rfl | rfl <;> assumption
  · intro x hx
    simp only [List.mem_cons, List.not_mem_nil, or_false] at hx
    rcases hx with rfl | rfl | rfl <;> omega
  · simp [frameI, len4]
    omega
  · intro x hx
    simp only [List.mem_cons, List.not_mem_nil, or_false] at hx
    rcases hx with rfl | rfl | rfl <;> assumption
theorem sseal_ok (bk : Nat) (k : List Int) (hkl : k.length ≤ 999999000) (hkb : Byt k) (pn : Option Addr) (nl cn : Nat) (nonce : List Int) (hnl : nl = nonce.length) (hn32 : nl ≤ 32) (hnb : Byt nonce) (pb : Option Addr) (bl cb : Nat) (bound : List Int) (hbl : bl = bound.length) (hb32 : bl ≤ 100000) (hbb : Byt bound) (p : Option Addr) (n cap : Nat) (b : List Int) (hn : n = b.length) (hbig : n ≤ 65536) (hby : Byt b) (w : World) (hk : KeyR w bk k) (hpn : RdSl w pn u8V nonce) (hpb : RdSl w pb u8V bound) (hp : RdSl w p u8V b) :
    CallM Tryz.prog 47 [.pointer (some ⟨bk, 0, none⟩), .slice pn nl cn, .slice pb bl cb, .slice p n cap] [] w fun v L => ∃ ov, OvOk 1 ov (n + 32) (u8s (sealI k nonce bound b)) ∧ v = .tuple #[slV ov (n + 32), .int .i64 0] ∧ L = blkL 5 ov (u8s (sealI k nonce bound b)) := by
  subst hnl hbl hn
  have hss : sealI k nonce bound b = turnI b (strmI k nonce b.length) ++ stagI k nonce bound (turnI b (strmI k nonce b.length)) := rfl
  have hsl := sealI_len k nonce bound b
  have hSl := strmI_len k nonce b.length
  have hstr := fun w1 (hc : Chg [] w w1) => stream_ok bk k hkl hkb pn nonce.length cn nonce rfl hn32 hnb b.length hbig w1 (hk.chg hc) (hpn.chg' hc (fun _ => Off.nil _))
  have htu := fun ps cs w1 (hc : Chg [] w w1) h => turned_ok p b.length cap b rfl (by omega) hby ps cs (strmI k nonce b.length) hSl w1 (hp.chg' hc (fun _ => Off.nil _)) h
  have hTl : (turnI b (strmI k nonce b.length)).length = b.length := turnI_len hSl.symm
  have hTb := turnI_byt b (strmI k nonce b.length)
  have htg := fun q c b3 w1 (hc : Chg [] w w1) h1 h2 => stag3_ok bk k hkl hkb ⟨pn, cn, nonce⟩ ⟨pb, cb, bound⟩ ⟨q, c, turnI b (strmI k nonce b.length)⟩ hnb hbb hTb (by simp only; omega) (by simp only; omega) (by simp only; omega) (some ⟨b3, 0, none⟩) 3 w1 (hk.chg hc) h1 (hpn.chg' hc (fun _ => Off.nil _)) (hpb.chg' hc (fun _ => Off.nil _)) h2
  simp only at htg
  generalize sealI k nonce bound b = SS at *
  generalize strmI k nonce b.length = S at *
  generalize turnI b S = C at *
  have hls : (u8s (stagI k nonce bound C)).length = 32 := by rw [u8s_len, stagI_len]
  have hDl : (stagI k nonce bound C).length = 32 := stagI_len _ _ _ _
  generalize stagI k nonce bound C = D at *
  have hset : ∀ cs : List Value, cs.length = 32 → setE cs 0 (u8s D) = some (u8s D) := fun cs h => setE_all (by rw [hls, h])
  refine enterK (tb := tb) Tryz.func47 rfl Tryz.ntmps47 rfl ?_
  repeat' (first | (apply R.is1; first | (apply R.isBin; first | (apply R.pure; exact rfl; first | (apply Ok1.neq_t; exact rfl; exact rfl; omega) | (apply Ok1.neq_f; exact rfl; exact rfl; omega) | (apply Ok1.neqP; (iterate 5 exact rfl)) | (apply Ok1.neqM; (iterate 5 exact rfl)) | (apply Ok1.neqS; (iterate 5 exact rfl))) | (apply R.neq rfl rfl rfl <;> intro) | (apply R.neqF; (iterate 8 exact rfl); all_goals intro)) | (apply R.isCall; first | (apply R.callE (vs := [.pointer (some ⟨bk, 0, none⟩), .slice pn nonce.length cn, .int .i64 b.length]); (iterate 3 exact rfl); exact Ext.none _; intro w1 hw1; exact hstr w1 hw1.chg; rintro v Lo ⟨ovs, W, hovs, hnW, hWt, rfl, rfl⟩) | (apply R.callE (vs := [.slice p b.length cap, .slice (ovp ovs) b.length b.length]); (iterate 3 exact rfl); exact Ext.none _; intro w1 hw1; exact htu _ _ w1 hw1.chg (hWt ▸ (rdown hovs hw1 (Ext.mem (by (focus ((repeat' (first | exact Ext.none _ | exact Ext.one _ _ | exact Ext.here _ _ | exact Ext.all _ | apply Ext.cons | apply Ext.app | apply Ext.two)); done))))).pre u8V_len b.length); rintro v Lo ⟨ovt, hovt, rfl, rfl⟩; rw [slV_eq hovt]) | (apply R.pure; exact rfl; first | (apply Ok1.lenS; (iterate 3 exact rfl)) | (apply Ok1.lenStr; (iterate 3 exact rfl)) | (apply Ok1.lenMm; (iterate 3 exact rfl); (focus ((repeat' (first | exact At.head | apply At.tail | apply At.right)); done))) | (apply Ok1.lenM_nil; (iterate 3 exact rfl)))) | (apply R.pure; exact rfl; first | (apply Ok1.move; exact rfl) | (apply Ok1.assign; exact rfl) | (apply Ok1.extract; exact rfl; exact rfl) | (apply Ok1.slice0; (iterate 7 exact rfl); (refine ⟨?_, ?_, ?_⟩ <;> omega); (first | exact Or.inl rfl | exact Or.inr (fun e => by cases e))) | (apply Ok1.sliceTo; (iterate 6 exact rfl); omega; omega; omega; (first | exact Or.inl rfl | exact Or.inr (fun e => by cases e))) | (apply Ok1.sliceFrom; (iterate 7 exact rfl); omega; omega; omega; omega; omega; (first | exact Or.inl rfl | exact Or.inr (fun e => by cases e)))) | (apply R.alloc; (iterate 3 exact rfl); intro) | (apply R.buildSlice; (iterate 12 exact rfl); intro)) | (apply R.is0; first | (apply R.store; (iterate 6 exact rfl); (focus ((repeat' (first | exact Upd.head | apply Upd.tail | apply Upd.right)); done)); exact rfl) | fail) | (apply R.isG; first | (apply R.guard_run; exact rfl; exact rfl) | (apply R.guard_not; (iterate 3 exact rfl)) | (apply R.guard_not0; exact rfl; exact rfl) | (apply R.guard_un; (iterate 3 exact rfl)) | (apply R.guard_un0; exact rfl; exact rfl) | (apply R.guard rfl rfl ?_ (fun h => ⟨rfl, ?_⟩) <;> try intro)) | apply R.nil | (apply T.is; first | apply T.seq | apply T.region | apply T.block | apply T.scope | apply T.label | apply T.skip | apply T.exit | apply T.ret | (apply T.cond_t; exact rfl) | (apply T.cond_f; exact rfl) | (apply T.cond_h; exact rfl; assumption) | (apply T.cond_n; exact rfl; assumption) | (apply T.cond rfl <;> intro)) | apply Rnd.step)
  have hCl : C.length = b.length := hTl
  rename_i b3
  have hp3 : ∀ L w1, Hp w [] L w1 → (b3, Obj.cells ⟨[.slice pn nonce.length cn, .slice pb bound.length cb, .slice (ovp ovt) b.length (ovc ovt b.length)]⟩ 22 (0, 0)) ∈ L → RdSl w1 (some ⟨b3, 0, none⟩) Pt.v [⟨pn, cn, nonce⟩, ⟨pb, cb, bound⟩, ⟨ovp ovt, ovc ovt b.length, C⟩] := fun L w1 h1 h2 => RdSl.ofMem (junk := []) h1 h2 (by simp [fl, Pt.v, hTl])
  have hcc : ∀ L w1 b2 b13, Hp w [] L w1 → (b2, Obj.cells ⟨[.slice (ovp ovt) b.length (ovc ovt b.length), .slice (some ⟨b13, 0, none⟩) 32 32]⟩ 22 (0, 0)) ∈ L → (b13, Obj.cells ⟨u8s D⟩ 123 (0, 0)) ∈ L → (∀ z ∈ blkL 5 ovt (u8s C), z ∈ L) → CallM Tryz.prog 55 [.slice (some ⟨b2, 0, none⟩) 2 2] [] w1 fun v L => ∃ ov, OvOk 1 ov (b.length + 32) (u8s SS) ∧ v = slV ov (b.length + 32) ∧ L = blkL 5 ov (u8s SS) := by
    intro L w1 b2 b13 h1 h2 h3 h4
    have hcat : cat [⟨ovp ovt, ovc ovt b.length, C⟩, ⟨some ⟨b13, 0, none⟩, 32, D⟩] = SS := by simp [cat, hss]
    have h := concat_ok (some ⟨b2, 0, none⟩) 2 2 [⟨ovp ovt, ovc ovt b.length, C⟩, ⟨some ⟨b13, 0, none⟩, 32, D⟩] rfl (by rw [hcat]; omega) (by decide) w1 (RdSl.ofMem (junk := []) h1 h2 (by simp [fl, Pt.v, hTl, hDl])) ?_
    · rw [hcat, hsl] at h
      exact h
    · intro x hx
      simp only [List.mem_cons, List.not_mem_nil, or_false] at hx
      rcases hx with rfl | rfl
      · exact rdown (by rw [hTl]; exact hovt) h1 h4
      · exact RdSl.ofMem (junk := []) h1 h3 (by rw [fl_u8, List.append_nil])
  repeat' (first | (apply R.is1; first | (apply R.isBin; first | (apply R.pure; exact rfl; first | (apply Ok1.neq_t; exact rfl; exact rfl; omega) | (apply Ok1.neq_f; exact rfl; exact rfl; omega) | (apply Ok1.neqP; (iterate 5 exact rfl)) | (apply Ok1.neqM; (iterate 5 exact rfl)) | (apply Ok1.neqS; (iterate 5 exact rfl))) | (apply R.neq rfl rfl rfl <;> intro) | (apply R.neqF; (iterate 8 exact rfl); all_goals intro)) | (apply R.isCall; first | (apply R.callW (vs := [.pointer (some ⟨bk, 0, none⟩), .slice (some ⟨b3, 0, none⟩) 3 3]); (iterate 3 exact rfl); intro w1 hw1; exact htg (ovp ovt) (ovc ovt b.length) b3 w1 hw1.chg (hp3 _ w1 hw1 List.mem_cons_self) (rdown (by rw [hTl]; exact hovt) hw1 (Ext.mem (by (focus ((repeat' (first | exact Ext.none _ | exact Ext.one _ _ | exact Ext.here _ _ | exact Ext.all _ | apply Ext.cons | apply Ext.app | apply Ext.two)); done))))); rintro v rfl) | (apply R.pure; exact rfl; first | (apply Ok1.lenS; (iterate 3 exact rfl)) | (apply Ok1.lenStr; (iterate 3 exact rfl)) | (apply Ok1.lenMm; (iterate 3 exact rfl); (focus ((repeat' (first | exact At.head | apply At.tail | apply At.right)); done))) | (apply Ok1.lenM_nil; (iterate 3 exact rfl)))) | (apply R.pure; exact rfl; first | (apply Ok1.sliceArr; (iterate 4 exact rfl)) | (apply Ok1.move; exact rfl) | (apply Ok1.assign; exact rfl) | (apply Ok1.extract; exact rfl; exact rfl) | (apply Ok1.slice0; (iterate 7 exact rfl); (refine ⟨?_, ?_, ?_⟩ <;> omega); (first | exact Or.inl rfl | exact Or.inr (fun e => by cases e))) | (apply Ok1.sliceTo; (iterate 6 exact rfl); omega; omega; omega; (first | exact Or.inl rfl | exact Or.inr (fun e => by cases e))) | (apply Ok1.sliceFrom; (iterate 7 exact rfl); omega; omega; omega; omega; omega; (first | exact Or.inl rfl | exact Or.inr (fun e => by cases e)))) | (apply R.alloc; (iterate 3 exact rfl); intro) | (apply R.buildSlice; (iterate 12 exact rfl); intro)) | (apply R.is0; first | (apply R.store; (iterate 4 exact rfl); exact hls; exact u8s_one D; (focus ((repeat' (first | exact Upd.head | apply Upd.tail | apply Upd.right)); done)); exact hset _ rfl) | (apply R.store; (iterate 6 exact rfl); (focus ((repeat' (first | exact Upd.head | apply Upd.tail | apply Upd.right)); done)); exact rfl) | fail) | (apply R.isG; first | (apply R.guard_run; exact rfl; exact rfl) | (apply R.guard_not; (iterate 3 exact rfl)) | (apply R.guard_not0; exact rfl; exact rfl) | (apply R.guard_un; (iterate 3 exact rfl)) | (apply R.guard_un0; exact rfl; exact rfl) | (apply R.guard rfl rfl ?_ (fun h => ⟨rfl, ?_⟩) <;> try intro)) | apply R.nil | (apply T.is; first | apply T.seq | apply T.region | apply T.block | apply T.scope | apply T.label | apply T.skip | apply T.exit | apply T.ret | (apply T.cond_t; exact rfl) | (apply T.cond_f; exact rfl) | (apply T.cond_h; exact rfl; assumption) | (apply T.cond_n; exact rfl; assumption) | (apply T.cond rfl <;> intro)) | apply Rnd.step)
  rename_i b13 b2
  repeat' (first | (apply R.is1; first | (apply R.isBin; first | (apply R.pure; exact rfl; first | (apply Ok1.neq_t; exact rfl; exact rfl; omega) | (apply Ok1.neq_f; exact rfl; exact rfl; omega) | (apply Ok1.neqP; (iterate 5 exact rfl)) | (apply Ok1.neqM; (iterate 5 exact rfl)) | (apply Ok1.neqS; (iterate 5 exact rfl))) | (apply R.neq rfl rfl rfl <;> intro) | (apply R.neqF; (iterate 8 exact rfl); all_goals intro)) | (apply R.isCall; first | (apply R.callE (vs := [.slice (some ⟨b2, 0, none⟩) 2 2]); (iterate 3 exact rfl); exact Ext.none _; intro w1 hw1; exact hcc _ w1 b2 b13 hw1 (by simp) (by simp) (Ext.mem (by (focus ((repeat' (first | exact Ext.none _ | exact Ext.one _ _ | exact Ext.here _ _ | exact Ext.all _ | apply Ext.cons | apply Ext.app | apply Ext.two)); done)))); rintro v Lo ⟨ov9, hov9, rfl, rfl⟩) | (apply R.pure; exact rfl; first | (apply Ok1.lenS; (iterate 3 exact rfl)) | (apply Ok1.lenStr; (iterate 3 exact rfl)) | (apply Ok1.lenMm; (iterate 3 exact rfl); (focus ((repeat' (first | exact At.head | apply At.tail | apply At.right)); done))) | (apply Ok1.lenM_nil; (iterate 3 exact rfl)))) | (apply R.pure; exact rfl; first | (apply Ok1.move; exact rfl) | (apply Ok1.assign; exact rfl) | (apply Ok1.extract; exact rfl; exact rfl) | (apply Ok1.slice0; (iterate 7 exact rfl); (refine ⟨?_, ?_, ?_⟩ <;> omega); (first | exact Or.inl rfl | exact Or.inr (fun e => by cases e))) | (apply Ok1.sliceTo; (iterate 6 exact rfl); omega; omega; omega; (first | exact Or.inl rfl | exact Or.inr (fun e => by cases e))) | (apply Ok1.sliceFrom; (iterate 7 exact rfl); omega; omega; omega; omega; omega; (first | exact Or.inl rfl | exact Or.inr (fun e => by cases e)))) | (apply R.alloc; (iterate 3 exact rfl); intro) | (apply R.buildSlice; (iterate 12 exact rfl); intro)) | (apply R.is0; first | (apply R.store; (iterate 6 exact rfl); (focus ((repeat' (first | exact Upd.head | apply Upd.tail | apply Upd.right)); done)); exact rfl) | fail) | (apply R.isG; first | (apply R.guard_run; exact rfl; exact rfl) | (apply R.guard_not; (iterate 3 exact rfl)) | (apply R.guard_not0; exact rfl; exact rfl) | (apply R.guard_un; (iterate 3 exact rfl)) | (apply R.guard_un0; exact rfl; exact rfl) | (apply R.guard rfl rfl ?_ (fun h => ⟨rfl, ?_⟩) <;> try intro)) | apply R.nil | (apply T.is; first | apply T.seq | apply T.region | apply T.block | apply T.scope | apply T.label | apply T.skip | apply T.exit | apply T.ret | (apply T.cond_t; exact rfl) | (apply T.cond_f; exact rfl) | (apply T.cond_h; exact rfl; assumption) | (apply T.cond_n; exact rfl; assumption) | (apply T.cond rfl <;> intro)) | apply Rnd.step)
  (apply RetOk.tt; exact rfl; exact rfl)
  exact ⟨_, by (focus ((repeat' (first | exact Keep.nil _ | exact Ext.one _ _ | exact Ext.here _ _ | exact Ext.all _ | apply Keep.cons | apply Keep.app | apply Keep.last | apply Ext.cons | apply Ext.app)); done)), ov9, hov9, rfl, rfl⟩
end Go.Proofs.YtligngjcnlbgmaaGreat
set_option linter.unusedSimpArgs false
set_option linter.unusedVariables false
namespace Go.Proofs.YtligngjcnlbgmaaGreat
open Go.RowKit Go.Shelf
set_option maxRecDepth 100000
/-- What was sealed; what is wrong with sealed bytes. -/
def sopI (k nonce s : List Int) : List Int := turnI (s.take (s.length - 32)) (strmI k nonce (s.length - 32))
def sopE (k nonce bound s : List Int) : Int := if s.length < 32 then 4 else if stagI k nonce bound (s.take (s.length - 32)) = s.drop (s.length - 32) then 0 else 5
def sopN (k nonce bound s : List Int) : List Int := if sopE k nonce bound s = 0 then sopI k nonce s else []
theorem RdSl.sufB {w : World} {b o m : Nat} {s : List Int} (h : RdSl w (some ⟨b, o, none⟩) u8V s) (hm : m ≤ s.length) : RdSl w (some ⟨b, o + m * 1, none⟩) u8V (s.drop m) := by
  rcases h with h | ⟨b', o', he, h⟩
  · exact .inl (by rw [h]; simp)
  · cases he
    refine .inr ⟨_, _, rfl, fun k hk => ?_⟩
    rw [fl_u8, u8s_len, List.length_drop] at hk
    have h2 := h (m + k) (by rw [fl_u8, u8s_len]; omega)
    rw [Nat.mul_one, Nat.add_assoc, h2, fl_u8, fl_u8, u8s, u8s, List.getElem?_map, List.getElem?_map, List.getElem?_drop]
theorem sopen_ok (bk : Nat) (k : List Int) (hkl : k.length ≤ 999999000) (hkb : Byt k) (pn : Option Addr) (nl cn : Nat) (nonce : List Int) (hnl : nl = nonce.length) (hn32 : nl ≤ 32) (hnb : Byt nonce) (pb : Option Addr) (bl cb : Nat) (bound : List Int) (hbl : bl = bound.length) (hb32 : bl ≤ 100000) (hbb : Byt bound) (p : Option Addr) (n cap : Nat) (s : List Int) (hn : n = s.length) (hcap : n ≤ cap) (hbig : n ≤ 65568) (hby : Byt s) (w : World) (hk : KeyR w bk k) (hpn : RdSl w pn u8V nonce) (hpb : RdSl w pb u8V bound) (hp : RdSl w p u8V s) :
    CallM Tryz.prog 51 [.pointer (some ⟨bk, 0, none⟩), .slice pn nl cn, .slice pb bl cb, .slice p n cap] [] w fun v L => ∃ ov, OvOk 1 ov (sopN k nonce bound s).length (u8s (sopN k nonce bound s)) ∧ v = .tuple #[slV ov (sopN k nonce bound s).length, .int .i64 (sopE k nonce bound s)] ∧ L = blkL 5 ov (u8s (sopN k nonce bound s)) := by
  subst hnl hbl
  have hck := scheck_ok bk pn nonce.length cn hn32
  by_cases h32 : s.length < 32
  · have he : sopE k nonce bound s = 4 := by unfold sopE; rw [if_pos h32]
    have hN : sopN k nonce bound s = [] := by unfold sopN; rw [he]; rfl
    rw [hN, he]
    subst hn
    refine enterK (tb := tb) Tryz.func51 rfl Tryz.ntmps51 rfl ?_
    repeat' (first | (apply R.is1; first | (apply R.isBin; (apply R.pure; exact rfl; first | (apply Ok1.sub64; exact rfl; exact rfl; omega; omega) | (apply Ok1.lss_t; exact rfl; exact rfl; omega) | (apply Ok1.neq_f; exact rfl; exact rfl; omega))) | (apply R.isCall; first | apply R.callP rfl rfl rfl hck | (apply R.pure; exact rfl; (apply Ok1.lenS; (iterate 3 exact rfl)))) | (apply R.pure; exact rfl; first | (apply Ok1.move; exact rfl) | (apply Ok1.assign; exact rfl))) | apply R.nil | (apply T.is; first | apply T.seq | apply T.region | apply T.block | apply T.ret | (apply T.cond_t; exact rfl) | (apply T.cond_f; exact rfl)))
    (apply RetOk.tt; exact rfl; exact rfl)
    exact ⟨_, by (focus ((repeat' (exact Keep.nil _)); done)), none, OvOk.start 1, rfl, rfl⟩
  obtain ⟨m, hm⟩ : ∃ m, s.length = m + 32 := ⟨s.length - 32, by omega⟩
  have hm2 : s.length - 32 = m := by omega
  have he : sopE k nonce bound s = if stagI k nonce bound (s.take m) = s.drop m then 0 else 5 := by unfold sopE; rw [if_neg h32, hm2]
  have hI : sopI k nonce s = turnI (s.take m) (strmI k nonce m) := by unfold sopI; rw [hm2]
  have hN : sopN k nonce bound s = if sopE k nonce bound s = 0 then turnI (s.take m) (strmI k nonce m) else [] := by unfold sopN; rw [hI]
  rw [hm] at hn
  subst hn
  obtain ⟨bs, os, rfl⟩ : ∃ bs os, p = some ⟨bs, os, none⟩ := by
    rcases hp with h | ⟨b, o, h, _⟩
    · rw [h] at hm; simp at hm
    · exact ⟨b, o, h⟩
  have hpre : RdSl w (some ⟨bs, os, none⟩) u8V (s.take m) := hp.pre u8V_len m
  have hsuf := hp.sufB (m := m) (by omega)
  have hBl : (s.take m).length = m := by rw [List.length_take]; omega
  have hTl : (s.drop m).length = 32 := by rw [List.length_drop]; omega
  have hBb : Byt (s.take m) := fun y hy => hby y (List.mem_of_mem_take hy)
  have hTb : Byt (s.drop m) := fun y hy => hby y (List.mem_of_mem_drop hy)
  generalize s.take m = B at *
  generalize s.drop m = TG at *
  have hSl := strmI_len k nonce m
  have hstr := fun w1 (hc : Chg [] w w1) => stream_ok bk k hkl hkb pn nonce.length cn nonce rfl hn32 hnb m (by omega) w1 (hk.chg hc) (hpn.chg' hc (fun _ => Off.nil _))
  have htu := fun ps cs w1 (hc : Chg [] w w1) h => turned_ok (some ⟨bs, os, none⟩) m m B hBl.symm (by omega) hBb ps cs (strmI k nonce m) (by rw [hSl, hBl]) w1 (hpre.chg' hc (fun _ => Off.nil _)) h
  have htg := fun b3 w1 (hc : Chg [] w w1) h1 => stag3_ok bk k hkl hkb ⟨pn, cn, nonce⟩ ⟨pb, cb, bound⟩ ⟨some ⟨bs, os, none⟩, m, B⟩ hnb hbb hBb (by simp only; omega) (by simp only; omega) (by simp only; omega) (some ⟨b3, 0, none⟩) 3 w1 (hk.chg hc) h1 (hpn.chg' hc (fun _ => Off.nil _)) (hpb.chg' hc (fun _ => Off.nil _)) (hpre.chg' hc (fun _ => Off.nil _))
  simp only at htg
  have hTul : (turnI B (strmI k nonce m)).length = m := by rw [turnI_len (by rw [hSl, hBl]), hBl]
  generalize strmI k nonce m = S at *
  generalize turnI B S = C at *
  have hls : (u8s (stagI k nonce bound B)).length = 32 := by rw [u8s_len, stagI_len]
  have hDl : (stagI k nonce bound B).length = 32 := stagI_len _ _ _ _
  have hDb : Byt (stagI k nonce bound B) := hmac_byt _ _
  generalize stagI k nonce bound B = D at *
  have hset : ∀ cs : List Value, cs.length = 32 → setE cs 0 (u8s D) = some (u8s D) := fun cs h => setE_all (by rw [hls, h])
  have hp3 : ∀ L w1 b3, Hp w [] L w1 → (b3, Obj.cells ⟨[.slice pn nonce.length cn, .slice pb bound.length cb, .slice (some ⟨bs, os, none⟩) m m]⟩ 22 (0, 0)) ∈ L → RdSl w1 (some ⟨b3, 0, none⟩) Pt.v [⟨pn, cn, nonce⟩, ⟨pb, cb, bound⟩, ⟨some ⟨bs, os, none⟩, m, B⟩] := fun L w1 b3 h1 h2 => RdSl.ofMem (junk := []) h1 h2 (by simp [fl, Pt.v, hBl])
  have hsub : (((m + 32 : Nat) : Int) - 32) = (m : Int) := by omega
  have heq : ∀ L w1 b13, Hp w [] L w1 → (b13, Obj.cells ⟨u8s D⟩ 123 (0, 0)) ∈ L → CallW Tryz.prog 80 [.slice (some ⟨b13, 0, none⟩) 32 32, .slice (some ⟨bs, os + (m : Int).toNat * 1, none⟩) (((m + 32 : Nat) : Int).toNat - (m : Int).toNat) ((cap : Int).toNat - (m : Int).toNat)] w1 fun v _ => v = .bool (decide (D = TG)) := fun L w1 b13 h1 h2 => mequal_ok _ _ 32 _ 32 _ D TG hDl.symm (by rw [hTl, Int.toNat_natCast, Int.toNat_natCast]; omega) (by decide) hDb hTb w1 (RdSl.ofMem (junk := []) h1 h2 (by rw [fl_u8, List.append_nil])) (hsuf.chg' h1.chg (fun _ => Off.nil _))
  refine enterK (tb := tb) Tryz.func51 rfl Tryz.ntmps51 rfl ?_
  repeat' (first | (apply R.is1; first | (apply R.isBin; (apply R.pure; exact rfl; first | (apply Ok1.sub64; exact rfl; exact rfl; omega; omega) | (apply Ok1.lss_f; exact rfl; exact rfl; omega) | (apply Ok1.gtr_f; exact rfl; exact rfl; omega) | (apply Ok1.neq_f; exact rfl; exact rfl; omega))) | (apply R.isCall; first | apply R.callP rfl rfl rfl hck | (apply R.pure; exact rfl; (apply Ok1.lenS; (iterate 3 exact rfl)))) | (apply R.pure; exact rfl; first | (apply Ok1.move; exact rfl) | (apply Ok1.assign; exact rfl) | (apply Ok1.sliceTo; (iterate 6 exact rfl); omega; omega; omega; (exact Or.inr (fun e => by cases e)))) | (apply R.buildSlice; (iterate 12 exact rfl); intro)) | apply R.nil | (apply T.is; first | apply T.seq | apply T.region | apply T.block | apply T.skip | (apply T.cond_f; exact rfl)))
  rename_i b3
  rw [hsub]
  simp only [Int.toNat_natCast]
  repeat' (first | (apply R.is1; first | (apply R.isCall; (apply R.callW (vs := [.pointer (some ⟨bk, 0, none⟩), .slice (some ⟨b3, 0, none⟩) 3 3]); (iterate 3 exact rfl); intro w1 hw1; exact htg b3 w1 hw1.chg (hp3 _ w1 b3 hw1 List.mem_cons_self); rintro v rfl)) | (apply R.alloc; (iterate 3 exact rfl); intro)) | (apply R.is0; (apply R.store; (iterate 4 exact rfl); exact hls; exact u8s_one D; exact Upd.head; exact hset _ rfl)) | apply R.nil | (apply T.is; apply T.seq))
  rename_i b13
  by_cases hD : D = TG
  · rw [if_pos hD] at he
    rw [he, if_pos rfl] at hN
    simp only [decide_eq_true hD] at heq
    rw [hN, he, hTul]
    repeat' (first | (apply R.is1; first | (apply R.isBin; (apply R.pure; exact rfl; (apply Ok1.neq_f; exact rfl; exact rfl; omega))) | (apply R.isCall; first | (apply R.callE (vs := [.pointer (some ⟨bk, 0, none⟩), .slice pn nonce.length cn, .int .i64 m]); (iterate 3 exact rfl); exact Ext.none _; intro w1 hw1; exact hstr w1 hw1.chg; rintro v Lo ⟨ovs, W, hovs, hnW, hWt, rfl, rfl⟩) | (apply R.callE (vs := [.slice (some ⟨bs, os, none⟩) m m, .slice (ovp ovs) m m]); (iterate 3 exact rfl); exact Ext.none _; intro w1 hw1; exact htu _ _ w1 hw1.chg (hWt ▸ (rdown hovs hw1 (Ext.mem (by (focus ((repeat' (exact Ext.here _ _)); done))))).pre u8V_len m); rintro v Lo ⟨ovt, hovt, rfl, rfl⟩)) | (apply R.pure; exact rfl; first | (apply Ok1.move; exact rfl) | (apply Ok1.assign; exact rfl) | (apply Ok1.extract; exact rfl; exact rfl))) | apply R.nil | (apply T.is; first | (apply T.drawC (id := 11) [0] (by decide); ((apply A.take 0; exact rfl; exact rfl; kernel_rfl; kernel_rfl; kernel_rfl; (apply Ok1.sliceArr; (iterate 4 exact rfl))) <;> (apply A.take 1; exact rfl; exact rfl; kernel_rfl; kernel_rfl; kernel_rfl; (apply Ok1.move; exact rfl)) <;> (apply A.take 2; exact rfl; exact rfl; kernel_rfl; kernel_rfl; kernel_rfl; (apply Ok1.move; exact rfl)) <;> (apply A.take 3; exact rfl; exact rfl; kernel_rfl; kernel_rfl; kernel_rfl; (apply Ok1.sliceFrom (l := (m : Int)) (h := ((m + 32 : Nat) : Int)) (m := (cap : Int)); (iterate 7 exact rfl); omega; omega; omega; omega; omega; exact .inl rfl)) <;> (apply A.one 4; kernel_rfl; exact rfl; (((apply R.callW (vs := [.slice (some ⟨b13, 0, none⟩) 32 32, .slice (some ⟨bs, os + (m : Int).toNat * 1, none⟩) (((m + 32 : Nat) : Int).toNat - (m : Int).toNat) ((cap : Int).toNat - (m : Int).toNat)]); (iterate 3 exact rfl); intro w1 hw1; exact heq _ w1 b13 hw1 (by simp); rintro v rfl))); apply R.nil; refine ⟨?_, ?_⟩; (focus ((repeat' (first | exact trivial | (refine ⟨?_, ?_⟩; exact At.head)))))) <;> (apply A.take 5; exact rfl; exact rfl; kernel_rfl; kernel_rfl; kernel_rfl; (apply Ok1.not_t; exact rfl)) <;> (apply A.done; kernel_rfl))) | apply T.seq | apply T.region | apply T.skip | apply T.ret | (apply T.cond_f; exact rfl)))
    (apply RetOk.tt; exact rfl; exact rfl)
    exact ⟨_, by (focus ((repeat' (first | exact Ext.here _ _ | apply Keep.last)); done)), ovt, hovt, rfl, rfl⟩
  · rw [if_neg hD] at he
    rw [he, if_neg (by decide)] at hN
    simp only [decide_eq_false hD] at heq
    rw [hN, he]
    repeat' (first | (apply R.is1; (apply R.pure; exact rfl; (apply Ok1.assign; exact rfl))) | apply R.nil | (apply T.is; first | (apply T.drawC (id := 11) [0] (by decide); ((apply A.take 0; exact rfl; exact rfl; kernel_rfl; kernel_rfl; kernel_rfl; (apply Ok1.sliceArr; (iterate 4 exact rfl))) <;> (apply A.take 1; exact rfl; exact rfl; kernel_rfl; kernel_rfl; kernel_rfl; (apply Ok1.move; exact rfl)) <;> (apply A.take 2; exact rfl; exact rfl; kernel_rfl; kernel_rfl; kernel_rfl; (apply Ok1.move; exact rfl)) <;> (apply A.take 3; exact rfl; exact rfl; kernel_rfl; kernel_rfl; kernel_rfl; (apply Ok1.sliceFrom (l := (m : Int)) (h := ((m + 32 : Nat) : Int)) (m := (cap : Int)); (iterate 7 exact rfl); omega; omega; omega; omega; omega; exact .inl rfl)) <;> (apply A.one 4; kernel_rfl; exact rfl; (((apply R.callW (vs := [.slice (some ⟨b13, 0, none⟩) 32 32, .slice (some ⟨bs, os + (m : Int).toNat * 1, none⟩) (((m + 32 : Nat) : Int).toNat - (m : Int).toNat) ((cap : Int).toNat - (m : Int).toNat)]); (iterate 3 exact rfl); intro w1 hw1; exact heq _ w1 b13 hw1 (by simp); rintro v rfl))); apply R.nil; refine ⟨?_, ?_⟩; (focus ((repeat' (first | exact trivial | (refine ⟨?_, ?_⟩; exact At.head)))))) <;> (apply A.take 5; exact rfl; exact rfl; kernel_rfl; kernel_rfl; kernel_rfl; (apply Ok1.not_f; exact rfl)) <;> (apply A.done; kernel_rfl))) | apply T.seq | apply T.region | apply T.ret | (apply T.cond_t; exact rfl)))
    (apply RetOk.tt; exact rfl; exact rfl)
    exact ⟨[], by (focus ((repeat' (exact Keep.nil _)); done)), none, OvOk.start 1, rfl, rfl⟩
end Go.Proofs.YtligngjcnlbgmaaGreat
set_option linter.unusedSimpArgs false
set_option linter.unusedVariables false
namespace Go.Proofs.YtligngjcnlbgmaaGreat
open Go.RowKit Go.Shelf
set_option maxRecDepth 100000
theorem num_byt9 (s : Nat) (n : Int) : Byt (numI s n) := by
  unfold numI
  split
  · intro y hy; rw [List.mem_singleton.1 hy]; omega
  · intro y hy; simp only [List.mem_cons, List.not_mem_nil, or_false] at hy; rcases hy with rfl | rfl <;> omega
  · exact len4_byt n
def HRt (o r v : Int) : Prop := 1 ≤ o ∧ o ≤ 65535 ∧ 0 ≤ r ∧ r < 8 ∧ 1 ≤ v ∧ v ≤ 2147483647
instance (o r v : Int) : Decidable (HRt o r v) := by unfold HRt; infer_instance
def headI (o r v : Int) : List Int := (([] ++ numI 1 o) ++ numI 0 r) ++ numI 2 v
theorem headI_len (o r v : Int) : (headI o r v).length = 7 := rfl
theorem headI_byt (o r v : Int) : Byt (headI o r v) := by
  intro y hy
  simp only [headI, List.nil_append, List.append_assoc, List.mem_append] at hy
  rcases hy with h | h | h <;> exact num_byt9 _ _ y h
theorem head_bad (o r v : Int) (h : ¬ HRt o r v) : CallP Tryz.prog 46 [.int .i64 o, .int .i64 r, .int .i64 v] (.tuple #[.slice none 0 0, .bool false]) := by
  unfold HRt at h
  refine enterP (tb := tb) Tryz.func46 rfl Tryz.ntmps46 rfl fun w => ?_
  by_cases h1 : o < 1
  · repeat' (first | (apply R.is1; first | (apply R.isBin; (apply R.pure; exact rfl; (apply Ok1.lss_t; exact rfl; exact rfl; omega))) | (apply R.pure; exact rfl; first | (apply Ok1.move; exact rfl) | (apply Ok1.assign; exact rfl) | (apply Ok1.pick_t; exact rfl; exact rfl))) | (apply R.isG; (apply R.guard_not; (iterate 3 exact rfl))) | apply R.nil | (apply T.is; first | apply T.seq | apply T.region | apply T.ret | (apply T.cond_t; exact rfl)))
    (apply RetOk.tt; exact rfl; exact rfl)
    rfl
  by_cases h2 : 65535 < o
  · repeat' (first | (apply R.is1; first | (apply R.isBin; (apply R.pure; exact rfl; first | (apply Ok1.lss_f; exact rfl; exact rfl; omega) | (apply Ok1.gtr_t; exact rfl; exact rfl; omega))) | (apply R.pure; exact rfl; first | (apply Ok1.move; exact rfl) | (apply Ok1.assign; exact rfl) | (apply Ok1.pick_t; exact rfl; exact rfl) | (apply Ok1.pick_f; exact rfl; exact rfl))) | (apply R.isG; first | (apply R.guard_run; exact rfl; exact rfl) | (apply R.guard_not; (iterate 3 exact rfl))) | apply R.nil | (apply T.is; first | apply T.seq | apply T.region | apply T.ret | (apply T.cond_t; exact rfl)))
    (apply RetOk.tt; exact rfl; exact rfl)
    rfl
  by_cases h3 : r < 0
  · repeat' (first | (apply R.is1; first | (apply R.isBin; (apply R.pure; exact rfl; first | (apply Ok1.lss_t; exact rfl; exact rfl; omega) | (apply Ok1.lss_f; exact rfl; exact rfl; omega) | (apply Ok1.gtr_f; exact rfl; exact rfl; omega))) | (apply R.pure; exact rfl; first | (apply Ok1.move; exact rfl) | (apply Ok1.assign; exact rfl) | (apply Ok1.pick_t; exact rfl; exact rfl) | (apply Ok1.pick_f; exact rfl; exact rfl))) | (apply R.isG; first | (apply R.guard_run; exact rfl; exact rfl) | (apply R.guard_not; (iterate 3 exact rfl))) | apply R.nil | (apply T.is; first | apply T.seq | apply T.region | apply T.ret | (apply T.cond_t; exact rfl)))
    (apply RetOk.tt; exact rfl; exact rfl)
    rfl
  by_cases h4 : 8 ≤ r
  · repeat' (first | (apply R.is1; first | (apply R.isBin; (apply R.pure; exact rfl; first | (apply Ok1.lss_f; exact rfl; exact rfl; omega) | (apply Ok1.gtr_f; exact rfl; exact rfl; omega) | (apply Ok1.geq_t; exact rfl; exact rfl; omega))) | (apply R.pure; exact rfl; first | (apply Ok1.move; exact rfl) | (apply Ok1.assign; exact rfl) | (apply Ok1.pick_t; exact rfl; exact rfl) | (apply Ok1.pick_f; exact rfl; exact rfl))) | (apply R.isG; first | (apply R.guard_run; exact rfl; exact rfl) | (apply R.guard_not; (iterate 3 exact rfl))) | apply R.nil | (apply T.is; first | apply T.seq | apply T.region | apply T.ret | (apply T.cond_t; exact rfl)))
    (apply RetOk.tt; exact rfl; exact rfl)
    rfl
  by_cases h5 : v < 1
  · repeat' (first | (apply R.is1; first | (apply R.isBin; (apply R.pure; exact rfl; first | (apply Ok1.lss_t; exact rfl; exact rfl; omega) | (apply Ok1.lss_f; exact rfl; exact rfl; omega) | (apply Ok1.gtr_f; exact rfl; exact rfl; omega) | (apply Ok1.geq_f; exact rfl; exact rfl; omega))) | (apply R.pure; exact rfl; first | (apply Ok1.move; exact rfl) | (apply Ok1.assign; exact rfl) | (apply Ok1.pick_t; exact rfl; exact rfl) | (apply Ok1.pick_f; exact rfl; exact rfl))) | (apply R.isG; first | (apply R.guard_run; exact rfl; exact rfl) | (apply R.guard_not; (iterate 3 exact rfl))) | apply R.nil | (apply T.is; first | apply T.seq | apply T.region | apply T.ret | (apply T.cond_t; exact rfl)))
    (apply RetOk.tt; exact rfl; exact rfl)
    rfl
  have h6 : 2147483647 < v := by omega
  repeat' (first | (apply R.is1; first | (apply R.isBin; (apply R.pure; exact rfl; first | (apply Ok1.lss_f; exact rfl; exact rfl; omega) | (apply Ok1.gtr_t; exact rfl; exact rfl; omega) | (apply Ok1.gtr_f; exact rfl; exact rfl; omega) | (apply Ok1.geq_f; exact rfl; exact rfl; omega))) | (apply R.pure; exact rfl; first | (apply Ok1.move; exact rfl) | (apply Ok1.assign; exact rfl) | (apply Ok1.pick_f; exact rfl; exact rfl))) | (apply R.isG; (apply R.guard_run; exact rfl; exact rfl)) | apply R.nil | (apply T.is; first | apply T.seq | apply T.region | apply T.ret | (apply T.cond_t; exact rfl)))
  (apply RetOk.tt; exact rfl; exact rfl)
  rfl
theorem head_ok (o r v : Int) (h : HRt o r v) (w : World) : CallM Tryz.prog 46 [.int .i64 o, .int .i64 r, .int .i64 v] [] w fun x L => ∃ ov, OvOk 1 ov 7 (u8s (headI o r v)) ∧ x = .tuple #[slV ov 7, .bool true] ∧ L = blkL 5 ov (u8s (headI o r v)) := by
  unfold HRt at h
  have hf1 : Fits 1 o := by unfold Fits; omega
  have hf2 : Fits 0 r := by unfold Fits; omega
  have hf3 : Fits 2 v := by unfold Fits; omega
  obtain ⟨B1, hB1⟩ : ∃ B, B = [] ++ numI 1 o := ⟨_, rfl⟩
  obtain ⟨B2, hB2⟩ : ∃ B, B = B1 ++ numI 0 r := ⟨_, rfl⟩
  obtain ⟨B3, hB3⟩ : ∃ B, B = B2 ++ numI 2 v := ⟨_, rfl⟩
  have hB : B3 = headI o r v := by rw [hB3, hB2, hB1]; rfl
  have hl1 : B1.length ≤ 1000 := by rw [hB1]; exact Nat.le_of_ble_eq_true rfl
  have hl2 : B2.length ≤ 1000 := by rw [hB2, hB1]; exact Nat.le_of_ble_eq_true rfl
  have hl3 : B3.length = 7 := by rw [hB, headI_len]
  have hn1 := fun bw bl fz e w1 => number1_ok bw none [] (OvOk.start 1) 1 o hf1 (by decide) bl fz e w1
  have hn2 := fun bw ov hov bl fz e w1 => number1_ok bw ov B1 hov 0 r hf2 hl1 bl fz e w1
  have hn3 := fun bw ov hov bl fz e w1 => number1_ok bw ov B2 hov 2 v hf3 hl2 bl fz e w1
  rw [← hB1] at hn1
  rw [← hB2] at hn2
  rw [← hB3] at hn3
  rw [← hB]
  refine enterK (tb := tb) Tryz.func46 rfl Tryz.ntmps46 rfl ?_
  repeat' (first | (apply R.is1; first | (apply R.isBin; (apply R.pure; exact rfl; first | (apply Ok1.lss_f; exact rfl; exact rfl; omega) | (apply Ok1.gtr_f; exact rfl; exact rfl; omega) | (apply Ok1.geq_f; exact rfl; exact rfl; omega))) | (apply R.pure; exact rfl; first | (apply Ok1.move; exact rfl) | (apply Ok1.assign; exact rfl) | (apply Ok1.pick_f; exact rfl; exact rfl)) | (apply R.alloc; (iterate 3 exact rfl); intro) | (apply R.buildSlice; (iterate 12 exact rfl); intro)) | (apply R.isG; (apply R.guard_run; exact rfl; exact rfl)) | apply R.nil | (apply T.is; first | apply T.seq | apply T.region | apply T.skip | (apply T.cond_f; exact rfl)))
  rename_i bw bl
  repeat' ((apply R.is1; first | (apply R.isCall; (apply R.callE (Li := [(bw, .cells ⟨[.slice none 0 0, .int .i64 0]⟩ 151 (0, 0))]) (vs := [.pointer (some ⟨bw, 0, none⟩), .int .i64 1, .slice (some ⟨bl, 0, none⟩) 1 1]); (iterate 3 exact rfl); (focus ((repeat' (first | exact Ext.one _ _ | apply Ext.cons)); done)); intro w1 hw1; exact hn1 bw bl _ _ w1 (hw1.get _ _ List.mem_cons_self) (RdSl.off hw1 (by (focus ((repeat' (first | exact Ext.one _ _ | apply Ext.cons)); done))) List.mem_cons_self); rintro x Lo ⟨ov1, rfl, hov1, rfl⟩)) | (apply R.pure; exact rfl; (apply Ok1.move; exact rfl)) | (apply R.buildSlice; (iterate 12 exact rfl); intro)))
  rename_i bl2
  have h2 := fun bl fz e w1 => hn2 bw ov1 hov1 bl fz e w1
  generalize WL bw ov1 B1 = W1 at h2 ⊢
  repeat' ((apply R.is1; first | (apply R.isCall; (apply R.callE (Li := W1) (vs := [.pointer (some ⟨bw, 0, none⟩), .int .i64 0, .slice (some ⟨bl2, 0, none⟩) 1 1]); (iterate 3 exact rfl); (focus ((repeat' (first | exact Ext.here _ _ | apply Ext.cons)); done)); intro w1 hw1; exact h2 bl2 _ _ w1 (hw1.get _ _ List.mem_cons_self) (RdSl.off hw1 (by (focus ((repeat' (first | exact Ext.here _ _ | apply Ext.cons)); done))) List.mem_cons_self); rintro x Lo ⟨ov2, rfl, hov2, rfl⟩)) | (apply R.pure; exact rfl; (apply Ok1.move; exact rfl)) | (apply R.buildSlice; (iterate 12 exact rfl); intro)))
  rename_i bl3
  have h3 := fun bl fz e w1 => hn3 bw ov2 hov2 bl fz e w1
  generalize WL bw ov2 B2 = W2 at h3 ⊢
  repeat' ((apply R.is1; (apply R.isCall; (apply R.callE (Li := W2) (vs := [.pointer (some ⟨bw, 0, none⟩), .int .i64 2, .slice (some ⟨bl3, 0, none⟩) 1 1]); (iterate 3 exact rfl); (focus ((repeat' (first | exact Ext.here _ _ | apply Ext.cons)); done)); intro w1 hw1; exact h3 bl3 _ _ w1 (hw1.get _ _ List.mem_cons_self) (RdSl.off hw1 (by (focus ((repeat' (first | exact Ext.here _ _ | apply Ext.cons)); done))) List.mem_cons_self); rintro x Lo ⟨ov3, rfl, hov3, rfl⟩))))
  have h4 : ∀ L w1, Hp w [] L w1 → (∀ z ∈ WL bw ov3 B3, z ∈ L) → CallM Tryz.prog 71 [.pointer (some ⟨bw, 0, none⟩)] [] w1 fun v L => ∃ ov', OvOk 1 ov' B3.length (u8s B3) ∧ v = .tuple #[slV ov' B3.length, .int .i64 0] ∧ L = blkL 5 ov' (u8s B3) := fun L w1 h1 h2 => wout_ok bw ov3 B3 hov3 (by rw [hl3]; decide) w1 (h1.get _ _ (h2 _ List.mem_cons_self)) (rdown hov3 h1 fun z hz => h2 z (List.mem_cons_of_mem _ hz))
  generalize WL bw ov3 B3 = W3 at h4 ⊢
  rw [hl3] at h4
  repeat' (first | (apply R.is1; first | (apply R.isCall; (apply R.callE (vs := [.pointer (some ⟨bw, 0, none⟩)]); (iterate 3 exact rfl); exact Ext.none _; intro w1 hw1; exact h4 _ w1 hw1 (Ext.mem (by (focus ((repeat' (exact Ext.here _ _)); done)))); rintro x Lo ⟨ov9, hov9, rfl, rfl⟩)) | (apply R.pure; exact rfl; first | (apply Ok1.move; exact rfl) | (apply Ok1.assign; exact rfl) | (apply Ok1.extract; exact rfl; exact rfl))) | apply R.nil | (apply T.is; first | apply T.seq | apply T.region | apply T.ret))
  (apply RetOk.tt; exact rfl; exact rfl)
  exact ⟨_, by (focus ((repeat' (first | exact Ext.here _ _ | apply Keep.last)); done)), ov9, hov9, rfl, rfl⟩
def ntC (o r v : Int) (p : Option Addr) (n cap : Nat) : List Value := [.int .i64 o, .int .i64 r, .int .i64 v, .slice p n cap]
end Go.Proofs.YtligngjcnlbgmaaGreat
set_option linter.unusedSimpArgs false
set_option linter.unusedVariables false
namespace Go.Proofs.YtligngjcnlbgmaaGreat
open Go.ChangeShapes Go.WideShapes Go.ChangeAt Go.RowKit
theorem ownY : ownKnob Tryz.prog.godebug = none := by kernel_rfl
theorem laidY : laidOutB Tryz.prog = true := by kernel_rfl
section
variable {H : Type} {enc : TypeId × Value → H} {P : Program} {w : World} {base : Nat} {spare : Nat → Bool} {held : Bool}
theorem Opens.argStY {t : TypeId} {r : TRow} {fs : List (Nat × Nat × Nat)} {Q : List Value → Prop} (tb : Tb P) (ht : tb.row t = some r) (hk : r.k = .strct fs) (hE : Opens enc P w base spare held t Q) {v : Value} {d : DataW H} {p : List MemPlace} {rc : Reach} {b0 : Nat} (hv : Value.okWide P w rc b0 t v) (h : DataW.Trod enc P w base spare held t v d p) : ∃ cs, v = .agg ⟨cs⟩ ∧ Q cs := by
  have his := (tb.get ht).is
  rw [hk] at his
  obtain ⟨fields, h1, _⟩ := his
  obtain ⟨cs, rfl, _⟩ := okWide_struct h1 hv
  exact ⟨cs.toList, rfl, hE.arg h⟩
end
theorem int1_dec {cs : List Value} (h : allW [.int .i64] cs) : ∃ a : Int, cs = [.int .i64 a] := by
  match cs, h with
  | [.int k1 a], h =>
    obtain ⟨⟨rfl, _⟩, _⟩ := h
    exact ⟨a, rfl⟩
end Go.Proofs.YtligngjcnlbgmaaGreat
set_option linter.unusedSimpArgs false
set_option linter.unusedVariables false
namespace Go.Proofs.YtligngjcnlbgmaaGreat
open Go.RowKit Go.Shelf
set_option maxRecDepth 100000
theorem nseal_nil (o r v : Int) (p : Option Addr) (n cap : Nat) (w : World) : CallM Tryz.prog 10 [.pointer none, .agg ⟨ntC o r v p n cap⟩] [] w fun x L => x = .tuple #[.agg ⟨ntC 0 0 0 none 0 0⟩, .int .i64 1] ∧ L = [] := by
  by_cases h : HRt o r v
  · have hh := fun w1 => head_ok o r v h w1
    refine enterK (tb := tb) Tryz.func10 rfl Tryz.ntmps10 rfl ?_
    simp only [ntC]
    repeat' (first | (apply R.is1; first | (apply R.isBin; (apply R.pure; exact rfl; (apply Ok1.eqlP; (iterate 5 exact rfl)))) | (apply R.isCall; (apply R.callE (vs := [.int .i64 o, .int .i64 r, .int .i64 v]); (iterate 3 exact rfl); exact Ext.none _; intro w1 hw1; exact hh w1; rintro x Lo ⟨ov7, hov7, rfl, rfl⟩; rw [slV_eq hov7])) | (apply R.pure; exact rfl; first | (apply Ok1.move; exact rfl) | (apply Ok1.fieldAddr; (iterate 5 exact rfl)) | (apply Ok1.load; exact rfl; (apply Ld.own1; exact rfl; exact rfl; (focus ((repeat' (first | exact At.head | apply At.tail)); done)); exact rfl)) | (apply Ok1.assign; exact rfl) | (apply Ok1.build; (iterate 5 exact rfl)) | (apply Ok1.extract; exact rfl; exact rfl)) | (apply R.box; (iterate 3 exact rfl); intro) | (apply R.alloc; (iterate 3 exact rfl); intro)) | (apply R.is0; (apply R.store; (iterate 6 exact rfl); (focus ((repeat' (first | exact Upd.head | apply Upd.right)); done)); exact rfl)) | apply R.nil | (apply T.is; first | apply T.seq | apply T.region | apply T.block | apply T.ret | (apply T.cond_t; exact rfl)))
    (apply RetOk.ct; exact rfl; ((apply Ld.ownk; exact rfl; exact rfl; (focus ((repeat' (first | exact At.head | apply At.right)); done)); exact rfl)); exact rfl)
    exact ⟨[], by (focus ((repeat' (exact Keep.nil _)); done)), rfl, rfl⟩
  · have hb := head_bad o r v h
    refine enterK (tb := tb) Tryz.func10 rfl Tryz.ntmps10 rfl ?_
    simp only [ntC]
    repeat' (first | (apply R.is1; first | (apply R.isBin; (apply R.pure; exact rfl; (apply Ok1.eqlP; (iterate 5 exact rfl)))) | (apply R.isCall; apply R.callP rfl rfl rfl hb) | (apply R.pure; exact rfl; first | (apply Ok1.move; exact rfl) | (apply Ok1.fieldAddr; (iterate 5 exact rfl)) | (apply Ok1.load; exact rfl; (apply Ld.own1; exact rfl; exact rfl; (focus ((repeat' (first | exact At.head | apply At.tail)); done)); exact rfl)) | (apply Ok1.assign; exact rfl) | (apply Ok1.build; (iterate 5 exact rfl)) | (apply Ok1.extract; exact rfl; exact rfl)) | (apply R.box; (iterate 3 exact rfl); intro) | (apply R.alloc; (iterate 3 exact rfl); intro)) | (apply R.is0; (apply R.store; (iterate 6 exact rfl); exact Upd.head; exact rfl)) | apply R.nil | (apply T.is; first | apply T.seq | apply T.region | apply T.block | apply T.ret | (apply T.cond_t; exact rfl)))
    (apply RetOk.ct; exact rfl; ((apply Ld.ownk; exact rfl; exact rfl; exact At.head; exact rfl)); exact rfl)
    exact ⟨[], by (focus ((repeat' (exact Keep.nil _)); done)), rfl, rfl⟩
def nsE (o r v : Int) (n : Nat) : Int := if ¬ HRt o r v then 10 else if 64 < n then 2 else 0
theorem nseal_bad (bk : Nat) (o r v : Int) (p : Option Addr) (n cap : Nat) (hne : nsE o r v n ≠ 0) (w : World) : CallM Tryz.prog 10 [.pointer (some ⟨bk, 0, none⟩), .agg ⟨ntC o r v p n cap⟩] [] w fun x L => x = .tuple #[.agg ⟨ntC 0 0 0 none 0 0⟩, .int .i64 (nsE o r v n)] ∧ L = [] := by
  by_cases h : HRt o r v
  · have hh := fun w1 => head_ok o r v h w1
    have h64 : 64 < n := by
      unfold nsE at hne
      rw [if_neg (fun g => g h)] at hne
      by_cases g : 64 < n
      · exact g
      · rw [if_neg g] at hne; exact absurd rfl hne
    have he : nsE o r v n = 2 := by unfold nsE; rw [if_neg (fun g => g h), if_pos h64]
    rw [he]
    refine enterK (tb := tb) Tryz.func10 rfl Tryz.ntmps10 rfl ?_
    simp only [ntC]
    repeat' (first | (apply R.is1; first | (apply R.isBin; (apply R.pure; exact rfl; first | (apply Ok1.eqlP; (iterate 5 exact rfl)) | (apply Ok1.gtr_t; exact rfl; exact rfl; omega))) | (apply R.isCall; first | (apply R.callE (vs := [.int .i64 o, .int .i64 r, .int .i64 v]); (iterate 3 exact rfl); exact Ext.none _; intro w1 hw1; exact hh w1; rintro x Lo ⟨ov7, hov7, rfl, rfl⟩; rw [slV_eq hov7]) | (apply R.pure; exact rfl; (apply Ok1.lenS; (iterate 3 exact rfl)))) | (apply R.pure; exact rfl; first | (apply Ok1.move; exact rfl) | (apply Ok1.fieldAddr; (iterate 5 exact rfl)) | (apply Ok1.load; exact rfl; (apply Ld.own1; exact rfl; exact rfl; (focus ((repeat' (first | exact At.head | apply At.tail | apply At.right)); done)); exact rfl)) | (apply Ok1.assign; exact rfl) | (apply Ok1.build; (iterate 5 exact rfl)) | (apply Ok1.extract; exact rfl; exact rfl) | (apply Ok1.not_t; exact rfl)) | (apply R.box; (iterate 3 exact rfl); intro) | (apply R.alloc; (iterate 3 exact rfl); intro)) | (apply R.is0; (apply R.store; (iterate 6 exact rfl); (focus ((repeat' (first | exact Upd.head | apply Upd.right)); done)); exact rfl)) | apply R.nil | (apply T.is; first | apply T.seq | apply T.region | apply T.block | apply T.ret | (apply T.cond_t; exact rfl) | (apply T.cond_f; exact rfl)))
    (apply RetOk.ct; exact rfl; ((apply Ld.ownk; exact rfl; exact rfl; (focus ((repeat' (first | exact At.head | apply At.right)); done)); exact rfl)); exact rfl)
    exact ⟨[], by (focus ((repeat' (exact Keep.nil _)); done)), rfl, rfl⟩
  · have hb := head_bad o r v h
    have he : nsE o r v n = 10 := by unfold nsE; rw [if_pos h]
    rw [he]
    refine enterK (tb := tb) Tryz.func10 rfl Tryz.ntmps10 rfl ?_
    simp only [ntC]
    repeat' (first | (apply R.is1; first | (apply R.isBin; (apply R.pure; exact rfl; (apply Ok1.eqlP; (iterate 5 exact rfl)))) | (apply R.isCall; apply R.callP rfl rfl rfl hb) | (apply R.pure; exact rfl; first | (apply Ok1.move; exact rfl) | (apply Ok1.fieldAddr; (iterate 5 exact rfl)) | (apply Ok1.load; exact rfl; (apply Ld.own1; exact rfl; exact rfl; (focus ((repeat' (first | exact At.head | apply At.tail)); done)); exact rfl)) | (apply Ok1.assign; exact rfl) | (apply Ok1.build; (iterate 5 exact rfl)) | (apply Ok1.extract; exact rfl; exact rfl) | (apply Ok1.not_f; exact rfl)) | (apply R.box; (iterate 3 exact rfl); intro) | (apply R.alloc; (iterate 3 exact rfl); intro)) | (apply R.is0; (apply R.store; (iterate 6 exact rfl); exact Upd.head; exact rfl)) | apply R.nil | (apply T.is; first | apply T.seq | apply T.region | apply T.block | apply T.ret | (apply T.cond_t; exact rfl) | (apply T.cond_f; exact rfl)))
    (apply RetOk.ct; exact rfl; ((apply Ld.ownk; exact rfl; exact rfl; exact At.head; exact rfl)); exact rfl)
    exact ⟨[], by (focus ((repeat' (exact Keep.nil _)); done)), rfl, rfl⟩
/-- A note's bytes, sealed. -/
def nsI (k : List Int) (o r v : Int) (xs : List Int) : List Int := sealI k (headI o r v) (headI o r v) xs
theorem nseal_ok (bk : Nat) (k : List Int) (hkl : k.length ≤ 999999000) (hkb : Byt k) (o r v : Int) (p : Option Addr) (n cap : Nat) (xs : List Int) (hn : n = xs.length) (hby : Byt xs) (h : HRt o r v) (h64 : n ≤ 64) (w : World) (hk : KeyR w bk k) (hp : RdSl w p u8V xs) : CallM Tryz.prog 10 [.pointer (some ⟨bk, 0, none⟩), .agg ⟨ntC o r v p n cap⟩] [] w fun x L => ∃ ov, OvOk 1 ov (n + 32) (u8s (nsI k o r v xs)) ∧ x = .tuple #[.agg ⟨ntC o r v (ovp ov) (n + 32) (ovc ov (n + 32))⟩, .int .i64 0] ∧ L = blkL 5 ov (u8s (nsI k o r v xs)) := by
  have hh := fun w1 => head_ok o r v h w1
  have hhl := headI_len o r v
  have hhb := headI_byt o r v
  have hss : nsI k o r v xs = sealI k (headI o r v) (headI o r v) xs := rfl
  have hse := fun q c w1 (hc : Chg [] w w1) h1 => sseal_ok bk k hkl hkb q 7 c (headI o r v) hhl.symm (by decide) hhb q 7 c (headI o r v) hhl.symm (by decide) hhb p n cap xs hn (by omega) hby w1 (hk.chg hc) h1 h1 (hp.chg' hc (fun _ => Off.nil _))
  rw [← hss] at hse
  generalize nsI k o r v xs = SS at *
  generalize headI o r v = H at *
  refine enterK (tb := tb) Tryz.func10 rfl Tryz.ntmps10 rfl ?_
  simp only [ntC]
  repeat' (first | (apply R.is1; first | (apply R.isBin; (apply R.pure; exact rfl; first | (apply Ok1.eqlP; (iterate 5 exact rfl)) | (apply Ok1.gtr_f; exact rfl; exact rfl; omega))) | (apply R.isCall; first | (apply R.callE (vs := [.int .i64 o, .int .i64 r, .int .i64 v]); (iterate 3 exact rfl); exact Ext.none _; intro w1 hw1; exact hh w1; rintro x Lo ⟨ov7, hov7, rfl, rfl⟩; rw [slV_eq hov7]) | (apply R.callE (vs := [.pointer (some ⟨bk, 0, none⟩), .slice (ovp ov7) 7 (ovc ov7 7), .slice (ovp ov7) 7 (ovc ov7 7), .slice p n cap]); (iterate 3 exact rfl); exact Ext.none _; intro w1 hw1; exact hse _ _ w1 hw1.chg (rdown (by rw [hhl]; exact hov7) hw1 (Ext.mem (by (focus ((repeat' (exact Ext.here _ _)); done))))); rintro x Lo ⟨ov9, hov9, rfl, rfl⟩; rw [slV_eq hov9]) | (apply R.pure; exact rfl; (apply Ok1.lenS; (iterate 3 exact rfl)))) | (apply R.pure; exact rfl; first | (apply Ok1.move; exact rfl) | (apply Ok1.fieldAddr; (iterate 5 exact rfl)) | (apply Ok1.load; exact rfl; (apply Ld.own1; exact rfl; exact rfl; (focus ((repeat' (first | exact At.head | apply At.tail | apply At.right)); done)); exact rfl)) | (apply Ok1.assign; exact rfl) | (apply Ok1.build; (iterate 5 exact rfl)) | (apply Ok1.extract; exact rfl; exact rfl) | (apply Ok1.not_t; exact rfl)) | (apply R.box; (iterate 3 exact rfl); intro) | (apply R.alloc; (iterate 3 exact rfl); intro)) | (apply R.is0; (apply R.store; (iterate 6 exact rfl); (focus ((repeat' (first | exact Upd.head | apply Upd.right)); done)); exact rfl)) | apply R.nil | (apply T.is; first | apply T.seq | apply T.region | apply T.block | apply T.skip | apply T.ret | (apply T.cond_f; exact rfl)))
  (apply RetOk.ct; exact rfl; ((apply Ld.ownk; exact rfl; exact rfl; (focus ((repeat' (first | exact At.head | apply At.right)); done)); exact rfl)); exact rfl)
  exact ⟨_, by (focus ((repeat' (first | exact Ext.here _ _ | apply Keep.last)); done)), ov9, hov9, rfl, rfl⟩
theorem nopen_nil (o r v : Int) (p : Option Addr) (n cap : Nat) (w : World) : CallM Tryz.prog 13 [.pointer none, .agg ⟨ntC o r v p n cap⟩] [] w fun x L => x = .tuple #[.agg ⟨ntC 0 0 0 none 0 0⟩, .int .i64 1] ∧ L = [] := by
  by_cases h : HRt o r v
  · have hh := fun w1 => head_ok o r v h w1
    refine enterK (tb := tb) Tryz.func13 rfl Tryz.ntmps13 rfl ?_
    simp only [ntC]
    repeat' (first | (apply R.is1; first | (apply R.isBin; (apply R.pure; exact rfl; (apply Ok1.eqlP; (iterate 5 exact rfl)))) | (apply R.isCall; (apply R.callE (vs := [.int .i64 o, .int .i64 r, .int .i64 v]); (iterate 3 exact rfl); exact Ext.none _; intro w1 hw1; exact hh w1; rintro x Lo ⟨ov7, hov7, rfl, rfl⟩; rw [slV_eq hov7])) | (apply R.pure; exact rfl; first | (apply Ok1.move; exact rfl) | (apply Ok1.fieldAddr; (iterate 5 exact rfl)) | (apply Ok1.load; exact rfl; (apply Ld.own1; exact rfl; exact rfl; (focus ((repeat' (first | exact At.head | apply At.tail)); done)); exact rfl)) | (apply Ok1.assign; exact rfl) | (apply Ok1.build; (iterate 5 exact rfl)) | (apply Ok1.extract; exact rfl; exact rfl)) | (apply R.box; (iterate 3 exact rfl); intro) | (apply R.alloc; (iterate 3 exact rfl); intro)) | (apply R.is0; (apply R.store; (iterate 6 exact rfl); (focus ((repeat' (first | exact Upd.head | apply Upd.right)); done)); exact rfl)) | apply R.nil | (apply T.is; first | apply T.seq | apply T.region | apply T.block | apply T.ret | (apply T.cond_t; exact rfl)))
    (apply RetOk.ct; exact rfl; ((apply Ld.ownk; exact rfl; exact rfl; (focus ((repeat' (first | exact At.head | apply At.right)); done)); exact rfl)); exact rfl)
    exact ⟨[], by (focus ((repeat' (exact Keep.nil _)); done)), rfl, rfl⟩
  · have hb := head_bad o r v h
    refine enterK (tb := tb) Tryz.func13 rfl Tryz.ntmps13 rfl ?_
    simp only [ntC]
    repeat' (first | (apply R.is1; first | (apply R.isBin; (apply R.pure; exact rfl; (apply Ok1.eqlP; (iterate 5 exact rfl)))) | (apply R.isCall; apply R.callP rfl rfl rfl hb) | (apply R.pure; exact rfl; first | (apply Ok1.move; exact rfl) | (apply Ok1.fieldAddr; (iterate 5 exact rfl)) | (apply Ok1.load; exact rfl; (apply Ld.own1; exact rfl; exact rfl; (focus ((repeat' (first | exact At.head | apply At.tail)); done)); exact rfl)) | (apply Ok1.assign; exact rfl) | (apply Ok1.build; (iterate 5 exact rfl)) | (apply Ok1.extract; exact rfl; exact rfl)) | (apply R.box; (iterate 3 exact rfl); intro) | (apply R.alloc; (iterate 3 exact rfl); intro)) | (apply R.is0; (apply R.store; (iterate 6 exact rfl); exact Upd.head; exact rfl)) | apply R.nil | (apply T.is; first | apply T.seq | apply T.region | apply T.block | apply T.ret | (apply T.cond_t; exact rfl)))
    (apply RetOk.ct; exact rfl; ((apply Ld.ownk; exact rfl; exact rfl; exact At.head; exact rfl)); exact rfl)
    exact ⟨[], by (focus ((repeat' (exact Keep.nil _)); done)), rfl, rfl⟩
def noE (k : List Int) (o r v : Int) (s : List Int) : Int := if ¬ HRt o r v then 10 else if 96 < s.length then 2 else sopE k (headI o r v) (headI o r v) s
def noI (k : List Int) (o r v : Int) (s : List Int) : List Int := sopI k (headI o r v) s
theorem nopen_ok (bk : Nat) (k : List Int) (hkl : k.length ≤ 999999000) (hkb : Byt k) (o r v : Int) (p : Option Addr) (n cap : Nat) (s : List Int) (hn : n = s.length) (hcap : n ≤ cap) (hby : Byt s) (w : World) (hk : KeyR w bk k) (hp : RdSl w p u8V s) :
    CallM Tryz.prog 13 [.pointer (some ⟨bk, 0, none⟩), .agg ⟨ntC o r v p n cap⟩] [] w fun x L => if noE k o r v s = 0 then ∃ ov, OvOk 1 ov (noI k o r v s).length (u8s (noI k o r v s)) ∧ x = .tuple #[.agg ⟨ntC o r v (ovp ov) (noI k o r v s).length (ovc ov (noI k o r v s).length)⟩, .int .i64 0] ∧ L = blkL 5 ov (u8s (noI k o r v s)) else x = .tuple #[.agg ⟨ntC 0 0 0 none 0 0⟩, .int .i64 (noE k o r v s)] ∧ L = [] := by
  by_cases h : HRt o r v
  case neg =>
    have he : noE k o r v s = 10 := by unfold noE; rw [if_pos h]
    rw [he]
    have hz : ¬ (10 : Int) = 0 := by decide
    simp only [if_neg hz]
    have hb := head_bad o r v h
    refine enterK (tb := tb) Tryz.func13 rfl Tryz.ntmps13 rfl ?_
    simp only [ntC]
    repeat' (first | (apply R.is1; first | (apply R.isBin; (apply R.pure; exact rfl; (apply Ok1.eqlP; (iterate 5 exact rfl)))) | (apply R.isCall; apply R.callP rfl rfl rfl hb) | (apply R.pure; exact rfl; first | (apply Ok1.move; exact rfl) | (apply Ok1.fieldAddr; (iterate 5 exact rfl)) | (apply Ok1.load; exact rfl; (apply Ld.own1; exact rfl; exact rfl; (focus ((repeat' (first | exact At.head | apply At.tail)); done)); exact rfl)) | (apply Ok1.assign; exact rfl) | (apply Ok1.build; (iterate 5 exact rfl)) | (apply Ok1.extract; exact rfl; exact rfl) | (apply Ok1.not_f; exact rfl)) | (apply R.box; (iterate 3 exact rfl); intro) | (apply R.alloc; (iterate 3 exact rfl); intro)) | (apply R.is0; (apply R.store; (iterate 6 exact rfl); exact Upd.head; exact rfl)) | apply R.nil | (apply T.is; first | apply T.seq | apply T.region | apply T.block | apply T.ret | (apply T.cond_t; exact rfl) | (apply T.cond_f; exact rfl)))
    (apply RetOk.ct; exact rfl; ((apply Ld.ownk; exact rfl; exact rfl; exact At.head; exact rfl)); exact rfl)
    exact ⟨[], by (focus ((repeat' (exact Keep.nil _)); done)), rfl, rfl⟩
  have hh := fun w1 => head_ok o r v h w1
  by_cases h96 : 96 < n
  · have he : noE k o r v s = 2 := by unfold noE; rw [if_neg (fun g => g h), if_pos (by omega)]
    rw [he]
    have hz : ¬ (2 : Int) = 0 := by decide
    simp only [if_neg hz]
    refine enterK (tb := tb) Tryz.func13 rfl Tryz.ntmps13 rfl ?_
    simp only [ntC]
    repeat' (first | (apply R.is1; first | (apply R.isBin; (apply R.pure; exact rfl; first | (apply Ok1.eqlP; (iterate 5 exact rfl)) | (apply Ok1.gtr_t; exact rfl; exact rfl; omega))) | (apply R.isCall; first | (apply R.callE (vs := [.int .i64 o, .int .i64 r, .int .i64 v]); (iterate 3 exact rfl); exact Ext.none _; intro w1 hw1; exact hh w1; rintro x Lo ⟨ov7, hov7, rfl, rfl⟩; rw [slV_eq hov7]) | (apply R.pure; exact rfl; (apply Ok1.lenS; (iterate 3 exact rfl)))) | (apply R.pure; exact rfl; first | (apply Ok1.move; exact rfl) | (apply Ok1.fieldAddr; (iterate 5 exact rfl)) | (apply Ok1.load; exact rfl; (apply Ld.own1; exact rfl; exact rfl; (focus ((repeat' (first | exact At.head | apply At.tail | apply At.right)); done)); exact rfl)) | (apply Ok1.assign; exact rfl) | (apply Ok1.build; (iterate 5 exact rfl)) | (apply Ok1.extract; exact rfl; exact rfl) | (apply Ok1.not_t; exact rfl)) | (apply R.box; (iterate 3 exact rfl); intro) | (apply R.alloc; (iterate 3 exact rfl); intro)) | (apply R.is0; (apply R.store; (iterate 6 exact rfl); (focus ((repeat' (first | exact Upd.head | apply Upd.right)); done)); exact rfl)) | apply R.nil | (apply T.is; first | apply T.seq | apply T.region | apply T.block | apply T.ret | (apply T.cond_t; exact rfl) | (apply T.cond_f; exact rfl)))
    (apply RetOk.ct; exact rfl; ((apply Ld.ownk; exact rfl; exact rfl; (focus ((repeat' (first | exact At.head | apply At.right)); done)); exact rfl)); exact rfl)
    exact ⟨[], by (focus ((repeat' (exact Keep.nil _)); done)), rfl, rfl⟩
  have hhl := headI_len o r v
  have hhb := headI_byt o r v
  have he : noE k o r v s = sopE k (headI o r v) (headI o r v) s := by unfold noE; rw [if_neg (fun g => g h), if_neg (by omega)]
  have hi : noI k o r v s = sopI k (headI o r v) s := rfl
  have hop := fun q c w1 (hc : Chg [] w w1) h1 => sopen_ok bk k hkl hkb q 7 c (headI o r v) hhl.symm (by decide) hhb q 7 c (headI o r v) hhl.symm (by decide) hhb p n cap s hn hcap (by omega) hby w1 (hk.chg hc) h1 h1 (hp.chg' hc (fun _ => Off.nil _))
  have hN : sopN k (headI o r v) (headI o r v) s = if noE k o r v s = 0 then noI k o r v s else [] := by unfold sopN; rw [he, hi]
  rw [← he] at hop
  generalize sopN k (headI o r v) (headI o r v) s = N at *
  generalize noI k o r v s = I9 at *
  generalize noE k o r v s = E9 at *
  generalize headI o r v = H at *
  by_cases hE : E9 = 0
  · simp only [if_pos hE]
    rw [if_pos hE] at hN
    subst hN hE
    refine enterK (tb := tb) Tryz.func13 rfl Tryz.ntmps13 rfl ?_
    simp only [ntC]
    repeat' (first | (apply R.is1; first | (apply R.isBin; (apply R.pure; exact rfl; first | (apply Ok1.eqlP; (iterate 5 exact rfl)) | (apply Ok1.gtr_f; exact rfl; exact rfl; omega) | (apply Ok1.neq_f; exact rfl; exact rfl; omega))) | (apply R.isCall; first | (apply R.callE (vs := [.int .i64 o, .int .i64 r, .int .i64 v]); (iterate 3 exact rfl); exact Ext.none _; intro w1 hw1; exact hh w1; rintro x Lo ⟨ov7, hov7, rfl, rfl⟩; rw [slV_eq hov7]) | (apply R.callE (vs := [.pointer (some ⟨bk, 0, none⟩), .slice (ovp ov7) 7 (ovc ov7 7), .slice (ovp ov7) 7 (ovc ov7 7), .slice p n cap]); (iterate 3 exact rfl); exact Ext.none _; intro w1 hw1; exact hop _ _ w1 hw1.chg (rdown (by rw [hhl]; exact hov7) hw1 (Ext.mem (by (focus ((repeat' (exact Ext.here _ _)); done))))); rintro x Lo ⟨ov9, hov9, rfl, rfl⟩; rw [slV_eq hov9]) | (apply R.pure; exact rfl; (apply Ok1.lenS; (iterate 3 exact rfl)))) | (apply R.pure; exact rfl; first | (apply Ok1.move; exact rfl) | (apply Ok1.fieldAddr; (iterate 5 exact rfl)) | (apply Ok1.load; exact rfl; (apply Ld.own1; exact rfl; exact rfl; (focus ((repeat' (first | exact At.head | apply At.tail | apply At.right)); done)); exact rfl)) | (apply Ok1.assign; exact rfl) | (apply Ok1.build; (iterate 5 exact rfl)) | (apply Ok1.extract; exact rfl; exact rfl) | (apply Ok1.not_t; exact rfl)) | (apply R.box; (iterate 3 exact rfl); intro) | (apply R.alloc; (iterate 3 exact rfl); intro)) | (apply R.is0; (apply R.store; (iterate 6 exact rfl); (focus ((repeat' (first | exact Upd.head | apply Upd.right)); done)); exact rfl)) | apply R.nil | (apply T.is; first | apply T.seq | apply T.region | apply T.block | apply T.skip | apply T.ret | (apply T.cond_f; exact rfl)))
    (apply RetOk.ct; exact rfl; ((apply Ld.ownk; exact rfl; exact rfl; (focus ((repeat' (first | exact At.head | apply At.right)); done)); exact rfl)); exact rfl)
    exact ⟨_, by (focus ((repeat' (first | exact Ext.here _ _ | apply Keep.last)); done)), ov9, hov9, rfl, rfl⟩
  · simp only [if_neg hE]
    rw [if_neg hE] at hN
    subst hN
    refine enterK (tb := tb) Tryz.func13 rfl Tryz.ntmps13 rfl ?_
    simp only [ntC]
    repeat' (first | (apply R.is1; first | (apply R.isBin; (apply R.pure; exact rfl; first | (apply Ok1.eqlP; (iterate 5 exact rfl)) | (apply Ok1.gtr_f; exact rfl; exact rfl; omega) | (apply Ok1.neq_t; exact rfl; exact rfl; omega))) | (apply R.isCall; first | (apply R.callE (vs := [.int .i64 o, .int .i64 r, .int .i64 v]); (iterate 3 exact rfl); exact Ext.none _; intro w1 hw1; exact hh w1; rintro x Lo ⟨ov7, hov7, rfl, rfl⟩; rw [slV_eq hov7]) | (apply R.callE (vs := [.pointer (some ⟨bk, 0, none⟩), .slice (ovp ov7) 7 (ovc ov7 7), .slice (ovp ov7) 7 (ovc ov7 7), .slice p n cap]); (iterate 3 exact rfl); exact Ext.none _; intro w1 hw1; exact hop _ _ w1 hw1.chg (rdown (by rw [hhl]; exact hov7) hw1 (Ext.mem (by (focus ((repeat' (exact Ext.here _ _)); done))))); rintro x Lo ⟨ov9, hov9, rfl, rfl⟩; rw [slV_eq hov9]) | (apply R.pure; exact rfl; (apply Ok1.lenS; (iterate 3 exact rfl)))) | (apply R.pure; exact rfl; first | (apply Ok1.move; exact rfl) | (apply Ok1.fieldAddr; (iterate 5 exact rfl)) | (apply Ok1.load; exact rfl; (apply Ld.own1; exact rfl; exact rfl; (focus ((repeat' (first | exact At.head | apply At.tail | apply At.right)); done)); exact rfl)) | (apply Ok1.assign; exact rfl) | (apply Ok1.build; (iterate 5 exact rfl)) | (apply Ok1.extract; exact rfl; exact rfl) | (apply Ok1.not_t; exact rfl)) | (apply R.box; (iterate 3 exact rfl); intro) | (apply R.alloc; (iterate 3 exact rfl); intro)) | (apply R.is0; (apply R.store; (iterate 6 exact rfl); (focus ((repeat' (first | exact Upd.head | apply Upd.right)); done)); exact rfl)) | apply R.nil | (apply T.is; first | apply T.seq | apply T.region | apply T.block | apply T.skip | apply T.ret | (apply T.cond_t; exact rfl) | (apply T.cond_f; exact rfl)))
    (apply RetOk.ct; exact rfl; ((apply Ld.ownk; exact rfl; exact rfl; (focus ((repeat' (first | exact At.head | apply At.right)); done)); exact rfl)); exact rfl)
    exact ⟨[], by (focus ((repeat' (exact Keep.nil _)); done)), rfl, rfl⟩
end Go.Proofs.YtligngjcnlbgmaaGreat
set_option linter.unusedSimpArgs false
set_option linter.unusedVariables false
namespace Go.Proofs.YtligngjcnlbgmaaGreat
open Go.RowKit Go.Shelf
theorem KeyT.flatA {P : Program} (tb : Tb P) {t : Nat} {r : TRow} {ks : List TK} {κ : Type} (enc : κ → List Value) (ht : tb.row t = some r) {n e : Nat} (hk : r.k = .arr n e) (hf : flatE tb 8 t = some ks) (ho : ∀ k, allOk ks (enc k) = true) (hi : ∀ a b, enc a = enc b → a = b) :
    KeyT P t (fun k => .agg ⟨enc k⟩) := by
  refine ⟨fun w a b => ?_, fun w e9 a => ?_, fun a => ?_, ?_⟩
  · obtain ⟨b', r1, r2⟩ := Op_equal_flat tb ht (by rw [hk]; rfl) hf (ho a) (ho b) w
    exact ⟨b', r1, r2.trans ⟨hi a b, fun e => by rw [e]⟩⟩
  · obtain ⟨ag, a1, a2, a3⟩ := chkFlat tb e9 8 t ks hf
    have : ag = true := by
      have e1 := a1 w
      rw [(tb.get ht).agg (b := true) (by rw [hk]; rfl) w] at e1
      injection e1 with e1 _
      exact e1.symm
    subst this
    simpa [valOf] using a3 10000 (by omega) w _ (ho a)
  · have h := sameBits_flat (ho a)
    show (((Array.mk (enc a)).size == (Array.mk (enc a)).size) && ((Array.mk (enc a)).toList.zip (Array.mk (enc a)).toList).all fun (x, y) => Instr.sameBits 9999 x y) = true
    simp only [beq_self_eq_true, Bool.true_and]
    exact h
  · have his := (tb.get ht).is
    rw [hk] at his
    exact ⟨_, his, .inl fun a b => rfl⟩
/-- The blocks of the second list are taken out of the first, one by one. -/
def Rem9 : Lst → Lst → Lst → Prop
  | L, [], L2 => L = L2
  | L, x :: s, L2 => ∃ P Q, L = P ++ x :: Q ∧ Rem9 (P ++ Q) s L2
theorem Rem9.ext : ∀ (s L L2 : Lst), Rem9 L s L2 → Ext L s L2
  | [], L, L2, h => by
    have h' : L = L2 := h
    subst h'
    exact .none L
  | x :: s, L, L2, h => by
    obtain ⟨P, Q, rfl, h⟩ := h
    exact .two x (.app P (.one x Q)) (Rem9.ext s _ _ h)
theorem Rem9.cons (y : Nat × Obj) : ∀ (s L L2 : Lst), Rem9 L s L2 → Rem9 (y :: L) s (y :: L2)
  | [], L, L2, h => by
    have h' : L = L2 := h
    subst h'
    exact rfl
  | x :: s, L, L2, h => by
    obtain ⟨P, Q, rfl, h⟩ := h
    exact ⟨y :: P, Q, rfl, Rem9.cons y s _ _ h⟩
theorem Rem9.app (B : Lst) {s L L2 : Lst} (h : Rem9 L s L2) : Rem9 (B ++ L) s (B ++ L2) := by
  induction B with
  | nil => exact h
  | cons y B ih => exact Rem9.cons y _ _ _ ih
theorem Rem9.cat : ∀ (C L L1 s L2 : Lst), Rem9 L C L1 → Rem9 L1 s L2 → Rem9 L (C ++ s) L2
  | [], L, L1, s, L2, h, h2 => by
    have h' : L = L1 := h
    subst h'
    exact h2
  | x :: C, L, L1, s, L2, h, h2 => by
    obtain ⟨P, Q, rfl, h⟩ := h
    exact ⟨P, Q, rfl, Rem9.cat C _ _ _ _ h h2⟩
theorem Rem9.here : ∀ (C B : Lst), Rem9 (C ++ B) C B
  | [], B => rfl
  | x :: C, B => ⟨[], C ++ B, rfl, Rem9.here C B⟩
theorem Ext.rem9 {L s L1 : Lst} (h : Ext L s L1) : Rem9 L s L1 := by
  induction h with
  | none L => exact rfl
  | all L => have := Rem9.here L []; rwa [List.append_nil] at this
  | here C B => exact Rem9.here C B
  | one x L => exact ⟨[], L, rfl, rfl⟩
  | cons x _ ih => exact Rem9.cons x _ _ _ ih
  | app C _ ih => exact Rem9.app C ih
  | two x _ _ ih1 ih2 =>
    obtain ⟨P, Q, h1, h2⟩ := ih1
    have h2' : P ++ Q = _ := h2
    exact ⟨P, Q, h1, h2' ▸ ih2⟩
/-- A part that lies in two pieces. -/
theorem Ext.cat9 {L C L1 s L2 : Lst} (h1 : Ext L C L1) (h2 : Ext L1 s L2) : Ext L (C ++ s) L2 := Rem9.ext _ _ _ (Rem9.cat _ _ _ _ _ h1.rem9 h2.rem9)
end Go.Proofs.YtligngjcnlbgmaaGreat
set_option linter.unusedSimpArgs false
set_option linter.unusedVariables false
namespace Go.Proofs.YtligngjcnlbgmaaGreat
open Go.RowKit Go.Shelf
set_option maxRecDepth 100000
def kv2 (k : Int × Int) : Value := .agg ⟨[.int .i64 k.1, .int .i64 k.2]⟩
theorem kt2 : KeyT Tryz.prog 145 kv2 := KeyT.flatA tb (fun k : Int × Int => [.int .i64 k.1, .int .i64 k.2]) rfl rfl rfl (fun _ => rfl) fun a b h => by
  simp only [List.cons.injEq, Value.int.injEq, true_and, and_true] at h
  exact Prod.ext h.1 h.2
/-- An entry of a store. -/
structure SE where
  o : Int
  r : Int
  ver : Int
  bov : Ov
  body : List Int
  vov : Ov
  val : List Int
  op : Bool
def SE.v (e : SE) : List Value := [.int .i64 e.o, .int .i64 e.r, .int .i64 e.ver, slV e.bov e.body.length, slV e.vov e.val.length, .bool e.op]
def SE.L (e : SE) : Lst := blkL 5 e.bov (u8s e.body) ++ blkL 5 e.vov (u8s e.val)
def evS (e : SE) : Value := .agg ⟨[.int .i64 e.o, .int .i64 e.r, .int .i64 e.ver, slV e.bov e.body.length, slV e.vov e.val.length, .bool e.op]⟩
abbrev SMs := Ms (Int × Int) SE
def SX (ms : SMs) : Lst := ms.flatMap fun x => x.2.1.L
def SL (bs bm : Nat) (ms : SMs) (clk : Nat) : Lst := (bs, .cells ⟨[.map (some bm)]⟩ 139 (0, 0)) :: (bm, mobj kv2 evS ms clk) :: SX ms
theorem stnew_ok (w : World) : CallM Tryz.prog 32 [] [] w fun v L => ∃ bs bm, v = .pointer (some ⟨bs, 0, none⟩) ∧ L = SL bs bm [] 0 := by
  refine enterK (tb := tb) Tryz.func32 rfl Tryz.ntmps32 rfl ?_
  repeat' (first | (apply R.is1; first | (apply R.makeMap kv2 evS; exact rfl; intro bm) | (apply R.pure; exact rfl; first | (apply Ok1.assign; exact rfl) | (apply Ok1.build; (iterate 5 exact rfl))) | (apply R.box; (iterate 3 exact rfl); intro)) | apply R.nil | (apply T.is; first | apply T.seq | apply T.region | apply T.ret))
  (apply RetOk.t; exact rfl)
  exact ⟨_, by (focus ((repeat' (first | exact Keep.nil _ | exact Ext.one _ _ | apply Keep.cons)); done)), _, bm, rfl, rfl⟩
def verI (ms : SMs) (k : Int × Int) : Int := match mget k ms with | some e => e.ver | none => 0
theorem stver_ok (bs bm : Nat) (ms : SMs) (clk : Nat) (o r : Int) (w : World) : CallM Tryz.prog 40 [.pointer (some ⟨bs, 0, none⟩), .int .i64 o, .int .i64 r] (SL bs bm ms clk) w fun v L => v = .int .i64 (verI ms (o, r)) ∧ L = SL bs bm ms clk := by
  cases hm : mget (o, r) ms with
  | some e =>
    have hv : verI ms (o, r) = e.ver := by unfold verI; rw [hm]
    rw [hv]
    refine enterK (tb := tb) Tryz.func40 rfl Tryz.ntmps40 rfl ?_
    simp only [SL]
    generalize SX ms = X
    repeat' (first | (apply R.is1; first | (apply R.isBin; (apply R.pure; exact rfl; (apply Ok1.eqlP; (iterate 5 exact rfl)))) | (apply R.pure; exact rfl; first | (apply Ok1.lookup_some (kv := kv2) (vv := evS) (o, r) kt2; (iterate 6 exact rfl); (focus ((repeat' (first | exact At.head | apply At.tail)); done)); assumption; (exact (if_neg Bool.false_ne_true).symm)) | (apply Ok1.move; exact rfl) | (apply Ok1.fieldAddr; (iterate 5 exact rfl)) | (apply Ok1.load; exact rfl; (apply Ld.own1; exact rfl; exact rfl; exact At.head; exact rfl)) | (apply Ok1.assign; exact rfl) | (apply Ok1.nilCheck; exact rfl) | (apply Ok1.buildA; (iterate 6 exact rfl)) | (apply Ok1.field1; (iterate 7 exact rfl)) | (apply Ok1.fieldk; (iterate 7 exact rfl)))) | apply R.nil | (apply T.is; first | apply T.seq | apply T.region | apply T.skip | apply T.ret | (apply T.cond_f; exact rfl)))
    (apply RetOk.t; exact rfl)
    exact ⟨_, by (focus ((repeat' (first | exact Ext.one _ _ | exact Ext.all _ | apply Keep.cons | apply Keep.last)); done)), rfl, rfl⟩
  | none =>
    have hv : verI ms (o, r) = 0 := by unfold verI; rw [hm]
    rw [hv]
    refine enterK (tb := tb) Tryz.func40 rfl Tryz.ntmps40 rfl ?_
    simp only [SL]
    generalize SX ms = X
    repeat' (first | (apply R.is1; first | (apply R.isBin; (apply R.pure; exact rfl; (apply Ok1.eqlP; (iterate 5 exact rfl)))) | (apply R.pure; exact rfl; first | (apply Ok1.lookup_none (kv := kv2) (vv := evS) (o, r) kt2; (iterate 6 exact rfl); (focus ((repeat' (first | exact At.head | apply At.tail)); done)); assumption; (exact (if_neg Bool.false_ne_true).symm)) | (apply Ok1.move; exact rfl) | (apply Ok1.fieldAddr; (iterate 5 exact rfl)) | (apply Ok1.load; exact rfl; (apply Ld.own1; exact rfl; exact rfl; exact At.head; exact rfl)) | (apply Ok1.assign; exact rfl) | (apply Ok1.nilCheck; exact rfl) | (apply Ok1.buildA; (iterate 6 exact rfl)) | (apply Ok1.field1; (iterate 7 exact rfl)) | (apply Ok1.fieldk; (iterate 7 exact rfl)))) | apply R.nil | (apply T.is; first | apply T.seq | apply T.region | apply T.skip | apply T.ret | (apply T.cond_f; exact rfl)))
    (apply RetOk.t; exact rfl)
    exact ⟨_, by (focus ((repeat' (first | exact Ext.one _ _ | exact Ext.all _ | apply Keep.cons | apply Keep.last)); done)), rfl, rfl⟩
theorem SX_app (a b : SMs) : SX (a ++ b) = SX a ++ SX b := List.flatMap_append
theorem SX_cons (x : (Int × Int) × SE × Nat) (b : SMs) : SX (x :: b) = x.2.1.L ++ SX b := List.flatMap_cons
theorem mset_split9 {κ α : Type} [DecidableEq κ] {k : κ} {a e : α} : ∀ {ms : Ms κ α}, mget k ms = some a → ∃ A c B, ms = A ++ (k, a, c) :: B ∧ mset k e ms = A ++ (k, e, c) :: B
  | [], h => by simp [mget] at h
  | x :: r, h => by
    simp only [mget] at h
    simp only [mset]
    by_cases hx : x.1 = k
    · rw [if_pos hx] at h ⊢
      cases h
      exact ⟨[], x.2.2, r, by rw [← hx]; rfl, by simp [hx]⟩
    · rw [if_neg hx] at h ⊢
      obtain ⟨A, c, B, h1, h2⟩ := mset_split9 (e := e) h
      exact ⟨x :: A, c, B, by rw [h1]; rfl, by rw [h2]; rfl⟩
def putE (ms : SMs) (k : Int × Int) : Int := match mget k ms with | some _ => 0 | none => if ms.length = 64 then 6 else 0
def putM (ms : SMs) (clk : Nat) (k : Int × Int) (e : SE) : SMs × Nat := match mget k ms with | some _ => (mset k e ms, clk) | none => if ms.length = 64 then (ms, clk) else (ms ++ [(k, e, clk)], clk + 1)
theorem stput_ok (bs bm : Nat) (ms : SMs) (clk : Nat) (hver : ∀ k a, mget k ms = some a → a.ver ≠ 0) (e : SE) (w : World) : CallM Tryz.prog 65 [.pointer (some ⟨bs, 0, none⟩), evS e] (SL bs bm ms clk ++ e.L) w fun v L => v = .int .i64 (putE ms (e.o, e.r)) ∧ L = SL bs bm (putM ms clk (e.o, e.r) e).1 (putM ms clk (e.o, e.r) e).2 := by
  generalize hEL : e.L = EL
  cases hm : mget (e.o, e.r) ms with
  | some a =>
    have h1 : putE ms (e.o, e.r) = 0 := by unfold putE; rw [hm]
    have h2 : putM ms clk (e.o, e.r) e = (mset (e.o, e.r) e ms, clk) := by unfold putM; rw [hm]
    have hva := hver _ _ hm
    obtain ⟨MA, c, MB, hA, hB⟩ := mset_split9 (e := e) hm
    have hX : SX ms = SX MA ++ (a.L ++ SX MB) := by rw [hA, SX_app, SX_cons]
    have hX2 : SX (mset (e.o, e.r) e ms) = SX MA ++ (EL ++ SX MB) := by rw [hB, SX_app, SX_cons, hEL]
    rw [h1, h2]
    refine enterK (tb := tb) Tryz.func65 rfl Tryz.ntmps65 rfl ?_
    simp only [SL, evS, hX, hX2]
    generalize SX MA = XA
    generalize SX MB = XB
    generalize a.L = AL
    repeat' (first | (apply R.is1; first | (apply R.pure; exact rfl; first | (apply Ok1.fieldAddr; (iterate 5 exact rfl)) | (apply Ok1.load; exact rfl; (apply Ld.own1; exact rfl; exact rfl; exact At.head; exact rfl)) | (apply Ok1.assign; exact rfl) | (apply Ok1.buildA; (iterate 6 exact rfl))) | (apply R.box; (iterate 3 exact rfl); intro) | (apply R.alloc; (iterate 3 exact rfl); intro)) | (apply R.is0; (apply R.store; (iterate 6 exact rfl); exact Upd.head; exact rfl)) | apply R.nil | (apply T.is; first | (apply T.drawC (id := 2) [0,2,3] (by decide); ((apply A.take 0; exact rfl; exact rfl; kernel_rfl; kernel_rfl; kernel_rfl; (apply Ok1.move; exact rfl)) <;> (apply A.take 1; exact rfl; exact rfl; kernel_rfl; kernel_rfl; kernel_rfl; (apply Ok1.nilCheck; exact rfl)) <;> (apply A.take 2; exact rfl; exact rfl; kernel_rfl; kernel_rfl; kernel_rfl; (apply Ok1.fieldAddr; (iterate 5 exact rfl))) <;> (apply A.take 3; exact rfl; exact rfl; kernel_rfl; kernel_rfl; kernel_rfl; (apply Ok1.load; exact rfl; (apply Ld.own1; exact rfl; exact rfl; (focus ((repeat' (first | exact At.head | apply At.tail)); done)); exact rfl))) <;> (apply A.take 4; exact rfl; exact rfl; kernel_rfl; kernel_rfl; kernel_rfl; (apply Ok1.load; exact rfl; (apply Ld.ownk; exact rfl; exact rfl; exact At.head; exact rfl))) <;> (apply A.take 5; exact rfl; exact rfl; kernel_rfl; kernel_rfl; kernel_rfl; (apply Ok1.lookup_some (kv := kv2) (vv := evS) (e.o, e.r) kt2; (iterate 6 exact rfl); (focus ((repeat' (first | exact At.head | apply At.tail)); done)); assumption; (exact (if_neg Bool.false_ne_true).symm))) <;> (apply A.take 6; exact rfl; exact rfl; kernel_rfl; kernel_rfl; kernel_rfl; (apply Ok1.fieldk; (iterate 7 exact rfl))) <;> (apply A.take 7; exact rfl; exact rfl; kernel_rfl; kernel_rfl; kernel_rfl; (apply Ok1.field1; (iterate 7 exact rfl))) <;> ((apply A.take 8; exact rfl; exact rfl; kernel_rfl; kernel_rfl; kernel_rfl; (apply Ok1.eql_f; exact rfl; exact rfl; omega))) <;> (apply A.take 9; exact rfl; exact rfl; kernel_rfl; kernel_rfl; kernel_rfl; (apply Ok1.move; exact rfl)) <;> ((apply A.skipG 10; exact rfl; exact rfl; rotate_left 3; exact rfl; exact rfl; rotate_right 3; kernel_rfl; kernel_rfl; kernel_rfl)) <;> ((apply A.skipG 11; exact rfl; exact rfl; rotate_left 3; exact rfl; exact rfl; rotate_right 3; kernel_rfl; kernel_rfl; kernel_rfl)) <;> ((apply A.skipG 12; exact rfl; exact rfl; rotate_left 3; exact rfl; exact rfl; rotate_right 3; kernel_rfl; kernel_rfl; kernel_rfl)) <;> ((apply A.skipG 13; exact rfl; exact rfl; rotate_left 3; exact rfl; exact rfl; rotate_right 3; kernel_rfl; kernel_rfl; kernel_rfl)) <;> ((apply A.skipG 14; exact rfl; exact rfl; rotate_left 3; exact rfl; exact rfl; rotate_right 3; kernel_rfl; kernel_rfl; kernel_rfl)) <;> ((apply A.skipG 15; exact rfl; exact rfl; rotate_left 3; exact rfl; exact rfl; rotate_right 3; kernel_rfl; kernel_rfl; kernel_rfl)) <;> (apply A.take 16; exact rfl; exact rfl; kernel_rfl; kernel_rfl; kernel_rfl; (apply Ok1.pick_f; exact rfl; exact rfl)) <;> (apply A.done; kernel_rfl))) | (apply T.drawC (id := 4) [0,1,2] (by decide); ((apply A.take 0; exact rfl; exact rfl; kernel_rfl; kernel_rfl; kernel_rfl; (apply Ok1.move; exact rfl)) <;> (apply A.take 1; exact rfl; exact rfl; kernel_rfl; kernel_rfl; kernel_rfl; (apply Ok1.nilCheck; exact rfl)) <;> (apply A.take 2; exact rfl; exact rfl; kernel_rfl; kernel_rfl; kernel_rfl; (apply Ok1.fieldAddr; (iterate 5 exact rfl))) <;> (apply A.take 3; exact rfl; exact rfl; kernel_rfl; kernel_rfl; kernel_rfl; (apply Ok1.load; exact rfl; (apply Ld.own1; exact rfl; exact rfl; (focus ((repeat' (first | exact At.head | apply At.tail)); done)); exact rfl))) <;> (apply A.take 4; exact rfl; exact rfl; kernel_rfl; kernel_rfl; kernel_rfl; (apply Ok1.load; exact rfl; (apply Ld.ownk; exact rfl; exact rfl; exact At.head; exact rfl))) <;> (apply A.take 5; exact rfl; exact rfl; kernel_rfl; kernel_rfl; kernel_rfl; (apply Ok1.load; exact rfl; (apply Ld.ownk; exact rfl; exact rfl; (focus ((repeat' (first | exact At.head | apply At.tail)); done)); exact rfl))) <;> (apply A.one 6; kernel_rfl; exact rfl; (((apply R.mapSet_old (kv := kv2) (vv := evS) (a := e) (e.o, e.r) kt2; (iterate 7 exact rfl); (focus ((repeat' (first | exact Upd.head | apply Upd.tail)); done)); exact hm))); apply R.nil; refine ⟨?_, ?_⟩; (focus ((repeat' (first | exact trivial | (refine ⟨?_, ?_⟩; (focus ((repeat' (first | exact At.head | apply At.tail)); done)))))))) <;> (apply A.done; kernel_rfl))) | apply T.seq | apply T.region | apply T.skip | apply T.ret | (apply T.cond_f; exact rfl)))
    (apply RetOk.t; exact rfl)
    refine ⟨_, ?_, rfl, rfl⟩
    simp only [List.append_eq, List.append_assoc, List.cons_append]
    (focus ((repeat' (first | exact Ext.one _ _ | exact Ext.here _ _ | exact Ext.all _ | apply Keep.cons | apply Keep.app | apply Keep.last | apply Ext.cons | apply Ext.app)); done))
  | none =>
    by_cases h64 : ms.length = 64
    · have h1 : putE ms (e.o, e.r) = 6 := by unfold putE; rw [hm]; exact if_pos h64
      have h2 : putM ms clk (e.o, e.r) e = (ms, clk) := by unfold putM; rw [hm]; exact if_pos h64
      have h6 : ((ms.length : Nat) : Int) = 64 := by omega
      rw [h1, h2]
      refine enterK (tb := tb) Tryz.func65 rfl Tryz.ntmps65 rfl ?_
      simp only [SL, evS]
      generalize SX ms = X9
      repeat' (first | (apply R.is1; first | (apply R.pure; exact rfl; first | (apply Ok1.fieldAddr; (iterate 5 exact rfl)) | (apply Ok1.load; exact rfl; (apply Ld.own1; exact rfl; exact rfl; exact At.head; exact rfl)) | (apply Ok1.assign; exact rfl) | (apply Ok1.buildA; (iterate 6 exact rfl))) | (apply R.box; (iterate 3 exact rfl); intro) | (apply R.alloc; (iterate 3 exact rfl); intro)) | (apply R.is0; (apply R.store; (iterate 6 exact rfl); exact Upd.head; exact rfl)) | apply R.nil | (apply T.is; first | (apply T.drawC (id := 2) [0,2,3] (by decide); ((apply A.take 0; exact rfl; exact rfl; kernel_rfl; kernel_rfl; kernel_rfl; (apply Ok1.move; exact rfl)) <;> (apply A.take 1; exact rfl; exact rfl; kernel_rfl; kernel_rfl; kernel_rfl; (apply Ok1.nilCheck; exact rfl)) <;> (apply A.take 2; exact rfl; exact rfl; kernel_rfl; kernel_rfl; kernel_rfl; (apply Ok1.fieldAddr; (iterate 5 exact rfl))) <;> (apply A.take 3; exact rfl; exact rfl; kernel_rfl; kernel_rfl; kernel_rfl; (apply Ok1.load; exact rfl; (apply Ld.own1; exact rfl; exact rfl; (focus ((repeat' (first | exact At.head | apply At.tail)); done)); exact rfl))) <;> (apply A.take 4; exact rfl; exact rfl; kernel_rfl; kernel_rfl; kernel_rfl; (apply Ok1.load; exact rfl; (apply Ld.ownk; exact rfl; exact rfl; exact At.head; exact rfl))) <;> (apply A.take 5; exact rfl; exact rfl; kernel_rfl; kernel_rfl; kernel_rfl; (apply Ok1.lookup_none (kv := kv2) (vv := evS) (e.o, e.r) kt2; (iterate 6 exact rfl); (focus ((repeat' (first | exact At.head | apply At.tail)); done)); assumption; (exact (if_neg Bool.false_ne_true).symm))) <;> (apply A.take 6; exact rfl; exact rfl; kernel_rfl; kernel_rfl; kernel_rfl; (apply Ok1.fieldk; (iterate 7 exact rfl))) <;> (apply A.take 7; exact rfl; exact rfl; kernel_rfl; kernel_rfl; kernel_rfl; (apply Ok1.field1; (iterate 7 exact rfl))) <;> ((apply A.take 8; exact rfl; exact rfl; kernel_rfl; kernel_rfl; kernel_rfl; (apply Ok1.eql_t; exact rfl; exact rfl; omega))) <;> (apply A.take 9; exact rfl; exact rfl; kernel_rfl; kernel_rfl; kernel_rfl; (apply Ok1.move; exact rfl)) <;> ((apply A.takeG 10; exact rfl; exact rfl; rotate_left 3; exact rfl; exact rfl; rotate_right 3; kernel_rfl; kernel_rfl; kernel_rfl; (apply Ok1.move; exact rfl))) <;> ((apply A.takeG 11; exact rfl; exact rfl; rotate_left 3; exact rfl; exact rfl; rotate_right 3; kernel_rfl; kernel_rfl; kernel_rfl; (apply Ok1.nilCheck; exact rfl))) <;> ((apply A.takeG 12; exact rfl; exact rfl; rotate_left 3; exact rfl; exact rfl; rotate_right 3; kernel_rfl; kernel_rfl; kernel_rfl; (apply Ok1.fieldAddr; (iterate 5 exact rfl)))) <;> ((apply A.takeG 13; exact rfl; exact rfl; rotate_left 3; exact rfl; exact rfl; rotate_right 3; kernel_rfl; kernel_rfl; kernel_rfl; (apply Ok1.load; exact rfl; (apply Ld.own1; exact rfl; exact rfl; (focus ((repeat' (first | exact At.head | apply At.tail)); done)); exact rfl)))) <;> ((apply A.takeG 14; exact rfl; exact rfl; rotate_left 3; exact rfl; exact rfl; rotate_right 3; kernel_rfl; kernel_rfl; kernel_rfl; (apply Ok1.lenMm; (iterate 3 exact rfl); (focus ((repeat' (first | exact At.head | apply At.tail)); done))))) <;> ((apply A.takeG 15; exact rfl; exact rfl; rotate_left 3; exact rfl; exact rfl; rotate_right 3; kernel_rfl; kernel_rfl; kernel_rfl; (apply Ok1.eql_t; exact rfl; exact rfl; omega))) <;> (apply A.take 16; exact rfl; exact rfl; kernel_rfl; kernel_rfl; kernel_rfl; (apply Ok1.pick_t; exact rfl; exact rfl)) <;> (apply A.done; kernel_rfl))) | apply T.seq | apply T.region | apply T.ret | (apply T.cond_t; exact rfl)))
      (apply RetOk.t; exact rfl)
      refine ⟨_, ?_, rfl, rfl⟩
      simp only [List.append_eq, List.append_assoc, List.cons_append]
      (focus ((repeat' (first | exact Ext.one _ _ | exact Ext.here _ _ | apply Keep.cons | apply Keep.last | apply Ext.cons)); done))
    · have h1 : putE ms (e.o, e.r) = 0 := by unfold putE; rw [hm]; exact if_neg h64
      have h2 : putM ms clk (e.o, e.r) e = (ms ++ [((e.o, e.r), e, clk)], clk + 1) := by unfold putM; rw [hm]; exact if_neg h64
      have h6 : ¬ ((ms.length : Nat) : Int) = 64 := by omega
      have hX2 : SX (ms ++ [((e.o, e.r), e, clk)]) = SX ms ++ EL := by rw [SX_app, SX_cons, hEL]; simp [SX]
      rw [h1, h2]
      refine enterK (tb := tb) Tryz.func65 rfl Tryz.ntmps65 rfl ?_
      simp only [SL, evS, hX2]
      generalize SX ms = X9
      repeat' (first | (apply R.is1; first | (apply R.pure; exact rfl; first | (apply Ok1.fieldAddr; (iterate 5 exact rfl)) | (apply Ok1.load; exact rfl; (apply Ld.own1; exact rfl; exact rfl; exact At.head; exact rfl)) | (apply Ok1.assign; exact rfl) | (apply Ok1.buildA; (iterate 6 exact rfl))) | (apply R.box; (iterate 3 exact rfl); intro) | (apply R.alloc; (iterate 3 exact rfl); intro)) | (apply R.is0; (apply R.store; (iterate 6 exact rfl); exact Upd.head; exact rfl)) | apply R.nil | (apply T.is; first | (apply T.drawC (id := 2) [0,2,3] (by decide); ((apply A.take 0; exact rfl; exact rfl; kernel_rfl; kernel_rfl; kernel_rfl; (apply Ok1.move; exact rfl)) <;> (apply A.take 1; exact rfl; exact rfl; kernel_rfl; kernel_rfl; kernel_rfl; (apply Ok1.nilCheck; exact rfl)) <;> (apply A.take 2; exact rfl; exact rfl; kernel_rfl; kernel_rfl; kernel_rfl; (apply Ok1.fieldAddr; (iterate 5 exact rfl))) <;> (apply A.take 3; exact rfl; exact rfl; kernel_rfl; kernel_rfl; kernel_rfl; (apply Ok1.load; exact rfl; (apply Ld.own1; exact rfl; exact rfl; (focus ((repeat' (first | exact At.head | apply At.tail)); done)); exact rfl))) <;> (apply A.take 4; exact rfl; exact rfl; kernel_rfl; kernel_rfl; kernel_rfl; (apply Ok1.load; exact rfl; (apply Ld.ownk; exact rfl; exact rfl; exact At.head; exact rfl))) <;> (apply A.take 5; exact rfl; exact rfl; kernel_rfl; kernel_rfl; kernel_rfl; (apply Ok1.lookup_none (kv := kv2) (vv := evS) (e.o, e.r) kt2; (iterate 6 exact rfl); (focus ((repeat' (first | exact At.head | apply At.tail)); done)); assumption; (exact (if_neg Bool.false_ne_true).symm))) <;> (apply A.take 6; exact rfl; exact rfl; kernel_rfl; kernel_rfl; kernel_rfl; (apply Ok1.fieldk; (iterate 7 exact rfl))) <;> (apply A.take 7; exact rfl; exact rfl; kernel_rfl; kernel_rfl; kernel_rfl; (apply Ok1.field1; (iterate 7 exact rfl))) <;> ((apply A.take 8; exact rfl; exact rfl; kernel_rfl; kernel_rfl; kernel_rfl; (apply Ok1.eql_t; exact rfl; exact rfl; omega))) <;> (apply A.take 9; exact rfl; exact rfl; kernel_rfl; kernel_rfl; kernel_rfl; (apply Ok1.move; exact rfl)) <;> ((apply A.takeG 10; exact rfl; exact rfl; rotate_left 3; exact rfl; exact rfl; rotate_right 3; kernel_rfl; kernel_rfl; kernel_rfl; (apply Ok1.move; exact rfl))) <;> ((apply A.takeG 11; exact rfl; exact rfl; rotate_left 3; exact rfl; exact rfl; rotate_right 3; kernel_rfl; kernel_rfl; kernel_rfl; (apply Ok1.nilCheck; exact rfl))) <;> ((apply A.takeG 12; exact rfl; exact rfl; rotate_left 3; exact rfl; exact rfl; rotate_right 3; kernel_rfl; kernel_rfl; kernel_rfl; (apply Ok1.fieldAddr; (iterate 5 exact rfl)))) <;> ((apply A.takeG 13; exact rfl; exact rfl; rotate_left 3; exact rfl; exact rfl; rotate_right 3; kernel_rfl; kernel_rfl; kernel_rfl; (apply Ok1.load; exact rfl; (apply Ld.own1; exact rfl; exact rfl; (focus ((repeat' (first | exact At.head | apply At.tail)); done)); exact rfl)))) <;> ((apply A.takeG 14; exact rfl; exact rfl; rotate_left 3; exact rfl; exact rfl; rotate_right 3; kernel_rfl; kernel_rfl; kernel_rfl; (apply Ok1.lenMm; (iterate 3 exact rfl); (focus ((repeat' (first | exact At.head | apply At.tail)); done))))) <;> ((apply A.takeG 15; exact rfl; exact rfl; rotate_left 3; exact rfl; exact rfl; rotate_right 3; kernel_rfl; kernel_rfl; kernel_rfl; (apply Ok1.eql_f; exact rfl; exact rfl; omega))) <;> (apply A.take 16; exact rfl; exact rfl; kernel_rfl; kernel_rfl; kernel_rfl; (apply Ok1.pick_t; exact rfl; exact rfl)) <;> (apply A.done; kernel_rfl))) | (apply T.drawC (id := 4) [0,1,2] (by decide); ((apply A.take 0; exact rfl; exact rfl; kernel_rfl; kernel_rfl; kernel_rfl; (apply Ok1.move; exact rfl)) <;> (apply A.take 1; exact rfl; exact rfl; kernel_rfl; kernel_rfl; kernel_rfl; (apply Ok1.nilCheck; exact rfl)) <;> (apply A.take 2; exact rfl; exact rfl; kernel_rfl; kernel_rfl; kernel_rfl; (apply Ok1.fieldAddr; (iterate 5 exact rfl))) <;> (apply A.take 3; exact rfl; exact rfl; kernel_rfl; kernel_rfl; kernel_rfl; (apply Ok1.load; exact rfl; (apply Ld.own1; exact rfl; exact rfl; (focus ((repeat' (first | exact At.head | apply At.tail)); done)); exact rfl))) <;> (apply A.take 4; exact rfl; exact rfl; kernel_rfl; kernel_rfl; kernel_rfl; (apply Ok1.load; exact rfl; (apply Ld.ownk; exact rfl; exact rfl; exact At.head; exact rfl))) <;> (apply A.take 5; exact rfl; exact rfl; kernel_rfl; kernel_rfl; kernel_rfl; (apply Ok1.load; exact rfl; (apply Ld.ownk; exact rfl; exact rfl; (focus ((repeat' (first | exact At.head | apply At.tail)); done)); exact rfl))) <;> (apply A.one 6; kernel_rfl; exact rfl; (((apply R.mapSet_new (kv := kv2) (vv := evS) (a := e) (e.o, e.r) kt2; (iterate 7 exact rfl); (focus ((repeat' (first | exact Upd.head | apply Upd.tail)); done)); exact hm))); apply R.nil; refine ⟨?_, ?_⟩; (focus ((repeat' (first | exact trivial | (refine ⟨?_, ?_⟩; (focus ((repeat' (first | exact At.head | apply At.tail)); done)))))))) <;> (apply A.done; kernel_rfl))) | apply T.seq | apply T.region | apply T.skip | apply T.ret | (apply T.cond_f; exact rfl)))
      (apply RetOk.t; exact rfl)
      refine ⟨_, ?_, rfl, rfl⟩
      simp only [List.append_eq, List.append_assoc, List.cons_append]
      (focus ((repeat' (first | exact Ext.one _ _ | exact Ext.here _ _ | exact Ext.all _ | apply Keep.cons | apply Keep.app | apply Keep.last | apply Ext.cons)); done))
end Go.Proofs.YtligngjcnlbgmaaGreat
set_option linter.unusedSimpArgs false
set_option linter.unusedVariables false
namespace Go.Proofs.YtligngjcnlbgmaaGreat
open Go.RowKit Go.Shelf
set_option maxRecDepth 100000
theorem KeyR.keep {ov : Ov} {bk : Nat} {xs : List Int} (hov : OvOk 1 ov xs.length (u8s xs)) {w0 w1 w2 : World} {S : List Nat} {L Li Lr : Lst} (hw : Hp w0 S L w1) (he : Ext L Li Lr) (hin : ∀ z ∈ KL bk ov xs, z ∈ Lr) (hc : Chg (blks Li) w1 w2) : KeyR w2 bk xs := by
  have hm : ∀ z ∈ KL bk ov xs, w2.heap[z.1]? = some z.2 := fun z hz => hc.heap (hw.get z.1 z.2 (he.perm.subset (List.mem_append_right _ (hin z hz)))) (RdSl.off hw he (hin z hz))
  refine ⟨ovp ov, ovc ov xs.length, ?_, ?_⟩
  · rw [← slV_eq hov]
    exact hm _ List.mem_cons_self
  · cases ov with
    | none =>
      have h0 : xs = [] := List.eq_nil_of_length_eq_zero hov.2
      rw [h0]
      exact .inl rfl
    | some q =>
      obtain ⟨b, j, junk⟩ := q
      exact RdSl.heap (junk := junk) (e := 5) (fz := (0, 0)) (by rw [fl_u8]; exact hm (b, _) (List.mem_cons_of_mem _ (by simp [blkL])))
theorem stset_ok (bs bm : Nat) (ms : SMs) (clk : Nat) (hver : ∀ k a, mget k ms = some a → a.ver ≠ 0) (bk : Nat) (k : List Int) (hkl : k.length ≤ 999999000) (hkb : Byt k) (o r : Int) (p : Option Addr) (n cap : Nat) (xs : List Int) (hn : n = xs.length) (hby : Byt xs) (h64 : n ≤ 64) (hrt : HRt o r (verI ms (o, r) + 1)) (w : World) (hk : ∀ w1, Chg (blks (SL bs bm ms clk)) w w1 → KeyR w1 bk k) (hp : ∀ w1, Chg (blks (SL bs bm ms clk)) w w1 → RdSl w1 p u8V xs) :
    CallM Tryz.prog 35 [.pointer (some ⟨bs, 0, none⟩), .pointer (some ⟨bk, 0, none⟩), .int .i64 o, .int .i64 r, .slice p n cap] (SL bs bm ms clk) w fun v L => v = .int .i64 (putE ms (o, r)) ∧ ∃ bov vov, OvOk 1 bov (n + 32) (u8s (nsI k o r (verI ms (o, r) + 1) xs)) ∧ OvOk 1 vov n (u8s xs) ∧ L = SL bs bm (putM ms clk (o, r) ⟨o, r, verI ms (o, r) + 1, bov, nsI k o r (verI ms (o, r) + 1) xs, vov, xs, true⟩).1 (putM ms clk (o, r) ⟨o, r, verI ms (o, r) + 1, bov, nsI k o r (verI ms (o, r) + 1) xs, vov, xs, true⟩).2 := by
  have hve := fun w1 => stver_ok bs bm ms clk o r w1
  have hvr : 0 ≤ verI ms (o, r) ∧ verI ms (o, r) ≤ 2147483647 := by unfold HRt at hrt; omega
  have hpt := fun e w1 => stput_ok bs bm ms clk hver e w1
  have hIl : (nsI k o r (verI ms (o, r) + 1) xs).length = n + 32 := by unfold nsI; rw [sealI_len, hn]
  have hns := fun w1 h1 h2 => nseal_ok bk k hkl hkb o r (verI ms (o, r) + 1) p n cap xs hn hby hrt h64 w1 h1 h2
  have hcl := fun w1 h1 => clone_ok p n cap xs hn (by omega) w1 h1
  generalize verI ms (o, r) = vv at *
  generalize nsI k o r (vv + 1) xs = I9 at *
  generalize SL bs bm ms clk = LS at *
  simp only [ntC] at hns
  refine enterK (tb := tb) Tryz.func35 rfl Tryz.ntmps35 rfl ?_
  repeat' (first | (apply R.is1; first | (apply R.isBin; (apply R.pure; exact rfl; first | (apply Ok1.eqlP; (iterate 5 exact rfl)) | (apply Ok1.add64; exact rfl; exact rfl; omega; omega) | (apply Ok1.neq_f; exact rfl; exact rfl; omega))) | (apply R.isCall; first | (apply R.callE (Li := LS) (vs := [.pointer (some ⟨bs, 0, none⟩), .int .i64 o, .int .i64 r]); (iterate 3 exact rfl); (focus ((repeat' (exact Ext.all _)); done)); intro w1 hw1; exact hve w1; rintro v Lo ⟨rfl, hq⟩; rw [hq]; clear hq) | (apply R.callE (vs := [.pointer (some ⟨bk, 0, none⟩), .agg ⟨[.int .i64 o, .int .i64 r, .int .i64 (vv + 1), .slice p n cap]⟩]); (iterate 3 exact rfl); exact Ext.none _; intro w1 hw1; exact hns w1 (hk w1 hw1.chg) (hp w1 hw1.chg); rintro v Lo ⟨bov, hbov, rfl, rfl⟩)) | (apply R.pure; exact rfl; first | (apply Ok1.move; exact rfl) | (apply Ok1.assign; exact rfl) | (apply Ok1.build; (iterate 5 exact rfl)) | (apply Ok1.extract; exact rfl; exact rfl)) | (apply R.alloc; (iterate 3 exact rfl); intro)) | (apply R.is0; (apply R.store; (iterate 6 exact rfl); exact Upd.head; exact rfl)) | apply R.nil | (apply T.is; first | apply T.seq | apply T.region | apply T.skip | (apply T.cond_f; exact rfl)))
  have hpt2 : ∀ vov w1, OvOk 1 vov n (u8s xs) → CallM Tryz.prog 65 [.pointer (some ⟨bs, 0, none⟩), .agg ⟨[.int .i64 o, .int .i64 r, .int .i64 (vv + 1), .slice (ovp bov) (n + 32) (ovc bov (n + 32)), (.slice (ovp vov) n (ovc vov n)), .bool true]⟩] (LS ++ (blkL 5 bov (u8s I9) ++ blkL 5 vov (u8s xs))) w1 fun v L => v = .int .i64 (putE ms (o, r)) ∧ L = SL bs bm (putM ms clk (o, r) ⟨o, r, vv + 1, bov, I9, vov, xs, true⟩).1 (putM ms clk (o, r) ⟨o, r, vv + 1, bov, I9, vov, xs, true⟩).2 := by
    intro vov w1 hvov
    have g := hpt ⟨o, r, vv + 1, bov, I9, vov, xs, true⟩ w1
    simp only [evS, SE.L, hIl, ← hn] at g
    rw [slV_eq hbov, slV_eq hvov] at g
    exact g
  repeat' ((apply T.is; first | (apply T.drawC (id := 6) [0] (by decide); ((apply A.take 0; exact rfl; exact rfl; kernel_rfl; kernel_rfl; kernel_rfl; (apply Ok1.move; exact rfl)) <;> (apply A.take 1; exact rfl; exact rfl; kernel_rfl; kernel_rfl; kernel_rfl; (apply Ok1.load; exact rfl; (apply Ld.ownk; exact rfl; exact rfl; exact At.head; exact rfl))) <;> (apply A.take 2; exact rfl; exact rfl; kernel_rfl; kernel_rfl; kernel_rfl; (apply Ok1.move; exact rfl)) <;> (apply A.one 3; kernel_rfl; exact rfl; (((apply R.callE (vs := [.slice p n cap]); (iterate 3 exact rfl); exact Ext.none _; intro w1 hw1; exact hcl w1 (hp w1 hw1.chg); rintro v Lo ⟨vov, hvov, hsome, rfl, rfl⟩; rw [slV_eq hvov]))); apply R.nil; refine ⟨?_, ?_⟩; (focus ((repeat' (first | exact trivial | (refine ⟨?_, ?_⟩; (focus ((repeat' (first | exact At.head | apply At.right)); done)))))))) <;> (apply A.take 4; exact rfl; exact rfl; kernel_rfl; kernel_rfl; kernel_rfl; (apply Ok1.build; (iterate 5 exact rfl))) <;> (apply A.one 5; kernel_rfl; exact rfl; (((apply R.callE (Li := LS ++ (blkL 5 bov (u8s I9) ++ blkL 5 vov (u8s xs))) (vs := [.pointer (some ⟨bs, 0, none⟩), .agg ⟨[.int .i64 o, .int .i64 r, .int .i64 (vv + 1), .slice (ovp bov) (n + 32) (ovc bov (n + 32)), (.slice (ovp vov) n (ovc vov n)), .bool true]⟩]); (iterate 3 exact rfl); (apply Ext.cat9; (focus ((repeat' (first | exact Ext.here _ _ | apply Ext.cons | apply Ext.app)); done)); apply Ext.cat9; (focus ((repeat' (first | exact Ext.here _ _ | apply Ext.cons | apply Ext.app)); done)); (focus ((repeat' (exact Ext.here _ _)); done))); intro w1 hw1; exact hpt2 vov w1 hvov; rintro v Lo ⟨rfl, rfl⟩))); apply R.nil; refine ⟨?_, ?_⟩; (focus ((repeat' (first | exact trivial | (refine ⟨?_, ?_⟩; (focus ((repeat' (first | exact At.head | apply At.tail | apply At.right)); done)))))))) <;> (apply A.take 6; exact rfl; exact rfl; kernel_rfl; kernel_rfl; kernel_rfl; (apply Ok1.assign; exact rfl)) <;> (apply A.done; kernel_rfl))) | apply T.ret))
  all_goals (apply RetOk.t; exact rfl)
  all_goals exact ⟨_, by (focus ((repeat' (first | exact Ext.one _ _ | exact Ext.here _ _ | apply Keep.cons | apply Keep.last)); done)), rfl, bov, vov, hbov, hvov, rfl⟩
end Go.Proofs.YtligngjcnlbgmaaGreat
set_option linter.unusedSimpArgs false
set_option linter.unusedVariables false
namespace Go.Proofs.YtligngjcnlbgmaaGreat
open Go.RowKit Go.Shelf Go.Sort
set_option maxRecDepth 100000
theorem insS_nil (p : Option Addr) (cap : Nat) (f : Value) : CallP Tryz.prog 150 [.slice p 0 cap, .int .i64 0, .int .i64 0, f] (.tuple #[]) := by
  refine enterP (tb := tb) Tryz.func150 rfl Tryz.ntmps150 rfl fun w => ?_
  repeat' (first | (apply R.is1; first | (apply R.isBin; (apply R.pure; exact rfl; first | (apply Ok1.add64; exact rfl; exact rfl; omega; omega) | (apply Ok1.lss_f; exact rfl; exact rfl; omega))) | (apply R.pure; exact rfl; first | (apply Ok1.move; exact rfl) | (apply Ok1.assign; exact rfl))) | apply R.nil | (apply T.is; first | apply T.rounds 2 | apply T.seq | apply T.region | apply T.block | apply T.exit | (apply T.cond_f; exact rfl)))
  all_goals (apply RetOk.n)
  all_goals rfl
theorem pdqS_nil (p : Option Addr) (cap : Nat) (l : Int) (f : Value) : CallP Tryz.prog 130 [.slice p 0 cap, .int .i64 0, .int .i64 0, .int .i64 l, f] (.tuple #[]) := by
  refine enterP (tb := tb) Tryz.func130 rfl Tryz.ntmps130 rfl fun w => ?_
  repeat' (first | (apply R.is1; first | (apply R.isBin; (apply R.pure; exact rfl; first | (apply Ok1.sub64; exact rfl; exact rfl; omega; omega) | (apply Ok1.leq_t; exact rfl; exact rfl; omega))) | (apply R.isCall; apply R.callP rfl rfl rfl (insS_nil _ _ _)) | (apply R.pure; exact rfl; first | (apply Ok1.move; exact rfl) | (apply Ok1.assign; exact rfl))) | apply R.nil | (apply T.is; first | apply T.rounds 2 | apply T.seq | apply T.region | apply T.block | apply T.ret | (apply T.cond_t; exact rfl)))
  all_goals (apply RetOk.n)
  all_goals rfl
theorem sortS_nil (p : Option Addr) (cap : Nat) (f : Value) : CallP Tryz.prog 106 [.slice p 0 cap, f] (.tuple #[]) := by
  refine enterP (tb := tb) Tryz.func106 rfl Tryz.ntmps106 rfl fun w => ?_
  repeat' (first | (apply R.is1; first | (apply R.isCall; first | apply R.callP rfl rfl rfl (len_ok _ (by omega) (by omega)) | apply R.callP rfl rfl rfl (pdqS_nil _ _ _ _) | (apply R.pure; exact rfl; (apply Ok1.lenS; (iterate 3 exact rfl)))) | (apply R.pure; exact rfl; first | (apply Ok1.move; exact rfl) | (apply Ok1.assign; exact rfl) | (apply Ok1.convU64; (iterate 5 exact rfl); omega; omega))) | apply R.nil | (apply T.is; first | apply T.seq | apply T.region))
  all_goals (apply RetOk.n)
  all_goals rfl
/-- The order of entries: by owner, by role. -/
def cfS (x y : SE) : Int := or2 (cmpI x.o y.o) (cmpI x.r y.r)
theorem cfS_neg (x y : SE) : cfS x y < 0 ↔ x.o < y.o ∨ x.o = y.o ∧ x.r < y.r := by
  have h1 := cmpI_neg x.o y.o
  have h2 := cmpI_zero x.o y.o
  have h3 := cmpI_neg x.r y.r
  unfold cfS or2
  split <;> omega
theorem swoS : SWO (ltOf cfS) where
  irrefl := fun x => by simp only [ltOf, decide_eq_false_iff_not, cfS_neg]; omega
  trans := fun x y z => by simp only [ltOf, decide_eq_true_eq, cfS_neg]; omega
  ntrans := fun x y z => by simp only [ltOf, decide_eq_false_iff_not, cfS_neg]; omega
instance : Inhabited SE := ⟨⟨0, 0, 0, none, [], none, [], false⟩⟩
theorem SE.v_len (e : SE) : e.v.length = 6 := rfl
theorem slV_one9 (ov : Ov) (n : Nat) : (slV ov n).oneCell' = true := by cases ov <;> rfl
theorem SE.v_one (e : SE) : ∀ v ∈ e.v, v.oneCell' = true := by
  intro v hv
  simp only [SE.v, List.mem_cons, List.not_mem_nil, or_false] at hv
  rcases hv with rfl | rfl | rfl | rfl | rfl | rfl
  · rfl
  · rfl
  · rfl
  · exact slV_one9 _ _
  · exact slV_one9 _ _
  · rfl
theorem ssort1_ok (x y : SE) : CallP Tryz.prog 107 [.agg ⟨x.v⟩, .agg ⟨y.v⟩] (.int .i64 (cfS x y)) := by
  refine enterP (tb := tb) Tryz.func107 rfl Tryz.ntmps107 rfl fun w => ?_
  simp only [SE.v]
  repeat' (first | (apply R.is1; first | (apply R.pure; exact rfl; (apply Ok1.assign; exact rfl)) | (apply R.box; (iterate 3 exact rfl); intro)) | apply R.nil | (apply T.is; first | (apply T.drawC (id := 1) [0,1] (by decide); ((apply A.take 0; exact rfl; exact rfl; kernel_rfl; kernel_rfl; kernel_rfl; (apply Ok1.fieldAddr; (iterate 5 exact rfl))) <;> (apply A.take 1; exact rfl; exact rfl; kernel_rfl; kernel_rfl; kernel_rfl; (apply Ok1.fieldAddr; (iterate 5 exact rfl))) <;> (apply A.take 2; exact rfl; exact rfl; kernel_rfl; kernel_rfl; kernel_rfl; (apply Ok1.load; exact rfl; (apply Ld.own1; exact rfl; exact rfl; (focus ((repeat' (first | exact At.head | apply At.tail)); done)); exact rfl))) <;> (apply A.take 3; exact rfl; exact rfl; kernel_rfl; kernel_rfl; kernel_rfl; (apply Ok1.fieldAddr; (iterate 5 exact rfl))) <;> (apply A.take 4; exact rfl; exact rfl; kernel_rfl; kernel_rfl; kernel_rfl; (apply Ok1.fieldAddr; (iterate 5 exact rfl))) <;> (apply A.take 5; exact rfl; exact rfl; kernel_rfl; kernel_rfl; kernel_rfl; (apply Ok1.load; exact rfl; (apply Ld.own1; exact rfl; exact rfl; exact At.head; exact rfl))) <;> (apply A.take 7; exact rfl; exact rfl; kernel_rfl; kernel_rfl; kernel_rfl; (apply Ok1.fieldAddr; (iterate 5 exact rfl))) <;> (apply A.take 8; exact rfl; exact rfl; kernel_rfl; kernel_rfl; kernel_rfl; (apply Ok1.fieldAddr; (iterate 5 exact rfl))) <;> (apply A.take 9; exact rfl; exact rfl; kernel_rfl; kernel_rfl; kernel_rfl; (apply Ok1.load; exact rfl; (apply Ld.own1; exact rfl; exact rfl; (focus ((repeat' (first | exact At.head | apply At.tail)); done)); exact rfl))) <;> (apply A.take 10; exact rfl; exact rfl; kernel_rfl; kernel_rfl; kernel_rfl; (apply Ok1.fieldAddr; (iterate 5 exact rfl))) <;> (apply A.take 11; exact rfl; exact rfl; kernel_rfl; kernel_rfl; kernel_rfl; (apply Ok1.fieldAddr; (iterate 5 exact rfl))) <;> (apply A.take 12; exact rfl; exact rfl; kernel_rfl; kernel_rfl; kernel_rfl; (apply Ok1.load; exact rfl; (apply Ld.own1; exact rfl; exact rfl; exact At.head; exact rfl))) <;> (apply A.one 6; kernel_rfl; exact rfl; ((apply R.callP rfl rfl rfl (cmp_ok x.o y.o))); apply R.nil; refine ⟨?_, ?_⟩; (focus ((repeat' (first | exact trivial | (refine ⟨?_, ?_⟩; (focus ((repeat' (first | exact At.head | apply At.tail)); done)))))))) <;> (apply A.one 13; kernel_rfl; exact rfl; ((apply R.callP rfl rfl rfl (cmp_ok x.r y.r))); apply R.nil; refine ⟨?_, ?_⟩; (focus ((repeat' (first | exact trivial | (refine ⟨?_, ?_⟩; (focus ((repeat' (first | exact At.head | apply At.tail)); done)))))))) <;> (apply A.one 14; kernel_rfl; exact rfl; (((apply R.buildSlice; (iterate 12 exact rfl); intro))); apply R.nil; refine ⟨?_, ?_⟩; (focus ((repeat' (first | exact trivial | (refine ⟨?_, ?_⟩; (focus ((repeat' (first | exact At.head | apply At.tail)); done)))))))) <;> (apply A.one 15; kernel_rfl; exact rfl; (((apply R.callV; (iterate 3 exact rfl); (intro w1 hw1; exact or2_ok _ _ _ _ _ (hw1.get _ _ (At.mem (by exact At.head))))))); apply R.nil; refine ⟨?_, ?_⟩; (focus ((repeat' (first | exact trivial | (refine ⟨?_, ?_⟩; (focus ((repeat' (first | exact At.head | apply At.tail)); done)))))))) <;> (apply A.take 16; exact rfl; exact rfl; kernel_rfl; kernel_rfl; kernel_rfl; (apply Ok1.assign; exact rfl)) <;> (apply A.done; kernel_rfl))) | apply T.seq | apply T.region | apply T.ret))
  all_goals (apply RetOk.t; exact rfl)
  all_goals rfl
theorem sortS_ok (rs : List SE) (hlen : rs.length ≤ 1000) (ov : Ov) (hov : OvOk 6 ov rs.length (fl SE.v rs)) (w : World) :
    CallM Tryz.prog 106 [slV ov rs.length, .func (.func 107) #[] #[]] (blkL 142 ov (fl SE.v rs)) w fun v L => v = .tuple #[] ∧ ∃ rs', rs'.Perm rs ∧ Asc cfS rs' ∧ L = blkL 142 ov (fl SE.v rs') := by
  cases ov with
  | none =>
    have h0 : rs.length = 0 := hov.2
    have : rs = [] := by cases rs; rfl; simp at h0
    subst this
    exact ⟨fun hw => ((sortS_nil none 0 _).run w).mono fun e' w' ⟨h1, h2⟩ => ⟨_, _, h1, ⟨rfl, [], .refl _, .nil, rfl⟩, hw.step h2⟩⟩
  | some x =>
    obtain ⟨b, j, junk⟩ := x
    exact sort_ok Tryz.sortS (fun w => (tb.get (t := 142) rfl).agg rfl w) (tb.get (t := 142) rfl).size SE.v_len SE.v_one _ swoS 107 [] rfl b _ rs junk _ w (tb.ent rfl) (by omega)
      (fun W hW x y => (ssort1_ok x y).at W)
/-- A store as it must be. -/
structure SOk (ms : SMs) (clk : Nat) : Prop where
  wf : MWf (ms, clk)
  key : ∀ e ∈ ms, e.1 = (e.2.1.o, e.2.1.r)
  hrt : ∀ e ∈ ms, HRt e.2.1.o e.2.1.r e.2.1.ver
  bok : ∀ e ∈ ms, OvOk 1 e.2.1.bov e.2.1.body.length (u8s e.2.1.body)
  vok : ∀ e ∈ ms, OvOk 1 e.2.1.vov e.2.1.val.length (u8s e.2.1.val)
  blen : ∀ e ∈ ms, e.2.1.body.length ≤ 96
  vlen : ∀ e ∈ ms, e.2.1.val.length ≤ 96
  few : ms.length ≤ 64
theorem SE.v_all (e : SE) : e.v.all Value.oneCell' = true := List.all_eq_true.2 fun v hv => e.v_one v hv
theorem fl1_all (e : SE) : (fl SE.v [e]).all Value.oneCell' = true := by
  rw [show fl SE.v [e] = e.v from by simp [fl]]
  exact e.v_all
theorem SE.set9 (e : SE) (cs : List Value) (h : cs.length = 6) : setE cs 0 e.v = some e.v := setE_all (by rw [SE.v_len, h])
theorem SE.sub9 (e : SE) : subE e.v 0 6 = some e.v := subE_all e.v_len
theorem ssorted_ok (bs bm : Nat) (ms : SMs) (clk : Nat) (hwf : MWf (ms, clk)) (hlen : ms.length ≤ 64) (w : World) : CallM Tryz.prog 67 [.pointer (some ⟨bs, 0, none⟩)] (SL bs bm ms clk) w fun v L => ∃ ov rs, rs.Perm (ms.map (·.2.1)) ∧ Asc cfS rs ∧ OvOk 6 ov rs.length (fl SE.v rs) ∧ v = slV ov rs.length ∧ L = blkL 142 ov (fl SE.v rs) ++ SL bs bm ms clk := by
  refine enterK (tb := tb) Tryz.func67 rfl Tryz.ntmps67 rfl ?_
  simp only [SL]
  generalize SX ms = X9
  repeat' (first | (apply R.is1; first | (apply R.range (kv := kv2) (vv := evS) (ms := ms) (clk := clk); (iterate 4 exact rfl); (focus ((repeat' (first | exact At.head | apply At.tail)); done)); intro c) | (apply R.isBin; (apply R.pure; exact rfl; (apply Ok1.eqlP; (iterate 5 exact rfl)))) | (apply R.pure; exact rfl; first | (apply Ok1.move; exact rfl) | (apply Ok1.fieldAddr; (iterate 5 exact rfl)) | (apply Ok1.load; exact rfl; (apply Ld.own1; exact rfl; exact rfl; exact At.head; exact rfl)) | (apply Ok1.assign; exact rfl) | (apply Ok1.nilCheck; exact rfl))) | apply R.nil | (apply T.is; first | apply T.seq | apply T.region | apply T.block | apply T.skip | (apply T.cond_f; exact rfl)))
  apply T.loopK (α := SMs × Ov) (I := fun x => Met ms x.1 ∧ OvOk 6 x.2 x.1.length (fl SE.v (x.1.map (·.2.1)))) (σi := fun x => [(0, .pointer (some ⟨bs, 0, none⟩)), (3, slV x.2 x.1.length), (12, .pointer (some ⟨c, 0, none⟩))])
    (Li := fun x => (c, .mapIter (some bm) clk ⟨x.1.map (·.2.2)⟩ clk) :: (bs, .cells ⟨[.map (some bm)]⟩ 139 (0, 0)) :: (bm, mobj kv2 evS ms clk) :: (blkL 142 x.2 (fl SE.v (x.1.map (·.2.1))) ++ X9)) (μ := fun x => ms.length - x.1.length) (i0 := ([], none))
  · exact ⟨Met.start _, OvOk.start 6⟩
  · exact ⟨rfl, rfl, rfl, trivial⟩
  · simp only [blkL, List.nil_append]
    (focus ((repeat' (first | exact Ext.one _ _ | exact Ext.all _ | apply Keep.cons | apply Keep.last)); done))
  · rintro ⟨vis, ov⟩ ⟨hmet, hov⟩
    simp only at hmet hov ⊢
    have hvl : vis.length ≤ ms.length := by
      classical
      exact nodup_sub_len (nodup_map_born hmet.nd) hmet.sub
    repeat' (first | (apply R.is1; first | (apply R.next (kv := kv2) (vv := evS) (ms := ms); exact rfl; exact rfl; (focus ((repeat' (first | exact At.head | apply At.tail)); done)); exact At.head; exact hwf.bnd; intro hall; rotate_left 1; intro e he hne; apply Exists.intro; apply And.intro; exact Upd.head) | (apply R.isCall; (apply R.appendRd (xs := [e.2.1]) (v := SE.v) (sz := 6) (ov := ov) (n := vis.length) (old := fl SE.v (vis.map (·.2.1))); (iterate 12 exact rfl); exact hov; (focus ((repeat' (first | exact Ext.here _ _ | apply Ext.cons)); done)); exact rfl; exact SE.v_len; exact rfl; (intro w1 hw1; exact RdSl.of (junk := []) hw1 (by exact At.head) (by simp [fl, SE.v])); (exact fl1_all _); omega; intro ov1 hov1 hsome)) | (apply R.pure; exact rfl; first | (apply Ok1.entry; exact rfl; exact At.head; (focus ((repeat' (first | exact At.head | apply At.tail)); done)); assumption; exact hwf.nd) | (apply Ok1.load; exact rfl; (apply Ld.ownk; exact rfl; exact rfl; exact At.head; exact SE.sub9 _)) | (apply Ok1.move; exact rfl) | (apply Ok1.assign; exact rfl) | (apply Ok1.extract; exact rfl; exact rfl)) | (apply R.alloc; (iterate 3 exact rfl); intro) | (apply R.buildSlice; (iterate 12 exact rfl); intro)) | (apply R.is0; (apply R.store; (iterate 3 exact rfl); (exact (rfl : cellsE (evS e.2.1) = some e.2.1.v)); exact SE.v_len _; exact SE.v_all _; exact Upd.head; exact SE.set9 _ _ rfl)) | apply R.nil | (apply T.is; first | apply T.seq | apply T.region | apply T.block | apply T.skip | apply T.exit | (apply T.cond_t; exact rfl) | (apply T.cond_f; exact rfl)))
    · rw [show fl SE.v [e.2.1] = e.2.1.v from by simp [fl]] at hov1 ⊢
      have hls : (vis ++ [e]).length = vis.length + 1 := by simp
      have hms : fl SE.v ((vis ++ [e]).map (·.2.1)) = fl SE.v (vis.map (·.2.1)) ++ e.2.1.v := by simp only [List.map_append, List.map_cons, List.map_nil, fl_snoc]
      refine ⟨(vis ++ [e], ov1), ⟨hmet.step he hne, ?_⟩, ?_, ?_, ?_⟩
      · simp only [hls, hms]
        exact hov1
      · have := hmet.le hwf.nd he hne
        simp only [hls]
        omega
      · simp only [hls]
        exact ⟨rfl, rfl, rfl, trivial⟩
      · simp only [hms]
        simp only [List.map_append, List.map_cons, List.map_nil]
        (focus ((repeat' (first | exact Ext.one _ _ | exact Ext.here _ _ | exact Ext.all _ | apply Keep.cons | apply Keep.app | apply Keep.last | apply Ext.cons | apply Ext.app)); done))
    · have hperm : vis.Perm ms := hmet.perm hwf.nd hall
      have hsort := fun w1 => sortS_ok (vis.map (·.2.1)) (by rw [List.length_map]; omega) ov (by rw [List.length_map]; exact hov) w1
      simp only [List.length_map] at hsort
      generalize hLB : blkL 142 ov (fl SE.v (vis.map (·.2.1))) = LB at *
      repeat' (first | (apply R.is1; first | (apply R.isCall; (apply R.callE (Li := LB) (vs := [slV ov vis.length, .func (.func 107) #[] #[]]); (iterate 3 exact rfl); (focus ((repeat' (first | exact Ext.here _ _ | apply Ext.cons)); done)); intro w1 hw1; exact hsort w1; rintro v Lo ⟨rfl, rs, hp, hasc, rfl⟩)) | (apply R.pure; exact rfl; first | (apply Ok1.move; exact rfl) | (apply Ok1.assign; exact rfl))) | apply R.nil | (apply T.is; first | apply T.seq | apply T.region | apply T.ret))
      (apply RetOk.t; exact rfl)
      have hrl : rs.length = vis.length := by rw [hp.length_eq, List.length_map]
      refine ⟨_, ?_, ov, rs, hp.trans (hperm.map _), hasc, ⟨fl_len SE.v_len rs, by rw [hrl]; exact hov.2⟩, by rw [hrl], rfl⟩
      (focus ((repeat' (first | exact Ext.one _ _ | exact Ext.here _ _ | exact Ext.all _ | apply Keep.cons | apply Keep.app | apply Keep.last | apply Ext.cons)); done))
end Go.Proofs.YtligngjcnlbgmaaGreat
set_option linter.unusedSimpArgs false
set_option linter.unusedVariables false
namespace Go.Proofs.YtligngjcnlbgmaaGreat
open Go.RowKit Go.Shelf Go.Sort
set_option maxRecDepth 100000
/-- Is a role in a mask? -/
def inM (mask r : Int) : Bool := decide (andI .i64 (mask / (pw r.toNat)) 1 = 1)
/-- A note in memory of its own. -/
structure NE where
  o : Int
  r : Int
  ver : Int
  ov : Ov
  xs : List Int
instance : Inhabited NE := ⟨⟨0, 0, 0, none, []⟩⟩
def NE.v (e : NE) : List Value := [.int .i64 e.o, .int .i64 e.r, .int .i64 e.ver, slV e.ov e.xs.length]
theorem NE.v_len (e : NE) : e.v.length = 4 := rfl
def NX (ns : List NE) : Lst := ns.flatMap fun x => blkL 5 x.ov (u8s x.xs)
theorem NX_app (a b : List NE) : NX (a ++ b) = NX a ++ NX b := List.flatMap_append
/-- What a note says. -/
def NE.say (e : NE) : Int × Int × Int × List Int := (e.o, e.r, e.ver, e.xs)
def rdN (mask : Int) (rs : List SE) : List (Int × Int × Int × List Int) := (rs.filter fun x => x.op && inM mask x.r).map fun x => (x.o, x.r, x.ver, x.val)
theorem rdN_snoc (mask : Int) {rs : List SE} {i : Nat} {x : SE} (hx : rs[i]? = some x) : rdN mask (rs.take (i + 1)) = if (x.op && inM mask x.r) = true then rdN mask (rs.take i) ++ [(x.o, x.r, x.ver, x.val)] else rdN mask (rs.take i) := by
  unfold rdN
  rw [List.take_add_one, hx, Option.toList_some, List.filter_append, List.map_append]
  by_cases h : (x.op && inM mask x.r) = true
  · rw [if_pos h]; simp [h]
  · rw [if_neg h]; simp [h]
theorem NE.v_all (e : NE) : e.v.all Value.oneCell' = true := by
  rw [List.all_eq_true]
  intro v hv
  simp only [NE.v, List.mem_cons, List.not_mem_nil, or_false] at hv
  rcases hv with rfl | rfl | rfl | rfl
  · rfl
  · rfl
  · rfl
  · exact slV_one9 _ _
theorem fl1N (e : NE) : fl NE.v [e] = e.v := by simp [fl]
theorem fl1N_all (e : NE) : (fl NE.v [e]).all Value.oneCell' = true := by rw [fl1N]; exact e.v_all
theorem stread_ok (bs bm : Nat) (ms : SMs) (clk : Nat) (hs : SOk ms clk) (mask : Int) (w : World) : CallM Tryz.prog 42 [.pointer (some ⟨bs, 0, none⟩), .int .i64 mask] (SL bs bm ms clk) w fun v L => ∃ rs ov ns, rs.Perm (ms.map (·.2.1)) ∧ Asc cfS rs ∧ OvOk 4 ov ns.length (fl NE.v ns) ∧ (∀ x ∈ ns, OvOk 1 x.ov x.xs.length (u8s x.xs)) ∧ ns.map NE.say = rdN mask rs ∧ v = slV ov ns.length ∧ L = blkL 36 ov (fl NE.v ns) ++ (NX ns ++ SL bs bm ms clk) := by
  have hso := fun w1 => ssorted_ok bs bm ms clk hs.wf hs.few w1
  have hSm : ∀ (L : Lst) w1, Hp w (blks (SL bs bm ms clk)) L w1 → (∀ z ∈ SL bs bm ms clk, z ∈ L) → ∀ e ∈ ms, RdSl w1 (ovp e.2.1.vov) u8V e.2.1.val := by
    intro L w1 h1 h2 e he
    exact rdown (hs.vok e he) h1 fun z hz => h2 z (List.mem_cons_of_mem _ (List.mem_cons_of_mem _ (List.mem_flatMap.2 ⟨e, he, List.mem_append_right _ hz⟩)))
  generalize hSL : SL bs bm ms clk = LS at *
  refine enterK (tb := tb) Tryz.func42 rfl Tryz.ntmps42 rfl ?_
  repeat' (first | (apply R.is1; first | (apply R.isCall; first | (apply R.callE (Li := LS) (vs := [.pointer (some ⟨bs, 0, none⟩)]); (iterate 3 exact rfl); (focus ((repeat' (exact Ext.all _)); done)); intro w1 hw1; exact hso w1; rintro v Lo ⟨ovs, rs, hp, hasc, hovs, rfl, rfl⟩; rw [List.append_assoc]) | (apply R.pure; exact rfl; apply Ok1.lenOv; (iterate 3 exact rfl); exact hovs)) | (apply R.pure; exact rfl; first | (apply Ok1.move; exact rfl) | (apply Ok1.assign; exact rfl))) | apply R.nil | (apply T.is; first | apply T.seq | apply T.region | apply T.block))
  have hmem : ∀ (i : Nat) (x : SE), rs[i]? = some x → ∃ e ∈ ms, e.2.1 = x := fun i x hx => by
    have := hp.subset (List.mem_of_getElem? hx)
    obtain ⟨e, he, h⟩ := List.mem_map.1 this
    exact ⟨e, he, h⟩
  have hrl : rs.length ≤ 64 := by rw [hp.length_eq, List.length_map]; exact hs.few
  cases ovs with
  | none =>
    have h00 : rs = [] := List.eq_nil_of_length_eq_zero hovs.2
    subst h00
    simp only [slV, blkL, List.length_nil, List.nil_append]
    repeat' (first | (apply R.is1; first | (apply R.isBin; (apply R.pure; exact rfl; (apply Ok1.lss_f; exact rfl; exact rfl; omega))) | (apply R.pure; exact rfl; first | (apply Ok1.move; exact rfl) | (apply Ok1.assign; exact rfl))) | apply R.nil | (apply T.is; first | apply T.rounds 1 | apply T.seq | apply T.region | apply T.exit | apply T.ret | (apply T.cond_f; exact rfl)))
    (apply RetOk.t; exact rfl)
    exact ⟨LS, by (focus ((repeat' (first | exact Ext.here _ _ | apply Keep.last)); done)), [], none, [], hp, hasc, OvOk.start 4, (by simp), rfl, rfl, rfl⟩
  | some q =>
    obtain ⟨bq, j, junk⟩ := q
    simp only [slV, blkL]
    apply T.loopK (α := Nat × Ov × List NE) (I := fun y => y.1 ≤ rs.length ∧ OvOk 4 y.2.1 y.2.2.length (fl NE.v y.2.2) ∧ (∀ x ∈ y.2.2, OvOk 1 x.ov x.xs.length (u8s x.xs)) ∧ y.2.2.map NE.say = rdN mask (rs.take y.1)) (σi := fun y => [(1, .int .i64 mask), (5, slV y.2.1 y.2.2.length), (9, .slice (some ⟨bq, 0, none⟩) rs.length (rs.length + j)), (10, .int .i64 rs.length), (11, .int .i64 y.1)]) (Li := fun y => (bq, .cells ⟨fl SE.v rs ++ junk⟩ 142 (0, 0)) :: (blkL 36 y.2.1 (fl NE.v y.2.2) ++ (NX y.2.2 ++ LS))) (μ := fun y => rs.length - y.1) (i0 := (0, none, []))
    · exact ⟨Nat.zero_le _, OvOk.start 4, (by simp), rfl⟩
    · exact ⟨rfl, rfl, rfl, rfl, rfl, trivial⟩
    · simp only [blkL, NX, List.flatMap_nil, List.nil_append, List.cons_append, List.append_nil]
      (focus ((repeat' (first | exact Ext.one _ _ | exact Ext.all _ | apply Keep.cons | apply Keep.last)); done))
    · rintro ⟨i, ov, ns⟩ ⟨hi, hov, hns, hsay⟩
      simp only at hi hov hns hsay ⊢
      have hnl : ns.length ≤ i := by
        have h1 := congrArg List.length hsay
        rw [List.length_map] at h1
        rw [h1]
        unfold rdN
        rw [List.length_map]
        have := List.length_filter_le (fun x => x.op && inM mask x.r) (rs.take i)
        rw [List.length_take] at this
        omega
      rcases Nat.lt_or_ge i rs.length with hlt | hge
      · obtain ⟨x, hx⟩ : ∃ x, rs[i]? = some x := ⟨_, List.getElem?_eq_getElem (by omega)⟩
        obtain ⟨e, he, hex⟩ := hmem i x hx
        have hrt := hs.hrt e he
        have hr8 : 0 ≤ x.r ∧ x.r < 8 := by rw [hex] at hrt; unfold HRt at hrt; omega
        have hvok := hs.vok e he
        have hvln := hs.vlen e he
        have hSm1 := fun L w1 h1 h2 => hSm L w1 h1 h2 e he
        rw [hex] at hvok hvln hSm1
        have hsn := rdN_snoc mask hx
        generalize hNX : NX ns = LN at *
        cases hop : x.op with
        | false =>
          rw [hop, Bool.false_and, if_neg (by simp)] at hsn
          have hov5 : x.v[5]? = some (.bool false) := by rw [← hop]; rfl
          repeat' (first | (apply R.is1; first | (apply R.isBin; (apply R.pure; exact rfl; first | (apply Ok1.add64; exact rfl; exact rfl; omega; omega) | (apply Ok1.lss_t; exact rfl; exact rfl; omega))) | (apply R.pure; exact rfl; first | (apply Ok1.load; exact rfl; first | (apply Ld.ownrowk (f := 0) (us := x.v); (focus ((repeat' (first | exact At.head | apply At.tail | apply At.right)); done)); exact SE.v_len; exact hx; (focus ((simp; done))); exact rfl; exact rfl; exact SE.sub9 _) | (apply Ld.own1; exact rfl; exact rfl; exact At.head; exact hov5)) | (apply Ok1.move; exact rfl) | (apply Ok1.fieldAddr; (iterate 5 exact rfl)) | (apply Ok1.indexAddr; (iterate 5 exact rfl); omega; omega) | (apply Ok1.pick_f; exact rfl; exact rfl)) | (apply R.alloc; (iterate 3 exact rfl); intro)) | (apply R.is0; (apply R.store; (iterate 3 exact rfl); (exact (rfl : cellsE (.agg ⟨x.v⟩) = some x.v)); exact SE.v_len _; exact SE.v_all _; exact Upd.head; exact SE.set9 _ _ rfl)) | (apply R.isG; (apply R.guard_not; (iterate 3 exact rfl))) | apply R.nil | (apply T.is; first | apply T.seq | apply T.region | apply T.block | apply T.skip | (apply T.cond_t; exact rfl) | (apply T.cond_f; exact rfl)))
          refine ⟨(i + 1, ov, ns), ⟨by simp only; omega, hov, hns, by rw [hsn]; exact hsay⟩, by simp only; omega, ⟨rfl, rfl, rfl, rfl, rfl, trivial⟩, ?_⟩
          simp only [hNX]
          (focus ((repeat' (first | exact Ext.one _ _ | exact Ext.here _ _ | exact Ext.all _ | apply Keep.cons | apply Keep.app | apply Keep.last | apply Ext.cons)); done))
        | true =>
          rw [hop, Bool.true_and] at hsn
          have hov5 : x.v[5]? = some (.bool true) := by rw [← hop]; rfl
          have hv0 : x.v[0]? = some (.int .i64 x.o) := rfl
          have hv1 : x.v[1]? = some (.int .i64 x.r) := rfl
          have hv2 : x.v[2]? = some (.int .i64 x.ver) := rfl
          have hv4 : x.v[4]? = some (.slice (ovp x.vov) x.val.length (ovc x.vov x.val.length)) := by rw [← slV_eq hvok]; rfl
          by_cases hA : andI .i64 (mask / (pw x.r.toNat)) 1 = 1
          · have hin : inM mask x.r = true := decide_eq_true hA
            rw [hin, if_pos rfl] at hsn
            have hcl := fun w1 h1 => clone_ok (ovp x.vov) x.val.length (ovc x.vov x.val.length) x.val rfl (by omega) w1 h1
            repeat' (first | (apply R.is1; first | (apply R.isBin; (apply R.pure; exact rfl; first | (apply Ok1.shr; exact rfl; exact rfl; omega; (focus (show _ ≤ 64; omega)); exact rfl) | (apply Ok1.andK; exact rfl; exact rfl) | (apply Ok1.add64; exact rfl; exact rfl; omega; omega) | (apply Ok1.lss_t; exact rfl; exact rfl; omega) | (apply Ok1.eql_t; exact rfl; exact rfl; omega))) | (apply R.pure; exact rfl; first | (apply Ok1.load; exact rfl; first | (apply Ld.ownrowk (f := 0) (us := x.v); (focus ((repeat' (first | exact At.head | apply At.tail | apply At.right)); done)); exact SE.v_len; exact hx; (focus ((simp; done))); exact rfl; exact rfl; exact SE.sub9 _) | (apply Ld.own1; exact rfl; exact rfl; exact At.head; first | exact hov5 | exact hv1)) | (apply Ok1.move; exact rfl) | (apply Ok1.fieldAddr; (iterate 5 exact rfl)) | (apply Ok1.indexAddr; (iterate 5 exact rfl); omega; omega) | (apply Ok1.pick_t; exact rfl; exact rfl)) | (apply R.alloc; (iterate 3 exact rfl); intro)) | (apply R.is0; (apply R.store; (iterate 3 exact rfl); (exact (rfl : cellsE (.agg ⟨x.v⟩) = some x.v)); exact SE.v_len _; exact SE.v_all _; exact Upd.head; exact SE.set9 _ _ rfl)) | (apply R.isG; (apply R.guard_run; exact rfl; exact rfl)) | apply R.nil | (apply T.is; first | (apply T.drawC (id := 6) [0] (by decide); ((apply A.take 0; exact rfl; exact rfl; kernel_rfl; kernel_rfl; kernel_rfl; (apply Ok1.move; exact rfl)) <;> (apply A.take 1; exact rfl; exact rfl; kernel_rfl; kernel_rfl; kernel_rfl; (apply Ok1.fieldAddr; (iterate 5 exact rfl))) <;> (apply A.take 2; exact rfl; exact rfl; kernel_rfl; kernel_rfl; kernel_rfl; (apply Ok1.fieldAddr; (iterate 5 exact rfl))) <;> (apply A.take 3; exact rfl; exact rfl; kernel_rfl; kernel_rfl; kernel_rfl; (apply Ok1.load; exact rfl; (apply Ld.own1; exact rfl; exact rfl; exact At.head; exact hv0))) <;> (apply A.take 4; exact rfl; exact rfl; kernel_rfl; kernel_rfl; kernel_rfl; (apply Ok1.fieldAddr; (iterate 5 exact rfl))) <;> (apply A.take 5; exact rfl; exact rfl; kernel_rfl; kernel_rfl; kernel_rfl; (apply Ok1.fieldAddr; (iterate 5 exact rfl))) <;> (apply A.take 6; exact rfl; exact rfl; kernel_rfl; kernel_rfl; kernel_rfl; (apply Ok1.load; exact rfl; (apply Ld.own1; exact rfl; exact rfl; exact At.head; exact hv1))) <;> (apply A.take 7; exact rfl; exact rfl; kernel_rfl; kernel_rfl; kernel_rfl; (apply Ok1.fieldAddr; (iterate 5 exact rfl))) <;> (apply A.take 8; exact rfl; exact rfl; kernel_rfl; kernel_rfl; kernel_rfl; (apply Ok1.fieldAddr; (iterate 5 exact rfl))) <;> (apply A.take 9; exact rfl; exact rfl; kernel_rfl; kernel_rfl; kernel_rfl; (apply Ok1.load; exact rfl; (apply Ld.own1; exact rfl; exact rfl; exact At.head; exact hv2))) <;> (apply A.take 10; exact rfl; exact rfl; kernel_rfl; kernel_rfl; kernel_rfl; (apply Ok1.fieldAddr; (iterate 5 exact rfl))) <;> (apply A.take 11; exact rfl; exact rfl; kernel_rfl; kernel_rfl; kernel_rfl; (apply Ok1.load; exact rfl; (apply Ld.own1; exact rfl; exact rfl; exact At.head; exact hv4))) <;> (apply A.one 12; kernel_rfl; exact rfl; (((apply R.callE (vs := [.slice (ovp x.vov) x.val.length (ovc x.vov x.val.length)]); (iterate 3 exact rfl); exact Ext.none _; intro w1 hw1; exact hcl w1 (hSm1 _ w1 hw1 (Ext.mem (by (focus ((repeat' (first | exact Ext.all _ | apply Ext.cons | apply Ext.app)); done))))); rintro v Lo ⟨ov8, hov8, hsome, rfl, rfl⟩; rw [slV_eq hov8]))); apply R.nil; refine ⟨?_, ?_⟩; (focus ((repeat' (first | exact trivial | (refine ⟨?_, ?_⟩; (focus ((repeat' (first | exact At.head | apply At.right)); done)))))))) <;> (apply A.take 13; exact rfl; exact rfl; kernel_rfl; kernel_rfl; kernel_rfl; (apply Ok1.build; (iterate 5 exact rfl))) <;> (apply A.one 14; kernel_rfl; exact rfl; (((apply R.buildSlice; (iterate 12 exact rfl); intro))); apply R.nil; refine ⟨?_, ?_⟩; (focus ((repeat' (first | exact trivial | (refine ⟨?_, ?_⟩; (focus ((repeat' (first | exact At.head | apply At.tail | apply At.right)); done)))))))) <;> (apply A.one 15; kernel_rfl; exact rfl; (((apply R.appendRd (xs := [⟨x.o, x.r, x.ver, ov8, x.val⟩]) (v := NE.v) (sz := 4) (ov := ov) (n := ns.length) (old := fl NE.v ns); (iterate 12 exact rfl); exact hov; (focus ((repeat' (first | exact Ext.here _ _ | apply Ext.cons | apply Ext.app)); done)); exact rfl; exact NE.v_len; exact rfl; (intro w1 hw1; exact RdSl.of (junk := []) hw1 (by exact At.head) (by simp [fl, NE.v, slV_eq hov8])); (exact fl1N_all _); omega; intro ov1 hov1 hsome1))); apply R.nil; refine ⟨?_, ?_⟩; (focus ((repeat' (first | exact trivial | (refine ⟨?_, ?_⟩; (focus ((repeat' (first | exact At.head | apply At.tail | apply At.right)); done)))))))) <;> (apply A.take 16; exact rfl; exact rfl; kernel_rfl; kernel_rfl; kernel_rfl; (apply Ok1.assign; exact rfl)) <;> (apply A.done; kernel_rfl))) | apply T.seq | apply T.region | apply T.block | apply T.skip | (apply T.cond_t; exact rfl)))
            have hls : (ns ++ [(⟨x.o, x.r, x.ver, ov8, x.val⟩ : NE)]).length = ns.length + 1 := by simp
            have hfl : fl NE.v (ns ++ [(⟨x.o, x.r, x.ver, ov8, x.val⟩ : NE)]) = fl NE.v ns ++ fl NE.v [(⟨x.o, x.r, x.ver, ov8, x.val⟩ : NE)] := fl_app _ _ _
            have hnx : NX (ns ++ [(⟨x.o, x.r, x.ver, ov8, x.val⟩ : NE)]) = LN ++ blkL 5 ov8 (u8s x.val) := by rw [NX_app, hNX]; simp [NX]
            refine ⟨(i + 1, ov1, ns ++ [⟨x.o, x.r, x.ver, ov8, x.val⟩]), ?_⟩
            simp only [hls, hfl, hnx]
            refine ⟨⟨by omega, hov1, ?_, ?_⟩, by omega, ⟨rfl, rfl, rfl, rfl, rfl, trivial⟩, ?_⟩
            · intro y hy
              rcases List.mem_append.1 hy with h9 | h9
              · exact hns y h9
              · rw [List.mem_singleton.1 h9]
                exact hov8
            · rw [List.map_append, hsay, hsn]
              rfl
            · simp only [List.append_assoc]
              (focus ((repeat' (first | exact Ext.one _ _ | exact Ext.here _ _ | exact Ext.all _ | apply Keep.cons | apply Keep.app | apply Keep.last | apply Ext.cons | apply Ext.app)); done))
          · have hin : inM mask x.r = false := decide_eq_false hA
            rw [hin, if_neg (by simp)] at hsn
            repeat' (first | (apply R.is1; first | (apply R.isBin; (apply R.pure; exact rfl; first | (apply Ok1.shr; exact rfl; exact rfl; omega; (focus (show _ ≤ 64; omega)); exact rfl) | (apply Ok1.andK; exact rfl; exact rfl) | (apply Ok1.add64; exact rfl; exact rfl; omega; omega) | (apply Ok1.lss_t; exact rfl; exact rfl; omega) | (apply Ok1.eql_f; exact rfl; exact rfl; omega))) | (apply R.pure; exact rfl; first | (apply Ok1.load; exact rfl; first | (apply Ld.ownrowk (f := 0) (us := x.v); (focus ((repeat' (first | exact At.head | apply At.tail | apply At.right)); done)); exact SE.v_len; exact hx; (focus ((simp; done))); exact rfl; exact rfl; exact SE.sub9 _) | (apply Ld.own1; exact rfl; exact rfl; exact At.head; first | exact hov5 | exact hv1)) | (apply Ok1.move; exact rfl) | (apply Ok1.fieldAddr; (iterate 5 exact rfl)) | (apply Ok1.indexAddr; (iterate 5 exact rfl); omega; omega) | (apply Ok1.pick_t; exact rfl; exact rfl)) | (apply R.alloc; (iterate 3 exact rfl); intro)) | (apply R.is0; (apply R.store; (iterate 3 exact rfl); (exact (rfl : cellsE (.agg ⟨x.v⟩) = some x.v)); exact SE.v_len _; exact SE.v_all _; exact Upd.head; exact SE.set9 _ _ rfl)) | (apply R.isG; (apply R.guard_run; exact rfl; exact rfl)) | apply R.nil | (apply T.is; first | apply T.seq | apply T.region | apply T.block | apply T.skip | (apply T.cond_t; exact rfl) | (apply T.cond_f; exact rfl)))
            refine ⟨(i + 1, ov, ns), ⟨by simp only; omega, hov, hns, by rw [hsn]; exact hsay⟩, by simp only; omega, ⟨rfl, rfl, rfl, rfl, rfl, trivial⟩, ?_⟩
            simp only [hNX]
            (focus ((repeat' (first | exact Ext.one _ _ | exact Ext.here _ _ | exact Ext.all _ | apply Keep.cons | apply Keep.app | apply Keep.last | apply Ext.cons)); done))
      · have him : i = rs.length := by omega
        subst him
        rw [List.take_length] at hsay
        repeat' (first | (apply R.is1; first | (apply R.isBin; (apply R.pure; exact rfl; (apply Ok1.lss_f; exact rfl; exact rfl; omega))) | (apply R.pure; exact rfl; first | (apply Ok1.move; exact rfl) | (apply Ok1.assign; exact rfl))) | apply R.nil | (apply T.is; first | apply T.seq | apply T.region | apply T.exit | apply T.ret | (apply T.cond_f; exact rfl)))
        (apply RetOk.t; exact rfl)
        refine ⟨_, ?_, rs, ov, ns, hp, hasc, hov, hns, hsay, rfl, rfl⟩
        (focus ((repeat' (first | exact Ext.here _ _ | exact Ext.all _ | apply Keep.app | apply Keep.last | apply Ext.cons)); done))
end Go.Proofs.YtligngjcnlbgmaaGreat
set_option linter.unusedSimpArgs false
set_option linter.unusedVariables false
namespace Go.Proofs.YtligngjcnlbgmaaGreat
open Go.RowKit Go.Shelf Go.Sort
set_option maxRecDepth 100000
section
variable {κ α β : Type} [DecidableEq κ]
end
theorem mset_len9 {κ α : Type} [DecidableEq κ] (k : κ) (a : α) (ms : Ms κ α) : (mset k a ms).length = ms.length := by
  have := congrArg List.length (mset_keys k a ms)
  simpa [mkeys] using this
theorem mget_mem9 {κ α : Type} [DecidableEq κ] {k : κ} {a : α} : ∀ {ms : Ms κ α}, mget k ms = some a → ∃ b, (k, a, b) ∈ ms
  | [], h => by simp [mget] at h
  | x :: r, h => by
    simp only [mget] at h
    by_cases hx : x.1 = k
    · rw [if_pos hx] at h
      cases h
      exact ⟨x.2.2, by rw [← hx]; exact List.mem_cons_self⟩
    · rw [if_neg hx] at h
      obtain ⟨b, hb⟩ := mget_mem9 h
      exact ⟨b, List.mem_cons_of_mem _ hb⟩
/-- What of an entry is seen through a mask. -/
def vis (mask : Int) (e : SE) : Int × Int × Int × Nat × Bool × List Int × List Int := (e.o, e.r, e.ver, e.body.length, e.op, if inM mask e.r = true then e.body else [], if inM mask e.r = true then e.val else [])
theorem SOk.put {ms : SMs} {clk : Nat} (h : SOk ms clk) (e : SE) (h1 : HRt e.o e.r e.ver) (h2 : OvOk 1 e.bov e.body.length (u8s e.body)) (h3 : OvOk 1 e.vov e.val.length (u8s e.val)) (h4 : e.body.length ≤ 96) (h5 : e.val.length ≤ 96) : SOk (putM ms clk (e.o, e.r) e).1 (putM ms clk (e.o, e.r) e).2 := by
  unfold putM
  cases hg : mget (e.o, e.r) ms with
  | some a =>
    have hall : ∀ (P : (Int × Int) × SE × Nat → Prop), (∀ x ∈ ms, P x) → (∀ b, P ((e.o, e.r), e, b)) → ∀ x ∈ mset (e.o, e.r) e ms, P x := by
      intro P hp hq x hx
      rcases mset_mem hx with h9 | ⟨h9, h8, _⟩
      · exact hp x h9
      · obtain ⟨k, v, b⟩ := x
        simp only at h9 h8
        subst h9 h8
        exact hq b
    refine ⟨h.wf.set _ _, hall _ h.key (fun _ => rfl), hall _ h.hrt (fun _ => h1), hall _ h.bok (fun _ => h2), hall _ h.vok (fun _ => h3), hall _ h.blen (fun _ => h4), hall _ h.vlen (fun _ => h5), ?_⟩
    rw [mset_len9]
    exact h.few
  | none =>
    by_cases h64 : ms.length = 64
    · simp only [if_pos h64]; exact h
    · simp only [if_neg h64]
      have hall : ∀ (P : (Int × Int) × SE × Nat → Prop), (∀ x ∈ ms, P x) → (∀ b, P ((e.o, e.r), e, b)) → ∀ x ∈ ms ++ [((e.o, e.r), e, clk)], P x := by
        intro P hp hq x hx
        rcases List.mem_append.1 hx with h9 | h9
        · exact hp x h9
        · rw [List.mem_singleton.1 h9]; exact hq _
      refine ⟨h.wf.snoc hg, hall _ h.key (fun _ => rfl), hall _ h.hrt (fun _ => h1), hall _ h.bok (fun _ => h2), hall _ h.vok (fun _ => h3), hall _ h.blen (fun _ => h4), hall _ h.vlen (fun _ => h5), ?_⟩
      have := h.few
      rw [List.length_append, List.length_singleton]
      omega
theorem SOk.nil : SOk [] 0 := ⟨MWf.nil, by simp, by simp, by simp, by simp, by simp, by simp, by simp⟩
theorem SOk.ver {ms : SMs} {clk : Nat} (h : SOk ms clk) : ∀ k a, mget k ms = some a → a.ver ≠ 0 := by
  intro k a hg
  obtain ⟨b, hb⟩ := mget_mem9 hg
  have := (h.hrt _ hb).2.2.2.2.1
  simp only at this
  omega
end Go.Proofs.YtligngjcnlbgmaaGreat
set_option linter.unusedSimpArgs false
set_option linter.unusedVariables false
namespace Go.Proofs.YtligngjcnlbgmaaGreat
open Go.RowKit Go.Shelf
set_option maxRecDepth 100000
theorem ovc_le9 {sz n : Nat} {ov : Ov} {xs : List Value} (h : OvOk sz ov n xs) : n ≤ ovc ov n := by
  obtain ⟨_, h⟩ := h
  cases ov with
  | none => simp only at h; simp [ovc, h]
  | some y => simp [ovc]
theorem cut26_ok (p : Option Addr) (n cap : Nat) (xs : List Int) (hn : n = xs.length) (hcap : n ≤ cap) (k : Nat) (hk : k ≤ 1000) (w : World) (hp : RdSl w p u8V xs) : CallM Tryz.prog 6 [.slice p n cap, .int .i64 k] [] w fun v L => ∃ ov, OvOk 1 ov (xs.take k).length (u8s (xs.take k)) ∧ v = slV ov (xs.take k).length ∧ L = blkL 5 ov (u8s (xs.take k)) := by
  subst hn
  have hmin : (min (xs.length : Int) k) = ((min xs.length k : Nat) : Int) := by omega
  have hl : (xs.take k).length = min xs.length k := by rw [List.length_take]; omega
  have hp2 := hp.pre u8V_len k
  generalize hys : xs.take k = ys at *
  refine enterK (tb := tb) Tryz.func6 rfl Tryz.ntmps6 rfl ?_
  repeat' (first | (apply R.is1; first | (apply R.buildSlice0; (iterate 4 exact rfl); intro b0) | (apply R.isCall; first | (apply R.pure; exact rfl; apply Ok1.min2E; exact rfl; exact rfl; exact hmin) | (apply R.appendRd (xs := ys) (v := u8V) (sz := 1) (ov := some (_, 0, [])) (n := 0) (old := []) (m := min xs.length k); (iterate 12 exact rfl); exact ⟨rfl, rfl⟩; (focus ((repeat' (exact Ext.one _ _)); done)); exact hl.symm; exact u8V_len; exact rfl; (intro w1 hw1; exact hp2.chg hw1.chg (Off.nil _)); (focus (rw [fl_u8]; exact u8s_one _)); omega; intro ov1 hov1 hsome) | (apply R.pure; exact rfl; (apply Ok1.lenS; (iterate 3 exact rfl)))) | (apply R.pure; exact rfl; first | (apply Ok1.preR (i := min xs.length k); (iterate 5 exact rfl); omega) | (apply Ok1.move; exact rfl) | (apply Ok1.assign; exact rfl))) | apply R.nil | (apply T.is; first | apply T.seq | apply T.region | apply T.ret))
  rw [Nat.zero_add, List.nil_append, fl_u8, ← hl] at hov1
  rw [Nat.zero_add, List.nil_append, fl_u8, ← hl]
  repeat' (fail)
  (apply RetOk.t; exact rfl)
  refine ⟨_, ?_, ov1, hov1, rfl, rfl⟩
  (focus ((repeat' (first | exact Ext.here _ _ | apply Keep.last)); done))
theorem note26_ok (o r v : Int) (p : Option Addr) (n cap : Nat) (xs : List Int) (hn : n = xs.length) (hcap : n ≤ cap) (w : World) (hp : RdSl w p u8V xs) : CallM Tryz.prog 9 [.agg ⟨ntC o r v p n cap⟩] [] w fun x L => ∃ ov, OvOk 1 ov (xs.take 70).length (u8s (xs.take 70)) ∧ x = .agg ⟨ntC o r v (ovp ov) (xs.take 70).length (ovc ov (xs.take 70).length)⟩ ∧ L = blkL 5 ov (u8s (xs.take 70)) := by
  have hc := fun w1 (h : Chg [] w w1) => cut26_ok p n cap xs hn hcap 70 (by decide) w1 (hp.chg' h (fun _ => Off.nil _))
  generalize xs.take 70 = ys at *
  refine enterK (tb := tb) Tryz.func9 rfl Tryz.ntmps9 rfl ?_
  simp only [ntC]
  repeat' (first | (apply R.is1; first | (apply R.box; (iterate 3 exact rfl); intro) | (apply R.alloc; (iterate 3 exact rfl); intro)) | apply R.nil | (apply T.is; first | (apply T.drawC (id := 1) [1] (by decide); ((apply A.take 0; exact rfl; exact rfl; kernel_rfl; kernel_rfl; kernel_rfl; (apply Ok1.fieldAddr; (iterate 5 exact rfl))) <;> (apply A.take 1; exact rfl; exact rfl; kernel_rfl; kernel_rfl; kernel_rfl; (apply Ok1.load; exact rfl; (apply Ld.own1; exact rfl; exact rfl; exact At.head; exact rfl))) <;> (apply A.take 2; exact rfl; exact rfl; kernel_rfl; kernel_rfl; kernel_rfl; (apply Ok1.fieldAddr; (iterate 5 exact rfl))) <;> (apply A.take 3; exact rfl; exact rfl; kernel_rfl; kernel_rfl; kernel_rfl; (apply Ok1.load; exact rfl; (apply Ld.own1; exact rfl; exact rfl; exact At.head; exact rfl))) <;> (apply A.take 4; exact rfl; exact rfl; kernel_rfl; kernel_rfl; kernel_rfl; (apply Ok1.fieldAddr; (iterate 5 exact rfl))) <;> (apply A.take 5; exact rfl; exact rfl; kernel_rfl; kernel_rfl; kernel_rfl; (apply Ok1.load; exact rfl; (apply Ld.own1; exact rfl; exact rfl; exact At.head; exact rfl))) <;> (apply A.take 6; exact rfl; exact rfl; kernel_rfl; kernel_rfl; kernel_rfl; (apply Ok1.fieldAddr; (iterate 5 exact rfl))) <;> (apply A.take 7; exact rfl; exact rfl; kernel_rfl; kernel_rfl; kernel_rfl; (apply Ok1.load; exact rfl; (apply Ld.own1; exact rfl; exact rfl; exact At.head; exact rfl))) <;> (apply A.one 8; kernel_rfl; exact rfl; (((apply R.callE (vs := [.slice p n cap, .int .i64 70]); (iterate 3 exact rfl); exact Ext.none _; intro w1 hw1; exact hc w1 hw1.chg; rintro v Lo ⟨ov1, hov1, rfl, rfl⟩; rw [slV_eq hov1]))); apply R.nil; refine ⟨?_, ?_⟩; (focus ((repeat' (first | exact trivial | (refine ⟨?_, ?_⟩; (focus ((repeat' (first | exact At.head | apply At.tail | apply At.right)); done)))))))) <;> (apply A.take 9; exact rfl; exact rfl; kernel_rfl; kernel_rfl; kernel_rfl; (apply Ok1.build; (iterate 5 exact rfl))) <;> (apply A.one 10; kernel_rfl; exact rfl; (((apply R.store; (iterate 6 exact rfl); (focus ((repeat' (first | exact Upd.head | apply Upd.right)); done)); exact rfl))); apply R.nil; refine ⟨?_, ?_⟩; (focus ((repeat' (first | exact trivial | (refine ⟨?_, ?_⟩; (focus ((repeat' (first | exact At.head | apply At.tail | apply At.right)); done)))))))) <;> (apply A.done; kernel_rfl))) | apply T.seq | apply T.region | apply T.ret))
  (apply RetOk.c; exact rfl; ((apply Ld.ownk; exact rfl; exact rfl; (focus ((repeat' (first | exact At.head | apply At.right)); done)); exact rfl)))
  exact ⟨_, by (focus ((repeat' (first | exact Ext.here _ _ | apply Keep.last)); done)), ov1, hov1, rfl, rfl⟩
/-- A note as it is read: its value lies somewhere. -/
structure NT where
  o : Int
  r : Int
  ver : Int
  p : Option Addr
  cap : Nat
  xs : List Int
instance : Inhabited NT := ⟨⟨0, 0, 0, none, 0, []⟩⟩
def NT.v (e : NT) : List Value := [.int .i64 e.o, .int .i64 e.r, .int .i64 e.ver, .slice e.p e.xs.length e.cap]
theorem NT.v_len (e : NT) : e.v.length = 4 := rfl
def NT.say (e : NT) : Int × Int × Int × List Int := (e.o, e.r, e.ver, e.xs)
def NE.nt (e : NE) : NT := ⟨e.o, e.r, e.ver, ovp e.ov, ovc e.ov e.xs.length, e.xs⟩
theorem notes_ok (p : Option Addr) (n cap : Nat) (rs : List NT) (hn : n = rs.length) (hl : rs.length ≤ 100) (w : World) (hp : RdSl w p NT.v rs) : CallM Tryz.prog 12 [.slice p n cap] [] w fun v L => ∃ ov, OvOk 4 ov n (fl NT.v rs) ∧ v = slV ov n ∧ L = blkL 24 ov (fl NT.v rs) := by
  subst hn
  refine enterK (tb := tb) Tryz.func12 rfl Tryz.ntmps12 rfl ?_
  repeat' (first | (apply R.is1; (apply R.pure; exact rfl; (apply Ok1.assign; exact rfl))) | apply R.nil | (apply T.is; first | apply T.seq | apply T.region | apply T.block))
  apply T.loopK (α := Nat × Ov) (I := fun y => y.1 ≤ rs.length ∧ OvOk 4 y.2 y.1 (fl NT.v (rs.take y.1))) (σi := fun y => [(0, .slice p rs.length cap), (3, slV y.2 y.1), (4, .int .i64 y.1)]) (Li := fun y => blkL 24 y.2 (fl NT.v (rs.take y.1))) (μ := fun y => rs.length - y.1) (i0 := (0, none))
  · exact ⟨Nat.zero_le _, OvOk.start 4⟩
  · exact ⟨rfl, rfl, rfl, trivial⟩
  · (focus ((repeat' (exact Keep.nil _)); done))
  · rintro ⟨i, ov⟩ ⟨hi, hov⟩
    simp only at hi hov ⊢
    rcases Nat.lt_or_ge i rs.length with hlt | hge
    · obtain ⟨r, hr⟩ : ∃ r, rs[i]? = some r := ⟨_, List.getElem?_eq_getElem (by omega)⟩
      obtain ⟨b, o, hpe, H⟩ := hp.at hr
      replace H := H 4 NT.v_len
      repeat' (first | (apply R.is1; first | (apply R.isBin; (apply R.pure; exact rfl; first | (apply Ok1.add64; exact rfl; exact rfl; omega; omega) | (apply Ok1.lss_t; exact rfl; exact rfl; omega))) | (apply R.isCall; (apply R.pure; exact rfl; (apply Ok1.lenS; (iterate 3 exact rfl)))) | (apply R.pure; exact rfl; first | (apply Ok1.move; exact rfl) | (apply Ok1.assign; exact rfl))) | apply R.nil | (apply T.is; first | (apply T.drawC (id := 5) [] (by decide); (((apply A.take 0; exact rfl; exact rfl; kernel_rfl; kernel_rfl; kernel_rfl; (apply Ok1.move; exact rfl)); refine A.cast (listed' := #[true, false, false, false, false, false, false, false, false, false, false, false, false, false, false, false, false, false, false, false, false, false, false, false, false]) (by kernel_rfl) ?_) <;> ((apply A.take 1; exact rfl; exact rfl; kernel_rfl; kernel_rfl; kernel_rfl; (apply Ok1.move; exact rfl)); refine A.cast (listed' := #[true, true, false, false, false, false, false, false, false, false, false, false, false, false, false, false, false, false, false, false, false, false, false, false, false]) (by kernel_rfl) ?_) <;> ((apply A.take 2; exact rfl; exact rfl; kernel_rfl; kernel_rfl; kernel_rfl; (apply Ok1.move; exact rfl)); refine A.cast (listed' := #[true, true, true, false, false, false, false, false, false, false, false, false, false, false, false, false, false, false, false, false, false, false, false, false, false]) (by kernel_rfl) ?_) <;> ((apply A.take 3; exact rfl; exact rfl; kernel_rfl; kernel_rfl; kernel_rfl; (apply Ok1.indexAddrP; (iterate 4 exact rfl); exact hpe; exact rfl; omega; omega)); refine A.cast (listed' := #[true, true, true, true, false, false, false, false, false, false, false, false, false, false, false, false, false, false, false, false, false, false, false, false, false]) (by kernel_rfl) ?_) <;> ((apply A.take 4; exact rfl; exact rfl; kernel_rfl; kernel_rfl; kernel_rfl; (apply Ok1.fieldAddr; (iterate 5 exact rfl))); refine A.cast (listed' := #[true, true, true, true, true, false, false, false, false, false, false, false, false, false, false, false, false, false, false, false, false, false, false, false, false]) (by kernel_rfl) ?_) <;> ((apply A.take 5; exact rfl; exact rfl; kernel_rfl; kernel_rfl; kernel_rfl; (apply Ok1.load; exact rfl; (apply Ld.row0 H; exact rfl; exact List.not_mem_nil; (iterate 3 exact rfl)))); refine A.cast (listed' := #[true, true, true, true, true, true, false, false, false, false, false, false, false, false, false, false, false, false, false, false, false, false, false, false, false]) (by kernel_rfl) ?_) <;> ((apply A.take 6; exact rfl; exact rfl; kernel_rfl; kernel_rfl; kernel_rfl; (apply Ok1.move; exact rfl)); refine A.cast (listed' := #[true, true, true, true, true, true, true, false, false, false, false, false, false, false, false, false, false, false, false, false, false, false, false, false, false]) (by kernel_rfl) ?_) <;> ((apply A.take 7; exact rfl; exact rfl; kernel_rfl; kernel_rfl; kernel_rfl; (apply Ok1.move; exact rfl)); refine A.cast (listed' := #[true, true, true, true, true, true, true, true, false, false, false, false, false, false, false, false, false, false, false, false, false, false, false, false, false]) (by kernel_rfl) ?_) <;> ((apply A.take 8; exact rfl; exact rfl; kernel_rfl; kernel_rfl; kernel_rfl; (apply Ok1.indexAddrP; (iterate 4 exact rfl); exact hpe; exact rfl; omega; omega)); refine A.cast (listed' := #[true, true, true, true, true, true, true, true, true, false, false, false, false, false, false, false, false, false, false, false, false, false, false, false, false]) (by kernel_rfl) ?_) <;> ((apply A.take 9; exact rfl; exact rfl; kernel_rfl; kernel_rfl; kernel_rfl; (apply Ok1.fieldAddr; (iterate 5 exact rfl))); refine A.cast (listed' := #[true, true, true, true, true, true, true, true, true, true, false, false, false, false, false, false, false, false, false, false, false, false, false, false, false]) (by kernel_rfl) ?_) <;> ((apply A.take 10; exact rfl; exact rfl; kernel_rfl; kernel_rfl; kernel_rfl; (apply Ok1.load; exact rfl; (apply Ld.row1 H; exact rfl; exact List.not_mem_nil; (iterate 3 exact rfl)))); refine A.cast (listed' := #[true, true, true, true, true, true, true, true, true, true, true, false, false, false, false, false, false, false, false, false, false, false, false, false, false]) (by kernel_rfl) ?_) <;> ((apply A.take 11; exact rfl; exact rfl; kernel_rfl; kernel_rfl; kernel_rfl; (apply Ok1.move; exact rfl)); refine A.cast (listed' := #[true, true, true, true, true, true, true, true, true, true, true, true, false, false, false, false, false, false, false, false, false, false, false, false, false]) (by kernel_rfl) ?_) <;> ((apply A.take 12; exact rfl; exact rfl; kernel_rfl; kernel_rfl; kernel_rfl; (apply Ok1.move; exact rfl)); refine A.cast (listed' := #[true, true, true, true, true, true, true, true, true, true, true, true, true, false, false, false, false, false, false, false, false, false, false, false, false]) (by kernel_rfl) ?_) <;> ((apply A.take 13; exact rfl; exact rfl; kernel_rfl; kernel_rfl; kernel_rfl; (apply Ok1.indexAddrP; (iterate 4 exact rfl); exact hpe; exact rfl; omega; omega)); refine A.cast (listed' := #[true, true, true, true, true, true, true, true, true, true, true, true, true, true, false, false, false, false, false, false, false, false, false, false, false]) (by kernel_rfl) ?_) <;> ((apply A.take 14; exact rfl; exact rfl; kernel_rfl; kernel_rfl; kernel_rfl; (apply Ok1.fieldAddr; (iterate 5 exact rfl))); refine A.cast (listed' := #[true, true, true, true, true, true, true, true, true, true, true, true, true, true, true, false, false, false, false, false, false, false, false, false, false]) (by kernel_rfl) ?_) <;> ((apply A.take 15; exact rfl; exact rfl; kernel_rfl; kernel_rfl; kernel_rfl; (apply Ok1.load; exact rfl; (apply Ld.row1 H; exact rfl; exact List.not_mem_nil; (iterate 3 exact rfl)))); refine A.cast (listed' := #[true, true, true, true, true, true, true, true, true, true, true, true, true, true, true, true, false, false, false, false, false, false, false, false, false]) (by kernel_rfl) ?_) <;> ((apply A.take 16; exact rfl; exact rfl; kernel_rfl; kernel_rfl; kernel_rfl; (apply Ok1.move; exact rfl)); refine A.cast (listed' := #[true, true, true, true, true, true, true, true, true, true, true, true, true, true, true, true, true, false, false, false, false, false, false, false, false]) (by kernel_rfl) ?_) <;> ((apply A.take 17; exact rfl; exact rfl; kernel_rfl; kernel_rfl; kernel_rfl; (apply Ok1.move; exact rfl)); refine A.cast (listed' := #[true, true, true, true, true, true, true, true, true, true, true, true, true, true, true, true, true, true, false, false, false, false, false, false, false]) (by kernel_rfl) ?_) <;> ((apply A.take 18; exact rfl; exact rfl; kernel_rfl; kernel_rfl; kernel_rfl; (apply Ok1.indexAddrP; (iterate 4 exact rfl); exact hpe; exact rfl; omega; omega)); refine A.cast (listed' := #[true, true, true, true, true, true, true, true, true, true, true, true, true, true, true, true, true, true, true, false, false, false, false, false, false]) (by kernel_rfl) ?_) <;> ((apply A.take 19; exact rfl; exact rfl; kernel_rfl; kernel_rfl; kernel_rfl; (apply Ok1.fieldAddr; (iterate 5 exact rfl))); refine A.cast (listed' := #[true, true, true, true, true, true, true, true, true, true, true, true, true, true, true, true, true, true, true, true, false, false, false, false, false]) (by kernel_rfl) ?_) <;> ((apply A.take 20; exact rfl; exact rfl; kernel_rfl; kernel_rfl; kernel_rfl; (apply Ok1.load; exact rfl; (apply Ld.row1 H; exact rfl; exact List.not_mem_nil; (iterate 3 exact rfl)))); refine A.cast (listed' := #[true, true, true, true, true, true, true, true, true, true, true, true, true, true, true, true, true, true, true, true, true, false, false, false, false]) (by kernel_rfl) ?_) <;> ((apply A.take 21; exact rfl; exact rfl; kernel_rfl; kernel_rfl; kernel_rfl; (apply Ok1.build; (iterate 5 exact rfl))); refine A.cast (listed' := #[true, true, true, true, true, true, true, true, true, true, true, true, true, true, true, true, true, true, true, true, true, true, false, false, false]) (by kernel_rfl) ?_) <;> (apply A.one 22; kernel_rfl; exact rfl; (((apply R.buildSlice; (iterate 12 exact rfl); intro))); apply R.nil; refine ⟨?_, ?_⟩; (focus ((repeat' (exact trivial))))) <;> (apply A.one 23; kernel_rfl; exact rfl; (((apply R.append1; (iterate 12 exact rfl); (focus ((repeat' (first | exact OwnAt.base hov | apply OwnAt.tail)); done)); exact At.head; exact rfl; exact rfl; omega; omega; intro b2 j2 k2 hj2))); apply R.nil; refine ⟨?_, ?_⟩; (focus ((repeat' (exact trivial))))) <;> ((apply A.take 24; exact rfl; exact rfl; kernel_rfl; kernel_rfl; kernel_rfl; (apply Ok1.assign; exact rfl)); refine A.cast (listed' := #[true, true, true, true, true, true, true, true, true, true, true, true, true, true, true, true, true, true, true, true, true, true, true, true, true]) (by kernel_rfl) ?_) <;> (apply A.done; kernel_rfl))) | apply T.seq | apply T.region | apply T.block | apply T.skip | (apply T.cond_t; exact rfl)))
      all_goals refine ⟨(i + 1, some (b2, j2, k2)), ⟨by simp only; omega, ?_⟩, by simp only; omega, ⟨rfl, rfl, rfl, trivial⟩, ?_⟩
      all_goals simp only [fl_take hr]
      all_goals first
        | exact hov.some rfl hj2
        | (simp only [ovp, ovc, blkL]; (focus ((repeat' (first | exact Keep.nil _ | exact Ext.one _ _ | apply Keep.cons)); done)))
    · have hm : i = rs.length := by omega
      subst hm
      rw [List.take_length] at hov ⊢
      repeat' (first | (apply R.is1; first | (apply R.isBin; (apply R.pure; exact rfl; (apply Ok1.lss_f; exact rfl; exact rfl; omega))) | (apply R.isCall; (apply R.pure; exact rfl; (apply Ok1.lenS; (iterate 3 exact rfl)))) | (apply R.pure; exact rfl; first | (apply Ok1.move; exact rfl) | (apply Ok1.assign; exact rfl))) | apply R.nil | (apply T.is; first | apply T.seq | apply T.region | apply T.exit | apply T.ret | (apply T.cond_f; exact rfl)))
      (apply RetOk.t; exact rfl)
      exact ⟨_, by (focus ((repeat' (first | exact Ext.all _ | apply Keep.last)); done)), ov, hov, rfl, rfl⟩
theorem of26_ok (p : Option Addr) (n cap : Nat) (rs : List NT) (hn : n = rs.length) (hl : rs.length ≤ 100) (w : World) (hp : RdSl w p NT.v rs) : CallM Tryz.prog 15 [.slice p n cap] [] w fun v L => ∃ ov, OvOk 4 ov n (fl NT.v rs) ∧ v = slV ov n ∧ L = blkL 26 ov (fl NT.v rs) := by
  subst hn
  refine enterK (tb := tb) Tryz.func15 rfl Tryz.ntmps15 rfl ?_
  repeat' (first | (apply R.is1; (apply R.pure; exact rfl; (apply Ok1.assign; exact rfl))) | apply R.nil | (apply T.is; first | apply T.seq | apply T.region | apply T.block))
  apply T.loopK (α := Nat × Ov) (I := fun y => y.1 ≤ rs.length ∧ OvOk 4 y.2 y.1 (fl NT.v (rs.take y.1))) (σi := fun y => [(0, .slice p rs.length cap), (3, slV y.2 y.1), (4, .int .i64 y.1)]) (Li := fun y => blkL 26 y.2 (fl NT.v (rs.take y.1))) (μ := fun y => rs.length - y.1) (i0 := (0, none))
  · exact ⟨Nat.zero_le _, OvOk.start 4⟩
  · exact ⟨rfl, rfl, rfl, trivial⟩
  · (focus ((repeat' (exact Keep.nil _)); done))
  · rintro ⟨i, ov⟩ ⟨hi, hov⟩
    simp only at hi hov ⊢
    rcases Nat.lt_or_ge i rs.length with hlt | hge
    · obtain ⟨r, hr⟩ : ∃ r, rs[i]? = some r := ⟨_, List.getElem?_eq_getElem (by omega)⟩
      obtain ⟨b, o, hpe, H⟩ := hp.at hr
      replace H := H 4 NT.v_len
      repeat' (first | (apply R.is1; first | (apply R.isBin; (apply R.pure; exact rfl; first | (apply Ok1.add64; exact rfl; exact rfl; omega; omega) | (apply Ok1.lss_t; exact rfl; exact rfl; omega))) | (apply R.isCall; (apply R.pure; exact rfl; (apply Ok1.lenS; (iterate 3 exact rfl)))) | (apply R.pure; exact rfl; first | (apply Ok1.move; exact rfl) | (apply Ok1.assign; exact rfl))) | apply R.nil | (apply T.is; first | (apply T.drawC (id := 5) [] (by decide); (((apply A.take 0; exact rfl; exact rfl; kernel_rfl; kernel_rfl; kernel_rfl; (apply Ok1.move; exact rfl)); refine A.cast (listed' := #[true, false, false, false, false, false, false, false, false, false, false, false, false, false, false, false, false, false, false, false, false, false, false, false, false]) (by kernel_rfl) ?_) <;> ((apply A.take 1; exact rfl; exact rfl; kernel_rfl; kernel_rfl; kernel_rfl; (apply Ok1.move; exact rfl)); refine A.cast (listed' := #[true, true, false, false, false, false, false, false, false, false, false, false, false, false, false, false, false, false, false, false, false, false, false, false, false]) (by kernel_rfl) ?_) <;> ((apply A.take 2; exact rfl; exact rfl; kernel_rfl; kernel_rfl; kernel_rfl; (apply Ok1.move; exact rfl)); refine A.cast (listed' := #[true, true, true, false, false, false, false, false, false, false, false, false, false, false, false, false, false, false, false, false, false, false, false, false, false]) (by kernel_rfl) ?_) <;> ((apply A.take 3; exact rfl; exact rfl; kernel_rfl; kernel_rfl; kernel_rfl; (apply Ok1.indexAddrP; (iterate 4 exact rfl); exact hpe; exact rfl; omega; omega)); refine A.cast (listed' := #[true, true, true, true, false, false, false, false, false, false, false, false, false, false, false, false, false, false, false, false, false, false, false, false, false]) (by kernel_rfl) ?_) <;> ((apply A.take 4; exact rfl; exact rfl; kernel_rfl; kernel_rfl; kernel_rfl; (apply Ok1.fieldAddr; (iterate 5 exact rfl))); refine A.cast (listed' := #[true, true, true, true, true, false, false, false, false, false, false, false, false, false, false, false, false, false, false, false, false, false, false, false, false]) (by kernel_rfl) ?_) <;> ((apply A.take 5; exact rfl; exact rfl; kernel_rfl; kernel_rfl; kernel_rfl; (apply Ok1.load; exact rfl; (apply Ld.row0 H; exact rfl; exact List.not_mem_nil; (iterate 3 exact rfl)))); refine A.cast (listed' := #[true, true, true, true, true, true, false, false, false, false, false, false, false, false, false, false, false, false, false, false, false, false, false, false, false]) (by kernel_rfl) ?_) <;> ((apply A.take 6; exact rfl; exact rfl; kernel_rfl; kernel_rfl; kernel_rfl; (apply Ok1.move; exact rfl)); refine A.cast (listed' := #[true, true, true, true, true, true, true, false, false, false, false, false, false, false, false, false, false, false, false, false, false, false, false, false, false]) (by kernel_rfl) ?_) <;> ((apply A.take 7; exact rfl; exact rfl; kernel_rfl; kernel_rfl; kernel_rfl; (apply Ok1.move; exact rfl)); refine A.cast (listed' := #[true, true, true, true, true, true, true, true, false, false, false, false, false, false, false, false, false, false, false, false, false, false, false, false, false]) (by kernel_rfl) ?_) <;> ((apply A.take 8; exact rfl; exact rfl; kernel_rfl; kernel_rfl; kernel_rfl; (apply Ok1.indexAddrP; (iterate 4 exact rfl); exact hpe; exact rfl; omega; omega)); refine A.cast (listed' := #[true, true, true, true, true, true, true, true, true, false, false, false, false, false, false, false, false, false, false, false, false, false, false, false, false]) (by kernel_rfl) ?_) <;> ((apply A.take 9; exact rfl; exact rfl; kernel_rfl; kernel_rfl; kernel_rfl; (apply Ok1.fieldAddr; (iterate 5 exact rfl))); refine A.cast (listed' := #[true, true, true, true, true, true, true, true, true, true, false, false, false, false, false, false, false, false, false, false, false, false, false, false, false]) (by kernel_rfl) ?_) <;> ((apply A.take 10; exact rfl; exact rfl; kernel_rfl; kernel_rfl; kernel_rfl; (apply Ok1.load; exact rfl; (apply Ld.row1 H; exact rfl; exact List.not_mem_nil; (iterate 3 exact rfl)))); refine A.cast (listed' := #[true, true, true, true, true, true, true, true, true, true, true, false, false, false, false, false, false, false, false, false, false, false, false, false, false]) (by kernel_rfl) ?_) <;> ((apply A.take 11; exact rfl; exact rfl; kernel_rfl; kernel_rfl; kernel_rfl; (apply Ok1.move; exact rfl)); refine A.cast (listed' := #[true, true, true, true, true, true, true, true, true, true, true, true, false, false, false, false, false, false, false, false, false, false, false, false, false]) (by kernel_rfl) ?_) <;> ((apply A.take 12; exact rfl; exact rfl; kernel_rfl; kernel_rfl; kernel_rfl; (apply Ok1.move; exact rfl)); refine A.cast (listed' := #[true, true, true, true, true, true, true, true, true, true, true, true, true, false, false, false, false, false, false, false, false, false, false, false, false]) (by kernel_rfl) ?_) <;> ((apply A.take 13; exact rfl; exact rfl; kernel_rfl; kernel_rfl; kernel_rfl; (apply Ok1.indexAddrP; (iterate 4 exact rfl); exact hpe; exact rfl; omega; omega)); refine A.cast (listed' := #[true, true, true, true, true, true, true, true, true, true, true, true, true, true, false, false, false, false, false, false, false, false, false, false, false]) (by kernel_rfl) ?_) <;> ((apply A.take 14; exact rfl; exact rfl; kernel_rfl; kernel_rfl; kernel_rfl; (apply Ok1.fieldAddr; (iterate 5 exact rfl))); refine A.cast (listed' := #[true, true, true, true, true, true, true, true, true, true, true, true, true, true, true, false, false, false, false, false, false, false, false, false, false]) (by kernel_rfl) ?_) <;> ((apply A.take 15; exact rfl; exact rfl; kernel_rfl; kernel_rfl; kernel_rfl; (apply Ok1.load; exact rfl; (apply Ld.row1 H; exact rfl; exact List.not_mem_nil; (iterate 3 exact rfl)))); refine A.cast (listed' := #[true, true, true, true, true, true, true, true, true, true, true, true, true, true, true, true, false, false, false, false, false, false, false, false, false]) (by kernel_rfl) ?_) <;> ((apply A.take 16; exact rfl; exact rfl; kernel_rfl; kernel_rfl; kernel_rfl; (apply Ok1.move; exact rfl)); refine A.cast (listed' := #[true, true, true, true, true, true, true, true, true, true, true, true, true, true, true, true, true, false, false, false, false, false, false, false, false]) (by kernel_rfl) ?_) <;> ((apply A.take 17; exact rfl; exact rfl; kernel_rfl; kernel_rfl; kernel_rfl; (apply Ok1.move; exact rfl)); refine A.cast (listed' := #[true, true, true, true, true, true, true, true, true, true, true, true, true, true, true, true, true, true, false, false, false, false, false, false, false]) (by kernel_rfl) ?_) <;> ((apply A.take 18; exact rfl; exact rfl; kernel_rfl; kernel_rfl; kernel_rfl; (apply Ok1.indexAddrP; (iterate 4 exact rfl); exact hpe; exact rfl; omega; omega)); refine A.cast (listed' := #[true, true, true, true, true, true, true, true, true, true, true, true, true, true, true, true, true, true, true, false, false, false, false, false, false]) (by kernel_rfl) ?_) <;> ((apply A.take 19; exact rfl; exact rfl; kernel_rfl; kernel_rfl; kernel_rfl; (apply Ok1.fieldAddr; (iterate 5 exact rfl))); refine A.cast (listed' := #[true, true, true, true, true, true, true, true, true, true, true, true, true, true, true, true, true, true, true, true, false, false, false, false, false]) (by kernel_rfl) ?_) <;> ((apply A.take 20; exact rfl; exact rfl; kernel_rfl; kernel_rfl; kernel_rfl; (apply Ok1.load; exact rfl; (apply Ld.row1 H; exact rfl; exact List.not_mem_nil; (iterate 3 exact rfl)))); refine A.cast (listed' := #[true, true, true, true, true, true, true, true, true, true, true, true, true, true, true, true, true, true, true, true, true, false, false, false, false]) (by kernel_rfl) ?_) <;> ((apply A.take 21; exact rfl; exact rfl; kernel_rfl; kernel_rfl; kernel_rfl; (apply Ok1.build; (iterate 5 exact rfl))); refine A.cast (listed' := #[true, true, true, true, true, true, true, true, true, true, true, true, true, true, true, true, true, true, true, true, true, true, false, false, false]) (by kernel_rfl) ?_) <;> (apply A.one 22; kernel_rfl; exact rfl; (((apply R.buildSlice; (iterate 12 exact rfl); intro))); apply R.nil; refine ⟨?_, ?_⟩; (focus ((repeat' (exact trivial))))) <;> (apply A.one 23; kernel_rfl; exact rfl; (((apply R.append1; (iterate 12 exact rfl); (focus ((repeat' (first | exact OwnAt.base hov | apply OwnAt.tail)); done)); exact At.head; exact rfl; exact rfl; omega; omega; intro b2 j2 k2 hj2))); apply R.nil; refine ⟨?_, ?_⟩; (focus ((repeat' (exact trivial))))) <;> ((apply A.take 24; exact rfl; exact rfl; kernel_rfl; kernel_rfl; kernel_rfl; (apply Ok1.assign; exact rfl)); refine A.cast (listed' := #[true, true, true, true, true, true, true, true, true, true, true, true, true, true, true, true, true, true, true, true, true, true, true, true, true]) (by kernel_rfl) ?_) <;> (apply A.done; kernel_rfl))) | apply T.seq | apply T.region | apply T.block | apply T.skip | (apply T.cond_t; exact rfl)))
      all_goals refine ⟨(i + 1, some (b2, j2, k2)), ⟨by simp only; omega, ?_⟩, by simp only; omega, ⟨rfl, rfl, rfl, trivial⟩, ?_⟩
      all_goals simp only [fl_take hr]
      all_goals first
        | exact hov.some rfl hj2
        | (simp only [ovp, ovc, blkL]; (focus ((repeat' (first | exact Keep.nil _ | exact Ext.one _ _ | apply Keep.cons)); done)))
    · have hm : i = rs.length := by omega
      subst hm
      rw [List.take_length] at hov ⊢
      repeat' (first | (apply R.is1; first | (apply R.isBin; (apply R.pure; exact rfl; (apply Ok1.lss_f; exact rfl; exact rfl; omega))) | (apply R.isCall; (apply R.pure; exact rfl; (apply Ok1.lenS; (iterate 3 exact rfl)))) | (apply R.pure; exact rfl; first | (apply Ok1.move; exact rfl) | (apply Ok1.assign; exact rfl))) | apply R.nil | (apply T.is; first | apply T.seq | apply T.region | apply T.exit | apply T.ret | (apply T.cond_f; exact rfl)))
      (apply RetOk.t; exact rfl)
      exact ⟨_, by (focus ((repeat' (first | exact Ext.all _ | apply Keep.last)); done)), ov, hov, rfl, rfl⟩
theorem samenotes_ok (p1 p2 : Option Addr) (n1 n2 c1 c2 : Nat) (qs bs : List NT) (hn1 : n1 = qs.length) (hn2 : n2 = bs.length) (hl : qs.length ≤ 100) (hxl : ∀ x ∈ qs, x.xs.length ≤ 1000) (w : World) (h1 : RdSl w p1 NT.v qs) (h2 : RdSl w p2 NT.v bs) (h3 : ∀ x ∈ qs, RdSl w x.p u8V x.xs) (h4 : ∀ x ∈ bs, RdSl w x.p u8V x.xs) : CallW Tryz.prog 16 [.slice p1 n1 c1, .slice p2 n2 c2] w fun v _ => v = .bool (decide (qs.map NT.say = bs.map NT.say)) := by
  subst hn1 hn2
  refine enterW (tb := tb) Tryz.func16 rfl Tryz.ntmps16 rfl ?_
  by_cases hll : qs.length = bs.length
  case neg =>
    have h9 : ((qs.length : Nat) : Int) ≠ bs.length := by omega
    repeat' (first | (apply R.is1; first | (apply R.isBin; (apply R.pure; exact rfl; (apply Ok1.neq_t; exact rfl; exact rfl; omega))) | (apply R.isCall; (apply R.pure; exact rfl; (apply Ok1.lenS; (iterate 3 exact rfl)))) | (apply R.pure; exact rfl; first | (apply Ok1.move; exact rfl) | (apply Ok1.assign; exact rfl))) | apply R.nil | (apply T.is; first | apply T.seq | apply T.region | apply T.ret | (apply T.cond_t; exact rfl)))
    (apply RetOk.t; exact rfl)
    rw [decide_eq_false]
    intro h
    have := congrArg List.length h
    rw [List.length_map, List.length_map] at this
    exact hll this
  have h9 : ((qs.length : Nat) : Int) = bs.length := by omega
  repeat' (first | (apply R.is1; first | (apply R.isBin; (apply R.pure; exact rfl; (apply Ok1.neq_f; exact rfl; exact rfl; omega))) | (apply R.isCall; (apply R.pure; exact rfl; (apply Ok1.lenS; (iterate 3 exact rfl)))) | (apply R.pure; exact rfl; first | (apply Ok1.move; exact rfl) | (apply Ok1.assign; exact rfl))) | apply R.nil | (apply T.is; first | apply T.seq | apply T.region | apply T.block | apply T.skip | (apply T.cond_f; exact rfl)))
  apply T.loopK (α := Nat) (I := fun i => i ≤ qs.length ∧ (qs.map NT.say).take i = (bs.map NT.say).take i) (σi := fun i => [(0, .slice p1 qs.length c1), (1, .slice p2 bs.length c2), (5, .int .i64 i)]) (Li := fun _ => []) (μ := fun i => qs.length - i) (i0 := 0)
  · exact ⟨by omega, by simp⟩
  · exact ⟨rfl, rfl, rfl, trivial⟩
  · exact Keep.nil _
  · rintro i ⟨hi, hsame⟩
    rcases Nat.lt_or_ge i qs.length with hlt | hge
    · obtain ⟨x, hx⟩ : ∃ r, qs[i]? = some r := ⟨_, List.getElem?_eq_getElem (by omega)⟩
      obtain ⟨y, hy⟩ : ∃ s, bs[i]? = some s := ⟨_, List.getElem?_eq_getElem (by omega)⟩
      obtain ⟨b, o, hpe, H⟩ := h1.at hx
      replace H := H 4 NT.v_len
      obtain ⟨b', o', hpe', H'⟩ := h2.at hy
      replace H' := H' 4 NT.v_len
      have hsm := fun w1 (hc : Chg [] w w1) => same_ok x.p y.p x.xs.length y.xs.length x.cap y.cap x.xs y.xs rfl rfl (by have := hxl x (List.mem_of_getElem? hx); omega) w1 ((h3 x (List.mem_of_getElem? hx)).chg' hc (fun _ => Off.nil _)) ((h4 y (List.mem_of_getElem? hy)).chg' hc (fun _ => Off.nil _))
      have hfalse : NT.say x ≠ NT.say y → (.bool false : Value) = .bool (decide (qs.map NT.say = bs.map NT.say)) := by
        intro hne
        rw [decide_eq_false]
        intro he
        have g1 : (qs.map NT.say)[i]? = some x.say := by rw [List.getElem?_map, hx]; rfl
        have g2 : (bs.map NT.say)[i]? = some y.say := by rw [List.getElem?_map, hy]; rfl
        rw [he, g2] at g1
        exact hne (Option.some.inj g1).symm
      obtain ⟨q, hq⟩ : ∃ q : Bool, q = decide (x.xs = y.xs) := ⟨_, rfl⟩
      rw [← hq] at hsm
      have key : (x.say ≠ y.say ∧ x.o ≠ y.o) ∨ (x.say ≠ y.say ∧ x.o = y.o ∧ x.r ≠ y.r) ∨ (x.say ≠ y.say ∧ x.o = y.o ∧ x.r = y.r ∧ x.ver ≠ y.ver) ∨ (x.say ≠ y.say ∧ x.o = y.o ∧ x.r = y.r ∧ x.ver = y.ver ∧ q = false) ∨ (x.say = y.say ∧ x.o = y.o ∧ x.r = y.r ∧ x.ver = y.ver ∧ q = true) := by
        by_cases e1 : x.o = y.o
        case neg => exact .inl ⟨fun h => e1 (congrArg (fun z => z.1) h), e1⟩
        by_cases e2 : x.r = y.r
        case neg => exact .inr (.inl ⟨fun h => e2 (congrArg (fun z => z.2.1) h), e1, e2⟩)
        by_cases e3 : x.ver = y.ver
        case neg => exact .inr (.inr (.inl ⟨fun h => e3 (congrArg (fun z => z.2.2.1) h), e1, e2, e3⟩))
        by_cases e4 : x.xs = y.xs
        case neg => exact .inr (.inr (.inr (.inl ⟨fun h => e4 (congrArg (fun z => z.2.2.2) h), e1, e2, e3, by rw [hq]; exact decide_eq_false e4⟩)))
        exact .inr (.inr (.inr (.inr ⟨by simp only [NT.say, e1, e2, e3, e4], e1, e2, e3, by rw [hq]; exact decide_eq_true e4⟩)))
      clear hq
      rcases key with ⟨hne, e1⟩ | ⟨hne, e1, e2⟩ | ⟨hne, e1, e2, e3⟩ | ⟨hne, e1, e2, e3, rfl⟩ | ⟨hne, e1, e2, e3, rfl⟩
      all_goals repeat' (first | (apply R.is1; first | (apply R.isBin; (apply R.pure; exact rfl; first | (apply Ok1.add64; exact rfl; exact rfl; omega; omega) | (apply Ok1.lss_t; exact rfl; exact rfl; omega))) | (apply R.isCall; (apply R.pure; exact rfl; (apply Ok1.lenS; (iterate 3 exact rfl)))) | (apply R.pure; exact rfl; first | (apply Ok1.move; exact rfl) | (apply Ok1.assign; exact rfl))) | apply R.nil | (apply T.is; first | (apply T.drawC (id := 6) [] (by decide); (((apply A.take 0; exact rfl; exact rfl; kernel_rfl; kernel_rfl; kernel_rfl; (apply Ok1.move; exact rfl)); refine A.cast (listed' := #[true, false, false, false, false, false, false, false, false, false, false, false, false, false, false, false, false, false, false, false, false, false, false, false, false, false, false, false, false, false, false, false, false, false, false, false, false, false, false, false, false, false, false, false, false, false, false, false, false, false, false]) (by kernel_rfl) ?_) <;> ((apply A.take 1; exact rfl; exact rfl; kernel_rfl; kernel_rfl; kernel_rfl; (apply Ok1.move; exact rfl)); refine A.cast (listed' := #[true, true, false, false, false, false, false, false, false, false, false, false, false, false, false, false, false, false, false, false, false, false, false, false, false, false, false, false, false, false, false, false, false, false, false, false, false, false, false, false, false, false, false, false, false, false, false, false, false, false, false]) (by kernel_rfl) ?_) <;> ((apply A.take 2; exact rfl; exact rfl; kernel_rfl; kernel_rfl; kernel_rfl; (apply Ok1.indexAddrP; (iterate 4 exact rfl); (exact hpe); exact rfl; omega; omega)); refine A.cast (listed' := #[true, true, true, false, false, false, false, false, false, false, false, false, false, false, false, false, false, false, false, false, false, false, false, false, false, false, false, false, false, false, false, false, false, false, false, false, false, false, false, false, false, false, false, false, false, false, false, false, false, false, false]) (by kernel_rfl) ?_) <;> ((apply A.take 3; exact rfl; exact rfl; kernel_rfl; kernel_rfl; kernel_rfl; (apply Ok1.fieldAddr; (iterate 5 exact rfl))); refine A.cast (listed' := #[true, true, true, true, false, false, false, false, false, false, false, false, false, false, false, false, false, false, false, false, false, false, false, false, false, false, false, false, false, false, false, false, false, false, false, false, false, false, false, false, false, false, false, false, false, false, false, false, false, false, false]) (by kernel_rfl) ?_) <;> ((apply A.take 4; exact rfl; exact rfl; kernel_rfl; kernel_rfl; kernel_rfl; (apply Ok1.load; exact rfl; (apply Ld.row0 H; exact rfl; exact List.not_mem_nil; (iterate 3 exact rfl)))); refine A.cast (listed' := #[true, true, true, true, true, false, false, false, false, false, false, false, false, false, false, false, false, false, false, false, false, false, false, false, false, false, false, false, false, false, false, false, false, false, false, false, false, false, false, false, false, false, false, false, false, false, false, false, false, false, false]) (by kernel_rfl) ?_) <;> ((apply A.take 5; exact rfl; exact rfl; kernel_rfl; kernel_rfl; kernel_rfl; (apply Ok1.move; exact rfl)); refine A.cast (listed' := #[true, true, true, true, true, true, false, false, false, false, false, false, false, false, false, false, false, false, false, false, false, false, false, false, false, false, false, false, false, false, false, false, false, false, false, false, false, false, false, false, false, false, false, false, false, false, false, false, false, false, false]) (by kernel_rfl) ?_) <;> ((apply A.take 6; exact rfl; exact rfl; kernel_rfl; kernel_rfl; kernel_rfl; (apply Ok1.move; exact rfl)); refine A.cast (listed' := #[true, true, true, true, true, true, true, false, false, false, false, false, false, false, false, false, false, false, false, false, false, false, false, false, false, false, false, false, false, false, false, false, false, false, false, false, false, false, false, false, false, false, false, false, false, false, false, false, false, false, false]) (by kernel_rfl) ?_) <;> ((apply A.take 7; exact rfl; exact rfl; kernel_rfl; kernel_rfl; kernel_rfl; (apply Ok1.indexAddrP; (iterate 4 exact rfl); (exact hpe'); exact rfl; omega; omega)); refine A.cast (listed' := #[true, true, true, true, true, true, true, true, false, false, false, false, false, false, false, false, false, false, false, false, false, false, false, false, false, false, false, false, false, false, false, false, false, false, false, false, false, false, false, false, false, false, false, false, false, false, false, false, false, false, false]) (by kernel_rfl) ?_) <;> ((apply A.take 8; exact rfl; exact rfl; kernel_rfl; kernel_rfl; kernel_rfl; (apply Ok1.fieldAddr; (iterate 5 exact rfl))); refine A.cast (listed' := #[true, true, true, true, true, true, true, true, true, false, false, false, false, false, false, false, false, false, false, false, false, false, false, false, false, false, false, false, false, false, false, false, false, false, false, false, false, false, false, false, false, false, false, false, false, false, false, false, false, false, false]) (by kernel_rfl) ?_) <;> ((apply A.take 9; exact rfl; exact rfl; kernel_rfl; kernel_rfl; kernel_rfl; (apply Ok1.load; exact rfl; (apply Ld.row0 H'; exact rfl; exact List.not_mem_nil; (iterate 3 exact rfl)))); refine A.cast (listed' := #[true, true, true, true, true, true, true, true, true, true, false, false, false, false, false, false, false, false, false, false, false, false, false, false, false, false, false, false, false, false, false, false, false, false, false, false, false, false, false, false, false, false, false, false, false, false, false, false, false, false, false]) (by kernel_rfl) ?_) <;> (((apply A.take 10; exact rfl; exact rfl; kernel_rfl; kernel_rfl; kernel_rfl; first | (apply Ok1.neq_t; exact rfl; exact rfl; omega) | (apply Ok1.neq_f; exact rfl; exact rfl; omega))); refine A.cast (listed' := #[true, true, true, true, true, true, true, true, true, true, true, false, false, false, false, false, false, false, false, false, false, false, false, false, false, false, false, false, false, false, false, false, false, false, false, false, false, false, false, false, false, false, false, false, false, false, false, false, false, false, false]) (by kernel_rfl) ?_) <;> ((apply A.take 11; exact rfl; exact rfl; kernel_rfl; kernel_rfl; kernel_rfl; (apply Ok1.move; exact rfl)); refine A.cast (listed' := #[true, true, true, true, true, true, true, true, true, true, true, true, false, false, false, false, false, false, false, false, false, false, false, false, false, false, false, false, false, false, false, false, false, false, false, false, false, false, false, false, false, false, false, false, false, false, false, false, false, false, false]) (by kernel_rfl) ?_) <;> ((first | (apply A.skipG 12; exact rfl; exact rfl; rotate_left 3; exact rfl; exact rfl; rotate_right 3; kernel_rfl; kernel_rfl; kernel_rfl) | (apply A.takeG 12; exact rfl; exact rfl; rotate_left 3; exact rfl; exact rfl; rotate_right 3; kernel_rfl; kernel_rfl; kernel_rfl; (apply Ok1.move; exact rfl))); refine A.cast (listed' := #[true, true, true, true, true, true, true, true, true, true, true, true, true, false, false, false, false, false, false, false, false, false, false, false, false, false, false, false, false, false, false, false, false, false, false, false, false, false, false, false, false, false, false, false, false, false, false, false, false, false, false]) (by kernel_rfl) ?_) <;> ((first | (apply A.skipG 13; exact rfl; exact rfl; rotate_left 3; exact rfl; exact rfl; rotate_right 3; kernel_rfl; kernel_rfl; kernel_rfl) | (apply A.takeG 13; exact rfl; exact rfl; rotate_left 3; exact rfl; exact rfl; rotate_right 3; kernel_rfl; kernel_rfl; kernel_rfl; (apply Ok1.move; exact rfl))); refine A.cast (listed' := #[true, true, true, true, true, true, true, true, true, true, true, true, true, true, false, false, false, false, false, false, false, false, false, false, false, false, false, false, false, false, false, false, false, false, false, false, false, false, false, false, false, false, false, false, false, false, false, false, false, false, false]) (by kernel_rfl) ?_) <;> ((first | (apply A.skipG 14; exact rfl; exact rfl; rotate_left 3; exact rfl; exact rfl; rotate_right 3; kernel_rfl; kernel_rfl; kernel_rfl) | (apply A.takeG 14; exact rfl; exact rfl; rotate_left 3; exact rfl; exact rfl; rotate_right 3; kernel_rfl; kernel_rfl; kernel_rfl; (apply Ok1.indexAddrP; (iterate 4 exact rfl); (exact hpe); exact rfl; omega; omega))); refine A.cast (listed' := #[true, true, true, true, true, true, true, true, true, true, true, true, true, true, true, false, false, false, false, false, false, false, false, false, false, false, false, false, false, false, false, false, false, false, false, false, false, false, false, false, false, false, false, false, false, false, false, false, false, false, false]) (by kernel_rfl) ?_) <;> ((first | (apply A.skipG 15; exact rfl; exact rfl; rotate_left 3; exact rfl; exact rfl; rotate_right 3; kernel_rfl; kernel_rfl; kernel_rfl) | (apply A.takeG 15; exact rfl; exact rfl; rotate_left 3; exact rfl; exact rfl; rotate_right 3; kernel_rfl; kernel_rfl; kernel_rfl; (apply Ok1.fieldAddr; (iterate 5 exact rfl)))); refine A.cast (listed' := #[true, true, true, true, true, true, true, true, true, true, true, true, true, true, true, true, false, false, false, false, false, false, false, false, false, false, false, false, false, false, false, false, false, false, false, false, false, false, false, false, false, false, false, false, false, false, false, false, false, false, false]) (by kernel_rfl) ?_) <;> ((first | (apply A.skipG 16; exact rfl; exact rfl; rotate_left 3; exact rfl; exact rfl; rotate_right 3; kernel_rfl; kernel_rfl; kernel_rfl) | (apply A.takeG 16; exact rfl; exact rfl; rotate_left 3; exact rfl; exact rfl; rotate_right 3; kernel_rfl; kernel_rfl; kernel_rfl; (apply Ok1.load; exact rfl; (apply Ld.row1 H; exact rfl; exact List.not_mem_nil; (iterate 3 exact rfl))))); refine A.cast (listed' := #[true, true, true, true, true, true, true, true, true, true, true, true, true, true, true, true, true, false, false, false, false, false, false, false, false, false, false, false, false, false, false, false, false, false, false, false, false, false, false, false, false, false, false, false, false, false, false, false, false, false, false]) (by kernel_rfl) ?_) <;> ((first | (apply A.skipG 17; exact rfl; exact rfl; rotate_left 3; exact rfl; exact rfl; rotate_right 3; kernel_rfl; kernel_rfl; kernel_rfl) | (apply A.takeG 17; exact rfl; exact rfl; rotate_left 3; exact rfl; exact rfl; rotate_right 3; kernel_rfl; kernel_rfl; kernel_rfl; (apply Ok1.move; exact rfl))); refine A.cast (listed' := #[true, true, true, true, true, true, true, true, true, true, true, true, true, true, true, true, true, true, false, false, false, false, false, false, false, false, false, false, false, false, false, false, false, false, false, false, false, false, false, false, false, false, false, false, false, false, false, false, false, false, false]) (by kernel_rfl) ?_) <;> ((first | (apply A.skipG 18; exact rfl; exact rfl; rotate_left 3; exact rfl; exact rfl; rotate_right 3; kernel_rfl; kernel_rfl; kernel_rfl) | (apply A.takeG 18; exact rfl; exact rfl; rotate_left 3; exact rfl; exact rfl; rotate_right 3; kernel_rfl; kernel_rfl; kernel_rfl; (apply Ok1.move; exact rfl))); refine A.cast (listed' := #[true, true, true, true, true, true, true, true, true, true, true, true, true, true, true, true, true, true, true, false, false, false, false, false, false, false, false, false, false, false, false, false, false, false, false, false, false, false, false, false, false, false, false, false, false, false, false, false, false, false, false]) (by kernel_rfl) ?_) <;> ((first | (apply A.skipG 19; exact rfl; exact rfl; rotate_left 3; exact rfl; exact rfl; rotate_right 3; kernel_rfl; kernel_rfl; kernel_rfl) | (apply A.takeG 19; exact rfl; exact rfl; rotate_left 3; exact rfl; exact rfl; rotate_right 3; kernel_rfl; kernel_rfl; kernel_rfl; (apply Ok1.indexAddrP; (iterate 4 exact rfl); (exact hpe'); exact rfl; omega; omega))); refine A.cast (listed' := #[true, true, true, true, true, true, true, true, true, true, true, true, true, true, true, true, true, true, true, true, false, false, false, false, false, false, false, false, false, false, false, false, false, false, false, false, false, false, false, false, false, false, false, false, false, false, false, false, false, false, false]) (by kernel_rfl) ?_) <;> ((first | (apply A.skipG 20; exact rfl; exact rfl; rotate_left 3; exact rfl; exact rfl; rotate_right 3; kernel_rfl; kernel_rfl; kernel_rfl) | (apply A.takeG 20; exact rfl; exact rfl; rotate_left 3; exact rfl; exact rfl; rotate_right 3; kernel_rfl; kernel_rfl; kernel_rfl; (apply Ok1.fieldAddr; (iterate 5 exact rfl)))); refine A.cast (listed' := #[true, true, true, true, true, true, true, true, true, true, true, true, true, true, true, true, true, true, true, true, true, false, false, false, false, false, false, false, false, false, false, false, false, false, false, false, false, false, false, false, false, false, false, false, false, false, false, false, false, false, false]) (by kernel_rfl) ?_) <;> ((first | (apply A.skipG 21; exact rfl; exact rfl; rotate_left 3; exact rfl; exact rfl; rotate_right 3; kernel_rfl; kernel_rfl; kernel_rfl) | (apply A.takeG 21; exact rfl; exact rfl; rotate_left 3; exact rfl; exact rfl; rotate_right 3; kernel_rfl; kernel_rfl; kernel_rfl; (apply Ok1.load; exact rfl; (apply Ld.row1 H'; exact rfl; exact List.not_mem_nil; (iterate 3 exact rfl))))); refine A.cast (listed' := #[true, true, true, true, true, true, true, true, true, true, true, true, true, true, true, true, true, true, true, true, true, true, false, false, false, false, false, false, false, false, false, false, false, false, false, false, false, false, false, false, false, false, false, false, false, false, false, false, false, false, false]) (by kernel_rfl) ?_) <;> ((first | (apply A.skipG 22; exact rfl; exact rfl; rotate_left 3; exact rfl; exact rfl; rotate_right 3; kernel_rfl; kernel_rfl; kernel_rfl) | (apply A.takeG 22; exact rfl; exact rfl; rotate_left 3; exact rfl; exact rfl; rotate_right 3; kernel_rfl; kernel_rfl; kernel_rfl; first | (apply Ok1.neq_t; exact rfl; exact rfl; omega) | (apply Ok1.neq_f; exact rfl; exact rfl; omega))); refine A.cast (listed' := #[true, true, true, true, true, true, true, true, true, true, true, true, true, true, true, true, true, true, true, true, true, true, true, false, false, false, false, false, false, false, false, false, false, false, false, false, false, false, false, false, false, false, false, false, false, false, false, false, false, false, false]) (by kernel_rfl) ?_) <;> ((apply A.take 23; exact rfl; exact rfl; kernel_rfl; kernel_rfl; kernel_rfl; first | (apply Ok1.pick_t; exact rfl; exact rfl) | (apply Ok1.pick_f; exact rfl; exact rfl)); refine A.cast (listed' := #[true, true, true, true, true, true, true, true, true, true, true, true, true, true, true, true, true, true, true, true, true, true, true, true, false, false, false, false, false, false, false, false, false, false, false, false, false, false, false, false, false, false, false, false, false, false, false, false, false, false, false]) (by kernel_rfl) ?_) <;> ((apply A.take 24; exact rfl; exact rfl; kernel_rfl; kernel_rfl; kernel_rfl; (apply Ok1.move; exact rfl)); refine A.cast (listed' := #[true, true, true, true, true, true, true, true, true, true, true, true, true, true, true, true, true, true, true, true, true, true, true, true, true, false, false, false, false, false, false, false, false, false, false, false, false, false, false, false, false, false, false, false, false, false, false, false, false, false, false]) (by kernel_rfl) ?_) <;> ((first | (apply A.skipG 25; exact rfl; exact rfl; rotate_left 3; exact rfl; exact rfl; rotate_right 3; kernel_rfl; kernel_rfl; kernel_rfl) | (apply A.takeG 25; exact rfl; exact rfl; rotate_left 3; exact rfl; exact rfl; rotate_right 3; kernel_rfl; kernel_rfl; kernel_rfl; (apply Ok1.move; exact rfl))); refine A.cast (listed' := #[true, true, true, true, true, true, true, true, true, true, true, true, true, true, true, true, true, true, true, true, true, true, true, true, true, true, false, false, false, false, false, false, false, false, false, false, false, false, false, false, false, false, false, false, false, false, false, false, false, false, false]) (by kernel_rfl) ?_) <;> ((first | (apply A.skipG 26; exact rfl; exact rfl; rotate_left 3; exact rfl; exact rfl; rotate_right 3; kernel_rfl; kernel_rfl; kernel_rfl) | (apply A.takeG 26; exact rfl; exact rfl; rotate_left 3; exact rfl; exact rfl; rotate_right 3; kernel_rfl; kernel_rfl; kernel_rfl; (apply Ok1.move; exact rfl))); refine A.cast (listed' := #[true, true, true, true, true, true, true, true, true, true, true, true, true, true, true, true, true, true, true, true, true, true, true, true, true, true, true, false, false, false, false, false, false, false, false, false, false, false, false, false, false, false, false, false, false, false, false, false, false, false, false]) (by kernel_rfl) ?_) <;> ((first | (apply A.skipG 27; exact rfl; exact rfl; rotate_left 3; exact rfl; exact rfl; rotate_right 3; kernel_rfl; kernel_rfl; kernel_rfl) | (apply A.takeG 27; exact rfl; exact rfl; rotate_left 3; exact rfl; exact rfl; rotate_right 3; kernel_rfl; kernel_rfl; kernel_rfl; (apply Ok1.indexAddrP; (iterate 4 exact rfl); (exact hpe); exact rfl; omega; omega))); refine A.cast (listed' := #[true, true, true, true, true, true, true, true, true, true, true, true, true, true, true, true, true, true, true, true, true, true, true, true, true, true, true, true, false, false, false, false, false, false, false, false, false, false, false, false, false, false, false, false, false, false, false, false, false, false, false]) (by kernel_rfl) ?_) <;> ((first | (apply A.skipG 28; exact rfl; exact rfl; rotate_left 3; exact rfl; exact rfl; rotate_right 3; kernel_rfl; kernel_rfl; kernel_rfl) | (apply A.takeG 28; exact rfl; exact rfl; rotate_left 3; exact rfl; exact rfl; rotate_right 3; kernel_rfl; kernel_rfl; kernel_rfl; (apply Ok1.fieldAddr; (iterate 5 exact rfl)))); refine A.cast (listed' := #[true, true, true, true, true, true, true, true, true, true, true, true, true, true, true, true, true, true, true, true, true, true, true, true, true, true, true, true, true, false, false, false, false, false, false, false, false, false, false, false, false, false, false, false, false, false, false, false, false, false, false]) (by kernel_rfl) ?_) <;> ((first | (apply A.skipG 29; exact rfl; exact rfl; rotate_left 3; exact rfl; exact rfl; rotate_right 3; kernel_rfl; kernel_rfl; kernel_rfl) | (apply A.takeG 29; exact rfl; exact rfl; rotate_left 3; exact rfl; exact rfl; rotate_right 3; kernel_rfl; kernel_rfl; kernel_rfl; (apply Ok1.load; exact rfl; (apply Ld.row1 H; exact rfl; exact List.not_mem_nil; (iterate 3 exact rfl))))); refine A.cast (listed' := #[true, true, true, true, true, true, true, true, true, true, true, true, true, true, true, true, true, true, true, true, true, true, true, true, true, true, true, true, true, true, false, false, false, false, false, false, false, false, false, false, false, false, false, false, false, false, false, false, false, false, false]) (by kernel_rfl) ?_) <;> ((first | (apply A.skipG 30; exact rfl; exact rfl; rotate_left 3; exact rfl; exact rfl; rotate_right 3; kernel_rfl; kernel_rfl; kernel_rfl) | (apply A.takeG 30; exact rfl; exact rfl; rotate_left 3; exact rfl; exact rfl; rotate_right 3; kernel_rfl; kernel_rfl; kernel_rfl; (apply Ok1.move; exact rfl))); refine A.cast (listed' := #[true, true, true, true, true, true, true, true, true, true, true, true, true, true, true, true, true, true, true, true, true, true, true, true, true, true, true, true, true, true, true, false, false, false, false, false, false, false, false, false, false, false, false, false, false, false, false, false, false, false, false]) (by kernel_rfl) ?_) <;> ((first | (apply A.skipG 31; exact rfl; exact rfl; rotate_left 3; exact rfl; exact rfl; rotate_right 3; kernel_rfl; kernel_rfl; kernel_rfl) | (apply A.takeG 31; exact rfl; exact rfl; rotate_left 3; exact rfl; exact rfl; rotate_right 3; kernel_rfl; kernel_rfl; kernel_rfl; (apply Ok1.move; exact rfl))); refine A.cast (listed' := #[true, true, true, true, true, true, true, true, true, true, true, true, true, true, true, true, true, true, true, true, true, true, true, true, true, true, true, true, true, true, true, true, false, false, false, false, false, false, false, false, false, false, false, false, false, false, false, false, false, false, false]) (by kernel_rfl) ?_) <;> ((first | (apply A.skipG 32; exact rfl; exact rfl; rotate_left 3; exact rfl; exact rfl; rotate_right 3; kernel_rfl; kernel_rfl; kernel_rfl) | (apply A.takeG 32; exact rfl; exact rfl; rotate_left 3; exact rfl; exact rfl; rotate_right 3; kernel_rfl; kernel_rfl; kernel_rfl; (apply Ok1.indexAddrP; (iterate 4 exact rfl); (exact hpe'); exact rfl; omega; omega))); refine A.cast (listed' := #[true, true, true, true, true, true, true, true, true, true, true, true, true, true, true, true, true, true, true, true, true, true, true, true, true, true, true, true, true, true, true, true, true, false, false, false, false, false, false, false, false, false, false, false, false, false, false, false, false, false, false]) (by kernel_rfl) ?_) <;> ((first | (apply A.skipG 33; exact rfl; exact rfl; rotate_left 3; exact rfl; exact rfl; rotate_right 3; kernel_rfl; kernel_rfl; kernel_rfl) | (apply A.takeG 33; exact rfl; exact rfl; rotate_left 3; exact rfl; exact rfl; rotate_right 3; kernel_rfl; kernel_rfl; kernel_rfl; (apply Ok1.fieldAddr; (iterate 5 exact rfl)))); refine A.cast (listed' := #[true, true, true, true, true, true, true, true, true, true, true, true, true, true, true, true, true, true, true, true, true, true, true, true, true, true, true, true, true, true, true, true, true, true, false, false, false, false, false, false, false, false, false, false, false, false, false, false, false, false, false]) (by kernel_rfl) ?_) <;> ((first | (apply A.skipG 34; exact rfl; exact rfl; rotate_left 3; exact rfl; exact rfl; rotate_right 3; kernel_rfl; kernel_rfl; kernel_rfl) | (apply A.takeG 34; exact rfl; exact rfl; rotate_left 3; exact rfl; exact rfl; rotate_right 3; kernel_rfl; kernel_rfl; kernel_rfl; (apply Ok1.load; exact rfl; (apply Ld.row1 H'; exact rfl; exact List.not_mem_nil; (iterate 3 exact rfl))))); refine A.cast (listed' := #[true, true, true, true, true, true, true, true, true, true, true, true, true, true, true, true, true, true, true, true, true, true, true, true, true, true, true, true, true, true, true, true, true, true, true, false, false, false, false, false, false, false, false, false, false, false, false, false, false, false, false]) (by kernel_rfl) ?_) <;> ((first | (apply A.skipG 35; exact rfl; exact rfl; rotate_left 3; exact rfl; exact rfl; rotate_right 3; kernel_rfl; kernel_rfl; kernel_rfl) | (apply A.takeG 35; exact rfl; exact rfl; rotate_left 3; exact rfl; exact rfl; rotate_right 3; kernel_rfl; kernel_rfl; kernel_rfl; first | (apply Ok1.neq_t; exact rfl; exact rfl; omega) | (apply Ok1.neq_f; exact rfl; exact rfl; omega))); refine A.cast (listed' := #[true, true, true, true, true, true, true, true, true, true, true, true, true, true, true, true, true, true, true, true, true, true, true, true, true, true, true, true, true, true, true, true, true, true, true, true, false, false, false, false, false, false, false, false, false, false, false, false, false, false, false]) (by kernel_rfl) ?_) <;> ((apply A.take 36; exact rfl; exact rfl; kernel_rfl; kernel_rfl; kernel_rfl; first | (apply Ok1.pick_t; exact rfl; exact rfl) | (apply Ok1.pick_f; exact rfl; exact rfl)); refine A.cast (listed' := #[true, true, true, true, true, true, true, true, true, true, true, true, true, true, true, true, true, true, true, true, true, true, true, true, true, true, true, true, true, true, true, true, true, true, true, true, true, false, false, false, false, false, false, false, false, false, false, false, false, false, false]) (by kernel_rfl) ?_) <;> ((apply A.take 37; exact rfl; exact rfl; kernel_rfl; kernel_rfl; kernel_rfl; (apply Ok1.move; exact rfl)); refine A.cast (listed' := #[true, true, true, true, true, true, true, true, true, true, true, true, true, true, true, true, true, true, true, true, true, true, true, true, true, true, true, true, true, true, true, true, true, true, true, true, true, true, false, false, false, false, false, false, false, false, false, false, false, false, false]) (by kernel_rfl) ?_) <;> ((first | (apply A.skipG 38; exact rfl; exact rfl; rotate_left 3; exact rfl; exact rfl; rotate_right 3; kernel_rfl; kernel_rfl; kernel_rfl) | (apply A.takeG 38; exact rfl; exact rfl; rotate_left 3; exact rfl; exact rfl; rotate_right 3; kernel_rfl; kernel_rfl; kernel_rfl; (apply Ok1.move; exact rfl))); refine A.cast (listed' := #[true, true, true, true, true, true, true, true, true, true, true, true, true, true, true, true, true, true, true, true, true, true, true, true, true, true, true, true, true, true, true, true, true, true, true, true, true, true, true, false, false, false, false, false, false, false, false, false, false, false, false]) (by kernel_rfl) ?_) <;> ((first | (apply A.skipG 39; exact rfl; exact rfl; rotate_left 3; exact rfl; exact rfl; rotate_right 3; kernel_rfl; kernel_rfl; kernel_rfl) | (apply A.takeG 39; exact rfl; exact rfl; rotate_left 3; exact rfl; exact rfl; rotate_right 3; kernel_rfl; kernel_rfl; kernel_rfl; (apply Ok1.move; exact rfl))); refine A.cast (listed' := #[true, true, true, true, true, true, true, true, true, true, true, true, true, true, true, true, true, true, true, true, true, true, true, true, true, true, true, true, true, true, true, true, true, true, true, true, true, true, true, true, false, false, false, false, false, false, false, false, false, false, false]) (by kernel_rfl) ?_) <;> ((first | (apply A.skipG 40; exact rfl; exact rfl; rotate_left 3; exact rfl; exact rfl; rotate_right 3; kernel_rfl; kernel_rfl; kernel_rfl) | (apply A.takeG 40; exact rfl; exact rfl; rotate_left 3; exact rfl; exact rfl; rotate_right 3; kernel_rfl; kernel_rfl; kernel_rfl; (apply Ok1.indexAddrP; (iterate 4 exact rfl); (exact hpe); exact rfl; omega; omega))); refine A.cast (listed' := #[true, true, true, true, true, true, true, true, true, true, true, true, true, true, true, true, true, true, true, true, true, true, true, true, true, true, true, true, true, true, true, true, true, true, true, true, true, true, true, true, true, false, false, false, false, false, false, false, false, false, false]) (by kernel_rfl) ?_) <;> ((first | (apply A.skipG 41; exact rfl; exact rfl; rotate_left 3; exact rfl; exact rfl; rotate_right 3; kernel_rfl; kernel_rfl; kernel_rfl) | (apply A.takeG 41; exact rfl; exact rfl; rotate_left 3; exact rfl; exact rfl; rotate_right 3; kernel_rfl; kernel_rfl; kernel_rfl; (apply Ok1.fieldAddr; (iterate 5 exact rfl)))); refine A.cast (listed' := #[true, true, true, true, true, true, true, true, true, true, true, true, true, true, true, true, true, true, true, true, true, true, true, true, true, true, true, true, true, true, true, true, true, true, true, true, true, true, true, true, true, true, false, false, false, false, false, false, false, false, false]) (by kernel_rfl) ?_) <;> ((first | (apply A.skipG 42; exact rfl; exact rfl; rotate_left 3; exact rfl; exact rfl; rotate_right 3; kernel_rfl; kernel_rfl; kernel_rfl) | (apply A.takeG 42; exact rfl; exact rfl; rotate_left 3; exact rfl; exact rfl; rotate_right 3; kernel_rfl; kernel_rfl; kernel_rfl; (apply Ok1.load; exact rfl; (apply Ld.row1 H; exact rfl; exact List.not_mem_nil; (iterate 3 exact rfl))))); refine A.cast (listed' := #[true, true, true, true, true, true, true, true, true, true, true, true, true, true, true, true, true, true, true, true, true, true, true, true, true, true, true, true, true, true, true, true, true, true, true, true, true, true, true, true, true, true, true, false, false, false, false, false, false, false, false]) (by kernel_rfl) ?_) <;> ((first | (apply A.skipG 43; exact rfl; exact rfl; rotate_left 3; exact rfl; exact rfl; rotate_right 3; kernel_rfl; kernel_rfl; kernel_rfl) | (apply A.takeG 43; exact rfl; exact rfl; rotate_left 3; exact rfl; exact rfl; rotate_right 3; kernel_rfl; kernel_rfl; kernel_rfl; (apply Ok1.move; exact rfl))); refine A.cast (listed' := #[true, true, true, true, true, true, true, true, true, true, true, true, true, true, true, true, true, true, true, true, true, true, true, true, true, true, true, true, true, true, true, true, true, true, true, true, true, true, true, true, true, true, true, true, false, false, false, false, false, false, false]) (by kernel_rfl) ?_) <;> ((first | (apply A.skipG 44; exact rfl; exact rfl; rotate_left 3; exact rfl; exact rfl; rotate_right 3; kernel_rfl; kernel_rfl; kernel_rfl) | (apply A.takeG 44; exact rfl; exact rfl; rotate_left 3; exact rfl; exact rfl; rotate_right 3; kernel_rfl; kernel_rfl; kernel_rfl; (apply Ok1.move; exact rfl))); refine A.cast (listed' := #[true, true, true, true, true, true, true, true, true, true, true, true, true, true, true, true, true, true, true, true, true, true, true, true, true, true, true, true, true, true, true, true, true, true, true, true, true, true, true, true, true, true, true, true, true, false, false, false, false, false, false]) (by kernel_rfl) ?_) <;> ((first | (apply A.skipG 45; exact rfl; exact rfl; rotate_left 3; exact rfl; exact rfl; rotate_right 3; kernel_rfl; kernel_rfl; kernel_rfl) | (apply A.takeG 45; exact rfl; exact rfl; rotate_left 3; exact rfl; exact rfl; rotate_right 3; kernel_rfl; kernel_rfl; kernel_rfl; (apply Ok1.indexAddrP; (iterate 4 exact rfl); (exact hpe'); exact rfl; omega; omega))); refine A.cast (listed' := #[true, true, true, true, true, true, true, true, true, true, true, true, true, true, true, true, true, true, true, true, true, true, true, true, true, true, true, true, true, true, true, true, true, true, true, true, true, true, true, true, true, true, true, true, true, true, false, false, false, false, false]) (by kernel_rfl) ?_) <;> ((first | (apply A.skipG 46; exact rfl; exact rfl; rotate_left 3; exact rfl; exact rfl; rotate_right 3; kernel_rfl; kernel_rfl; kernel_rfl) | (apply A.takeG 46; exact rfl; exact rfl; rotate_left 3; exact rfl; exact rfl; rotate_right 3; kernel_rfl; kernel_rfl; kernel_rfl; (apply Ok1.fieldAddr; (iterate 5 exact rfl)))); refine A.cast (listed' := #[true, true, true, true, true, true, true, true, true, true, true, true, true, true, true, true, true, true, true, true, true, true, true, true, true, true, true, true, true, true, true, true, true, true, true, true, true, true, true, true, true, true, true, true, true, true, true, false, false, false, false]) (by kernel_rfl) ?_) <;> ((first | (apply A.skipG 47; exact rfl; exact rfl; rotate_left 3; exact rfl; exact rfl; rotate_right 3; kernel_rfl; kernel_rfl; kernel_rfl) | (apply A.takeG 47; exact rfl; exact rfl; rotate_left 3; exact rfl; exact rfl; rotate_right 3; kernel_rfl; kernel_rfl; kernel_rfl; (apply Ok1.load; exact rfl; (apply Ld.row1 H'; exact rfl; exact List.not_mem_nil; (iterate 3 exact rfl))))); refine A.cast (listed' := #[true, true, true, true, true, true, true, true, true, true, true, true, true, true, true, true, true, true, true, true, true, true, true, true, true, true, true, true, true, true, true, true, true, true, true, true, true, true, true, true, true, true, true, true, true, true, true, true, false, false, false]) (by kernel_rfl) ?_) <;> (apply A.one 48; kernel_rfl; exact rfl; ((first | (apply R.isG; apply R.guard_run; exact rfl; exact rfl; ((apply R.callW (vs := [.slice x.p x.xs.length x.cap, .slice y.p y.xs.length y.cap]); (iterate 3 exact rfl); (intro w1 hw1; exact hsm w1 hw1.chg); rintro v rfl))) | (apply R.isG; (apply R.guard_not; (iterate 3 exact rfl))))); apply R.nil; refine ⟨?_, ?_⟩; (focus ((repeat' (exact trivial))))) <;> ((first | (apply A.skipG 49; exact rfl; exact rfl; rotate_left 3; exact rfl; exact rfl; rotate_right 3; kernel_rfl; kernel_rfl; kernel_rfl) | (apply A.takeG 49; exact rfl; exact rfl; rotate_left 3; exact rfl; exact rfl; rotate_right 3; kernel_rfl; kernel_rfl; kernel_rfl; first | (apply Ok1.not_t; exact rfl) | (apply Ok1.not_f; exact rfl))); refine A.cast (listed' := #[true, true, true, true, true, true, true, true, true, true, true, true, true, true, true, true, true, true, true, true, true, true, true, true, true, true, true, true, true, true, true, true, true, true, true, true, true, true, true, true, true, true, true, true, true, true, true, true, true, true, false]) (by kernel_rfl) ?_) <;> ((apply A.take 50; exact rfl; exact rfl; kernel_rfl; kernel_rfl; kernel_rfl; first | (apply Ok1.pick_t; exact rfl; exact rfl) | (apply Ok1.pick_f; exact rfl; exact rfl)); refine A.cast (listed' := #[true, true, true, true, true, true, true, true, true, true, true, true, true, true, true, true, true, true, true, true, true, true, true, true, true, true, true, true, true, true, true, true, true, true, true, true, true, true, true, true, true, true, true, true, true, true, true, true, true, true, true]) (by kernel_rfl) ?_) <;> (apply A.done; kernel_rfl))) | apply T.seq | apply T.region | apply T.block | apply T.skip | apply T.ret | (apply T.cond_t; exact rfl) | (apply T.cond_f; exact rfl)))
      all_goals first
        | ((apply RetOk.t; exact rfl); exact hfalse hne)
        | skip
      refine ⟨i + 1, ⟨by omega, ?_⟩, by omega, ⟨rfl, rfl, rfl, trivial⟩, Keep.nil _⟩
      rw [List.take_add_one, List.take_add_one, hsame, List.getElem?_map, List.getElem?_map, hx, hy]
      simp only [Option.map_some, hne]
    · repeat' (first | (apply R.is1; first | (apply R.isBin; (apply R.pure; exact rfl; (apply Ok1.lss_f; exact rfl; exact rfl; omega))) | (apply R.isCall; (apply R.pure; exact rfl; (apply Ok1.lenS; (iterate 3 exact rfl)))) | (apply R.pure; exact rfl; first | (apply Ok1.move; exact rfl) | (apply Ok1.assign; exact rfl))) | apply R.nil | (apply T.is; first | apply T.seq | apply T.region | apply T.exit | apply T.ret | (apply T.cond_f; exact rfl)))
      (apply RetOk.t; exact rfl)
      have hm : i = qs.length := by omega
      subst hm
      have g1 : (qs.map NT.say).take qs.length = qs.map NT.say := List.take_of_length_le (by rw [List.length_map]; exact Nat.le_refl _)
      have g2 : (bs.map NT.say).take qs.length = bs.map NT.say := List.take_of_length_le (by rw [List.length_map]; omega)
      rw [g1, g2] at hsame
      rw [decide_eq_true hsame]
end Go.Proofs.YtligngjcnlbgmaaGreat
