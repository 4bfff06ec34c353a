/- Contracts of mac: New, Bytes, Derive, Equal. -/
import Derived.Test.YtiegdpmkgegbaaaMc3
set_option linter.unusedSimpArgs false
set_option linter.unusedVariables false
namespace Go.Proofs.Ytiegdpmkgegbaaa
open Go.RowKit Go.Shelf
set_option maxRecDepth 100000

/-- A key that was made: its block, its bytes'. -/
def KL (bk : Nat) (ov : Ov) (xs : List Int) : Lst := (bk, .cells ⟨[slV ov xs.length]⟩ 84 (0, 0)) :: blkL 5 ov (u8s xs)
/-- A key that is read. -/
def KeyR (w : World) (bk : Nat) (xs : List Int) : Prop := ∃ p cap, w.heap[bk]? = some (.cells ⟨[.slice p xs.length cap]⟩ 84 (0, 0)) ∧ RdSl w p u8V xs
theorem KeyR.chg {w w' : World} {bk : Nat} {xs : List Int} (h : KeyR w bk xs) (hc : Chg [] w w') : KeyR w' bk xs := by
  obtain ⟨p, cap, h1, h2⟩ := h
  exact ⟨p, cap, hc.heap h1 List.not_mem_nil, h2.chg' hc (fun _ => Off.nil _)⟩
theorem KeyR.of {ov : Ov} {bk : Nat} {xs : List Int} (hov : OvOk 1 ov xs.length (u8s xs)) {w0 w : World} {S : List Nat} {L : Lst} (hw : Hp w0 S L w) (hin : ∀ z ∈ KL bk ov xs, z ∈ L) : KeyR w bk xs := by
  refine ⟨ovp ov, ovc ov xs.length, ?_, rdown hov hw fun z hz => hin z (List.mem_cons_of_mem _ hz)⟩
  rw [← slV_eq hov]
  exact hw.get _ _ (hin _ List.mem_cons_self)
theorem new_ok (p : Option Addr) (n cap : Nat) (xs : List Int) (hn : n = xs.length) (hbig : n ≤ 1000000000) (w : World) (hp : RdSl w p u8V xs) :
    CallM Try.prog 10 [.slice p n cap] [] w fun v L => ∃ bk ov, v = .pointer (some ⟨bk, 0, none⟩) ∧ OvOk 1 ov xs.length (u8s xs) ∧ ov.isSome = p.isSome ∧ L = KL bk ov xs := by
  subst hn
  refine enterK (tb := tb) Try.func10 rfl Try.ntmps10 rfl ?_
  have hcl := fun w1 (hc : Chg [] w w1) => clone_ok p xs.length cap xs rfl hbig w1 (hp.chg' hc (fun _ => Off.nil _))
  repeat' (first | (apply R.is1; first | (apply R.isCall; (apply R.callE; (iterate 3 exact rfl); exact Ext.none _; intro w1 hw1; exact hcl w1 hw1.chg; rintro v Lo ⟨ov2, hov2, hsome, rfl, rfl⟩; rw [slV_eq hov2])) | (apply R.pure; exact rfl; first | (apply Ok1.move; exact rfl) | (apply Ok1.assign; exact rfl) | (apply Ok1.build; (iterate 5 exact rfl))) | (apply R.box; (iterate 3 exact rfl); intro)) | apply R.nil | (apply T.is; first | apply T.seq | apply T.region | apply T.ret))
  rename_i bk
  (apply RetOk.t; exact rfl)
  refine ⟨_, ?_, bk, ov2, rfl, hov2, hsome, rfl⟩
  simp only [KL, slV_eq hov2]
  (focus ((repeat' (first | exact Ext.one _ _ | exact Ext.here _ _ | apply Keep.cons | apply Keep.last)); done))
theorem bytes_ok (bk : Nat) (xs : List Int) (hbig : xs.length ≤ 1000000000) (w : World) (hk : KeyR w bk xs) :
    CallM Try.prog 18 [.pointer (some ⟨bk, 0, none⟩)] [] w fun v L => ∃ ov, OvOk 1 ov xs.length (u8s xs) ∧ v = slV ov xs.length ∧ L = blkL 5 ov (u8s xs) := by
  obtain ⟨p, cap, hb, hp⟩ := hk
  refine enterK (tb := tb) Try.func18 rfl Try.ntmps18 rfl ?_
  have hcl := fun w1 (hc : Chg [] w w1) => clone_ok p xs.length cap xs rfl hbig w1 (hp.chg' hc (fun _ => Off.nil _))
  repeat' (first | (apply R.is1; first | (apply R.isBin; (apply R.pure; exact rfl; (apply Ok1.eqlP; (iterate 5 exact rfl)))) | (apply R.isCall; (apply R.callE; (iterate 3 exact rfl); exact Ext.none _; intro w1 hw1; exact hcl w1 hw1.chg; rintro v Lo ⟨ov2, hov2, hsome, rfl, rfl⟩)) | (apply R.pure; exact rfl; first | (apply Ok1.move; exact rfl) | (apply Ok1.fieldAddr; (iterate 5 exact rfl)) | (apply Ok1.load; exact rfl; (apply Ld.blk1; exact rfl; exact rfl; assumption; (exact List.not_mem_nil); exact rfl)) | (apply Ok1.assign; exact rfl) | (apply Ok1.nilCheck; exact rfl))) | apply R.nil | (apply T.is; first | apply T.seq | apply T.region | apply T.skip | apply T.ret | (apply T.cond_f; exact rfl)))
  (apply RetOk.t; exact rfl)
  exact ⟨_, by (focus ((repeat' (first | exact Ext.here _ _ | apply Keep.last)); done)), ov2, hov2, rfl, rfl⟩
def deriveI (k : List Int) (label : ByteArray) (ls : List (List Int)) : List Int := hmacI k (frameI (strI label :: ls))
theorem derive_len (k : List Int) (label : ByteArray) (ls : List (List Int)) : (deriveI k label ls).length = 32 := sha_len _
theorem derive_byt (k : List Int) (label : ByteArray) (ls : List (List Int)) : Byt (deriveI k label ls) := sha_byt _
theorem frame_byt {ls : List (List Int)} (h : ∀ l ∈ ls, Byt l) : Byt (frameI ls) := by
  intro y hy
  obtain ⟨l, hl, hy⟩ := List.mem_flatMap.1 hy
  rcases List.mem_append.1 hy with hy | hy
  · exact len4_byt _ y hy
  · exact h l hl y hy
theorem str_byt (s : ByteArray) : Byt (strI s) := by
  intro y hy
  obtain ⟨z, _, rfl⟩ := List.mem_map.1 hy
  have := z.toNat_lt
  omega
theorem derive_ok (bk : Nat) (k : List Int) (hkl : k.length ≤ 999999000) (hkb : Byt k) (name : ByteArray) (hname : name.size ≤ 1000000) (pp : Option Addr) (m cap : Nat) (ps : List Pt) (hm : m = ps.length) (hm2 : m ≤ 100000) (hpb : ∀ x ∈ ps, Byt x.xs) (hbig : (frameI (strI name :: ps.map (·.xs))).length ≤ 999998000) (hbig1 : ∀ x ∈ ps, x.xs.length ≤ 1000000000) (w : World) (hk : KeyR w bk k) (hp : RdSl w pp Pt.v ps) (hall : ∀ x ∈ ps, RdSl w x.p u8V x.xs) :
    CallM Try.prog 54 [.pointer (some ⟨bk, 0, none⟩), .string name, .slice pp m cap] [] w fun v L => ∃ bk' ov, v = .pointer (some ⟨bk', 0, none⟩) ∧ OvOk 1 ov 32 (u8s (deriveI k name (ps.map (·.xs)))) ∧ L = KL bk' ov (deriveI k name (ps.map (·.xs))) := by
  obtain ⟨pk, ck, hb, hpk⟩ := hk
  have hfb : Byt (frameI (strI name :: ps.map (·.xs))) := frame_byt fun l hl => by
    rcases List.mem_cons.1 hl with rfl | hl
    · exact str_byt _
    · obtain ⟨x, hx, rfl⟩ := List.mem_map.1 hl
      exact hpb x hx
  have hdl := derive_len k name (ps.map (·.xs))
  have hdb := derive_byt k name (ps.map (·.xs))
  have hdd : deriveI k name (ps.map (·.xs)) = hmacI k (frameI (strI name :: ps.map (·.xs))) := rfl
  have hfr := fun w1 (hc : Chg [] w w1) => framed_ok name pp m cap ps hm hm2 hname hbig1 w1 (hp.chg' hc (fun _ => Off.nil _))
  have hmapl : (strI name :: ps.map (·.xs)).length = m + 1 := by simp [hm]
  generalize hfre : frameI (strI name :: ps.map (·.xs)) = fr at *
  generalize deriveI k name (ps.map (·.xs)) = d0 at *
  have hls : (u8s d0).length = 32 := by rw [u8s_len, hdl]
  have hone := u8s_one d0
  have hset : ∀ cs : List Value, cs.length = 32 → setE cs 0 (u8s d0) = some (u8s d0) := fun cs h => setE_all (by rw [hls, h])
  refine enterK (tb := tb) Try.func54 rfl Try.ntmps54 rfl ?_
  repeat' (first | (apply R.is1; first | (apply R.isBin; (apply R.pure; exact rfl; (apply Ok1.eqlP; (iterate 5 exact rfl)))) | (apply R.isCall; (apply R.callE; (iterate 3 exact rfl); exact Ext.none _; intro w1 hw1; exact new_ok (some ⟨_, 0, none⟩) 32 32 d0 hdl.symm (by decide) w1 (RdSl.of (junk := []) hw1 (by (focus ((repeat' (first | exact At.head | apply At.right)); done))) (by rw [fl_u8, List.append_nil])); rintro v Lo ⟨bk2, ov2, rfl, hov2, _, rfl⟩)) | (apply R.pure; exact rfl; first | (apply Ok1.sliceArr; (iterate 4 exact rfl)) | (apply Ok1.move; exact rfl) | (apply Ok1.assign; exact rfl))) | apply R.nil | (apply T.is; first | (apply T.drawC (id := 3) [] (by decide); ((apply A.take 0; exact rfl; exact rfl; kernel_rfl; kernel_rfl; kernel_rfl; (apply Ok1.move; exact rfl)) <;> (apply A.take 1; exact rfl; exact rfl; kernel_rfl; kernel_rfl; kernel_rfl; (apply Ok1.nilCheck; exact rfl)) <;> (apply A.take 2; exact rfl; exact rfl; kernel_rfl; kernel_rfl; kernel_rfl; (apply Ok1.fieldAddr; (iterate 5 exact rfl))) <;> (apply A.take 3; exact rfl; exact rfl; kernel_rfl; kernel_rfl; kernel_rfl; (apply Ok1.load; exact rfl; (apply Ld.blk1; exact rfl; exact rfl; assumption; (exact List.not_mem_nil); exact rfl))) <;> (apply A.take 4; exact rfl; exact rfl; kernel_rfl; kernel_rfl; kernel_rfl; (apply Ok1.move; exact rfl)) <;> (apply A.take 5; exact rfl; exact rfl; kernel_rfl; kernel_rfl; kernel_rfl; (apply Ok1.move; exact rfl)) <;> (apply A.two 6 8; kernel_rfl; exact rfl; exact rfl; rotate_left 1; (focus (((((apply R.alloc; (iterate 3 exact rfl); intro))); apply R.nil; refine ⟨?_, ?_⟩; (focus ((repeat' (exact trivial))))) <;> (apply A.one 6; kernel_rfl; exact rfl; (((apply R.callE; (iterate 3 exact rfl); exact Ext.none _; intro w1 hw1; exact hfr w1 hw1.chg; rintro v Lo ⟨f, rfl, rfl, hfo, hflen, hfcat, hfrd⟩; rw [slV_eq hfo, List.append_assoc]; rw [hfre] at hfcat; rw [hmapl] at hflen))); apply R.nil; refine ⟨?_, ?_⟩; (focus ((repeat' (exact trivial))))) <;> (apply A.one 7; kernel_rfl; exact rfl; (((apply R.callV; (iterate 3 exact rfl); intro w1 hw1; have h9 := tag_ok pk k.length ck k rfl hkl hkb (ovp f.ov) f.pts.length (ovc f.ov f.pts.length) f.pts rfl (by rw [hfcat]; exact hfb) (by rw [hfcat]; exact hbig) (by omega) w1 (hpk.chg' hw1.chg (fun _ => Off.nil _)) (RdSl.own' hw1 (Ext.mem (by (focus ((repeat' (exact Ext.here _ _)); done)))) hfo Pt.v_len) (hfrd w1 (fun z hz => hw1.get _ _ (Ext.mem (s := f.ex) (by (focus ((repeat' (first | exact Ext.here _ _ | apply Ext.app)); done))) z hz)) (fun x hx => (hall x hx).chg' hw1.chg (fun _ => Off.nil _))); rw [hfcat, ← hdd] at h9; exact h9))); apply R.nil; refine ⟨?_, ?_⟩; (focus ((repeat' (exact trivial))))) <;> (apply A.one 9; kernel_rfl; exact rfl; (((apply R.store; (iterate 4 exact rfl); exact hls; exact hone; (focus ((repeat' (first | exact Upd.head | apply Upd.right)); done)); exact hset _ rfl))); apply R.nil; refine ⟨?_, ?_⟩; (focus ((repeat' (exact trivial))))) <;> (apply A.done; kernel_rfl))); rotate_right 1; (focus (((((apply R.callE; (iterate 3 exact rfl); exact Ext.none _; intro w1 hw1; exact hfr w1 hw1.chg; rintro v Lo ⟨f, rfl, rfl, hfo, hflen, hfcat, hfrd⟩; rw [slV_eq hfo, List.append_assoc]; rw [hfre] at hfcat; rw [hmapl] at hflen))); apply R.nil; refine ⟨?_, ?_⟩; (focus ((repeat' (exact trivial))))) <;> (apply A.two 7 8; kernel_rfl; exact rfl; exact rfl; rotate_left 1; (focus (((((apply R.alloc; (iterate 3 exact rfl); intro))); apply R.nil; refine ⟨?_, ?_⟩; (focus ((repeat' (exact trivial))))) <;> (apply A.one 7; kernel_rfl; exact rfl; (((apply R.callV; (iterate 3 exact rfl); intro w1 hw1; have h9 := tag_ok pk k.length ck k rfl hkl hkb (ovp f.ov) f.pts.length (ovc f.ov f.pts.length) f.pts rfl (by rw [hfcat]; exact hfb) (by rw [hfcat]; exact hbig) (by omega) w1 (hpk.chg' hw1.chg (fun _ => Off.nil _)) (RdSl.own' hw1 (Ext.mem (by (focus ((repeat' (first | exact Ext.here _ _ | apply Ext.cons)); done)))) hfo Pt.v_len) (hfrd w1 (fun z hz => hw1.get _ _ (Ext.mem (s := f.ex) (by (focus ((repeat' (first | exact Ext.here _ _ | apply Ext.cons | apply Ext.app)); done))) z hz)) (fun x hx => (hall x hx).chg' hw1.chg (fun _ => Off.nil _))); rw [hfcat, ← hdd] at h9; exact h9))); apply R.nil; refine ⟨?_, ?_⟩; (focus ((repeat' (exact trivial))))) <;> (apply A.one 9; kernel_rfl; exact rfl; (((apply R.store; (iterate 4 exact rfl); exact hls; exact hone; exact Upd.head; exact hset _ rfl))); apply R.nil; refine ⟨?_, ?_⟩; (focus ((repeat' (exact trivial))))) <;> (apply A.done; kernel_rfl))); rotate_right 1; (focus (((((apply R.callV; (iterate 3 exact rfl); intro w1 hw1; have h9 := tag_ok pk k.length ck k rfl hkl hkb (ovp f.ov) f.pts.length (ovc f.ov f.pts.length) f.pts rfl (by rw [hfcat]; exact hfb) (by rw [hfcat]; exact hbig) (by omega) w1 (hpk.chg' hw1.chg (fun _ => Off.nil _)) (RdSl.own' hw1 (Ext.mem (by (focus ((repeat' (exact Ext.here _ _)); done)))) hfo Pt.v_len) (hfrd w1 (fun z hz => hw1.get _ _ (Ext.mem (s := f.ex) (by (focus ((repeat' (first | exact Ext.here _ _ | apply Ext.app)); done))) z hz)) (fun x hx => (hall x hx).chg' hw1.chg (fun _ => Off.nil _))); rw [hfcat, ← hdd] at h9; exact h9))); apply R.nil; refine ⟨?_, ?_⟩; (focus ((repeat' (exact trivial))))) <;> (apply A.one 8; kernel_rfl; exact rfl; (((apply R.alloc; (iterate 3 exact rfl); intro))); apply R.nil; refine ⟨?_, ?_⟩; (focus ((repeat' (exact trivial))))) <;> (apply A.one 9; kernel_rfl; exact rfl; (((apply R.store; (iterate 4 exact rfl); exact hls; exact hone; exact Upd.head; exact hset _ rfl))); apply R.nil; refine ⟨?_, ?_⟩; (focus ((repeat' (exact trivial))))) <;> (apply A.done; kernel_rfl))))))))) | apply T.seq | apply T.region | apply T.skip | apply T.ret | (apply T.cond_f; exact rfl)))
  all_goals (apply RetOk.t; exact rfl)
  all_goals rw [hdl] at hov2
  all_goals refine ⟨_, ?_, bk2, ov2, rfl, hov2, rfl⟩
  all_goals (focus ((repeat' (first | exact Ext.one _ _ | exact Ext.here _ _ | apply Keep.cons | apply Keep.last)); done))
theorem equal_ok (p1 p2 : Option Addr) (n c1 c2 : Nat) (xs : List Int) (hn : n = xs.length) (hbig : n ≤ 1000000000) (hb : Byt xs) (w : World) (h1 : RdSl w p1 u8V xs) (h2 : RdSl w p2 u8V xs) : CallW Try.prog 41 [.slice p1 n c1, .slice p2 n c2] w fun v _ => v = .bool true := by
  subst hn
  refine enterW (tb := tb) Try.func41 rfl Try.ntmps41 rfl ?_
  repeat' (first | (apply R.is1; first | (apply R.isBin; (apply R.pure; exact rfl; (apply Ok1.neq_f; exact rfl; exact rfl; omega))) | (apply R.isCall; (apply R.pure; exact rfl; (apply Ok1.lenS; (iterate 3 exact rfl)))) | (apply R.pure; exact rfl; first | (apply Ok1.move; exact rfl) | (apply Ok1.assign; exact rfl))) | apply R.nil | (apply T.is; first | apply T.seq | apply T.region | apply T.block | apply T.skip | (apply T.cond_f; exact rfl)))
  apply T.loopK (α := Nat) (I := fun i => i ≤ xs.length) (σi := fun i => [(0, .slice p1 xs.length c1), (1, .slice p2 xs.length c2), (5, .int .u8 0), (13, .int .i64 xs.length), (14, .int .i64 i)]) (Li := fun _ => []) (μ := fun i => xs.length - i) (i0 := 0)
  · exact Nat.zero_le _
  · exact ⟨rfl, rfl, rfl, rfl, rfl, trivial⟩
  · (focus ((repeat' (exact Keep.nil _)); done))
  · intro i hi
    rcases Nat.lt_or_ge i xs.length with hlt | hge
    · obtain ⟨x, hx⟩ : ∃ x, xs[i]? = some x := ⟨_, List.getElem?_eq_getElem (by omega)⟩
      obtain ⟨b1, o1, hpe1, H1⟩ := h1.at hx
      obtain ⟨b2, o2, hpe2, H2⟩ := h2.at hx
      replace H1 := H1 1 u8V_len
      replace H2 := H2 1 u8V_len
      have hxx : orI .u8 0 (xorI .u8 x x) = 0 := by
        have : xorI .u8 x x = 0 := by unfold xorI; rw [BitVec.xor_self]; rfl
        rw [this]; decide +kernel
      repeat' (first | (apply R.is1; first | (apply R.isBin; (apply R.pure; exact rfl; first | (apply Ok1.add64; exact rfl; exact rfl; omega; omega) | (apply Ok1.lss_t; exact rfl; exact rfl; omega))) | (apply R.pure; exact rfl; first | (apply Ok1.move; exact rfl) | (apply Ok1.assign; exact rfl))) | apply R.nil | (apply T.is; first | (apply T.drawC (id := 7) [] (by decide); ((apply A.take 0; exact rfl; exact rfl; kernel_rfl; kernel_rfl; kernel_rfl; (apply Ok1.move; exact rfl)) <;> (apply A.take 1; exact rfl; exact rfl; kernel_rfl; kernel_rfl; kernel_rfl; (apply Ok1.move; exact rfl)) <;> (apply A.take 2; exact rfl; exact rfl; kernel_rfl; kernel_rfl; kernel_rfl; (apply Ok1.move; exact rfl)) <;> (apply A.take 3; exact rfl; exact rfl; kernel_rfl; kernel_rfl; kernel_rfl; (apply Ok1.indexAddrP; (iterate 4 exact rfl); (exact hpe1); exact rfl; omega; omega)) <;> (apply A.take 4; exact rfl; exact rfl; kernel_rfl; kernel_rfl; kernel_rfl; (apply Ok1.load; exact rfl; (apply Ld.row0 H1; exact rfl; exact List.not_mem_nil; (iterate 3 exact rfl)))) <;> (apply A.take 5; exact rfl; exact rfl; kernel_rfl; kernel_rfl; kernel_rfl; (apply Ok1.move; exact rfl)) <;> (apply A.take 6; exact rfl; exact rfl; kernel_rfl; kernel_rfl; kernel_rfl; (apply Ok1.move; exact rfl)) <;> (apply A.take 7; exact rfl; exact rfl; kernel_rfl; kernel_rfl; kernel_rfl; (apply Ok1.indexAddrP; (iterate 4 exact rfl); (exact hpe2); exact rfl; omega; omega)) <;> (apply A.take 8; exact rfl; exact rfl; kernel_rfl; kernel_rfl; kernel_rfl; (apply Ok1.load; exact rfl; (apply Ld.row0 H2; exact rfl; exact List.not_mem_nil; (iterate 3 exact rfl)))) <;> (apply A.take 9; exact rfl; exact rfl; kernel_rfl; kernel_rfl; kernel_rfl; (apply Ok1.xorK; exact rfl; exact rfl)) <;> (apply A.take 10; exact rfl; exact rfl; kernel_rfl; kernel_rfl; kernel_rfl; (apply Ok1.orK; exact rfl; exact rfl)) <;> (apply A.take 11; exact rfl; exact rfl; kernel_rfl; kernel_rfl; kernel_rfl; (apply Ok1.assign; exact rfl)) <;> (apply A.done; kernel_rfl))) | apply T.seq | apply T.region | apply T.block | apply T.skip | (apply T.cond_t; exact rfl)))
      refine ⟨i + 1, by omega, by omega, ⟨rfl, rfl, ?_, rfl, rfl, trivial⟩, by (focus ((repeat' (exact Keep.nil _)); done))⟩
      exact congrArg (fun z => some (Value.int .u8 z)) hxx
    · repeat' (first | (apply R.is1; first | (apply R.isBin; (apply R.pure; exact rfl; first | (apply Ok1.lss_f; exact rfl; exact rfl; omega) | (apply Ok1.eql_t; exact rfl; exact rfl; omega))) | (apply R.pure; exact rfl; first | (apply Ok1.move; exact rfl) | (apply Ok1.assign; exact rfl))) | apply R.nil | (apply T.is; first | apply T.seq | apply T.region | apply T.exit | apply T.ret | (apply T.cond_f; exact rfl)))
      (apply RetOk.t; exact rfl)
      rfl
end Go.Proofs.Ytiegdpmkgegbaaa
