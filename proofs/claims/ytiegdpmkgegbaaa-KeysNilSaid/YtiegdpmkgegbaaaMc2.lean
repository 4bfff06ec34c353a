/- Contracts of mac: tag. -/
import Derived.Test.YtiegdpmkgegbaaaMc1
set_option linter.unusedSimpArgs false
set_option linter.unusedVariables false
namespace Go.Proofs.Ytiegdpmkgegbaaa
open Go.RowKit Go.Shelf
set_option maxRecDepth 100000

def st00 : RS := ⟨false, ⟨0, 0, 0, 0, 0, 0, 0, 0⟩, none, [], none, 0, 0, [], 0⟩
theorem RI00 : RI st00 [] := ⟨OvOk.start 1, Sfx.refl _ _, rfl, Nat.le_refl _, rfl, rfl, (fun x hx => by cases hx), (fun h => by cases h), fun _ => rfl⟩
def hmacI (k msg : List Int) : List Int := shaI (filledI k 92 ++ shaI (filledI k 54 ++ msg))
theorem hmac_len (k msg : List Int) : (hmacI k msg).length = 32 := sha_len _
theorem hmac_byt (k msg : List Int) : Byt (hmacI k msg) := sha_byt _
theorem tag_ok (p : Option Addr) (n cap : Nat) (k : List Int) (hn : n = k.length) (hbig : n ≤ 999999000) (hb : Byt k) (pp : Option Addr) (m cap2 : Nat) (ps : List Pt) (hm : m = ps.length) (hbyt : Byt (cat ps)) (hbig2 : (cat ps).length ≤ 999998000) (hm2 : m ≤ 1000000000) (w : World) (hp : RdSl w p u8V k) (hpp : RdSl w pp Pt.v ps) (hall : ∀ x ∈ ps, RdSl w x.p u8V x.xs) :
    CallW Try.prog 68 [.slice p n cap, .slice pp m cap2] w fun v _ => v = .agg ⟨u8s (hmacI k (cat ps))⟩ := by
  refine enterW (tb := tb) Try.func68 rfl Try.ntmps68 rfl ?_
  have hfl := filled_len k 54
  have hfl2 := filled_len k 92
  have hfb := filled_byt k 54
  have hfb2 := filled_byt k 92
  have hfil := fun w1 (hc : Chg [] w w1) => filled_ok p n cap k 54 hn hbig hb w1 (hp.chg' hc (fun _ => Off.nil _))
  have hfil2 := fun w1 (hc : Chg [] w w1) => filled_ok p n cap k 92 hn hbig hb w1 (hp.chg' hc (fun _ => Off.nil _))
  have hhm : hmacI k (cat ps) = shaI (filledI k 92 ++ shaI (filledI k 54 ++ cat ps)) := rfl
  generalize filledI k 54 = f54 at *
  generalize filledI k 92 = f92 at *
  repeat' (first | (apply R.is1; first | (apply R.pure; exact rfl; (apply Ok1.move; exact rfl)) | (apply R.alloc; (iterate 3 exact rfl); intro)) | apply R.nil | (apply T.is; first | apply T.seq | apply T.region))
  rename_i b4 b5
  repeat' ((apply R.is1; first | (apply R.isCall; (apply R.callE; (iterate 3 exact rfl); exact Ext.none _; intro w1 hw1; exact hfil w1 hw1.chg; rintro v Lo ⟨f0, rfl, rfl⟩)) | (apply R.buildSlice; (iterate 12 exact rfl); intro)))
  have hcat : cat [⟨some ⟨f0, 0, none⟩, 64, f54⟩] = f54 := by simp [cat]
  have hfv : Pt.v ⟨some ⟨f0, 0, none⟩, 64, f54⟩ = [.slice (some ⟨f0, 0, none⟩) 64 64] := by simp only [Pt.v, hfl]
  rename_i bq
  simp only [List.cons_append, List.nil_append]
  repeat' ((apply R.is1; first | (apply R.isCall; (apply R.callE (Li := RL b5 st00) (vs := [.pointer (some ⟨b5, 0, none⟩), .slice (some ⟨bq, 0, none⟩) 1 1]); (iterate 3 exact rfl); (focus ((repeat' (first | exact Ext.one _ _ | apply Ext.cons)); done)); intro w1 hw1; have h9 := rAdd_ok b5 st00 [] RI00 (some ⟨bq, 0, none⟩) 1 1 [⟨some ⟨f0, 0, none⟩, 64, f54⟩] rfl (by rw [hcat]; exact hfb) (by rw [hcat, List.nil_append, hfl]; decide) (by decide) w1 (RdSl.of (v := Pt.v) (rs := [⟨some ⟨f0, 0, none⟩, 64, f54⟩]) (junk := []) hw1 (by exact At.head) (by simp [fl, hfv])) (fun _ => Off.of (k := 0) hw1 (by (focus ((repeat' (first | exact Ext.one _ _ | apply Ext.cons)); done))) (by exact At.head)) (fun y hy => by rw [List.mem_singleton.1 hy]; exact ⟨RdSl.of (v := u8V) (rs := f54) (junk := []) hw1 (by (focus ((repeat' (first | exact At.head | apply At.tail)); done))) (by rw [fl_u8, List.append_nil]), fun _ => Off.of (k := 0) hw1 (by (focus ((repeat' (first | exact Ext.one _ _ | apply Ext.cons)); done))) (by (focus ((repeat' (first | exact At.head | apply At.tail)); done)))⟩); exact h9; rintro v Lo ⟨st1, rfl, rfl, hI1, hon1⟩; rw [hcat, List.nil_append] at hI1)) | (apply R.pure; exact rfl; (apply Ok1.move; exact rfl))))
  repeat' ((apply R.is1; (apply R.isCall; (apply R.callE (Li := RL b5 st1) (vs := [.pointer (some ⟨b5, 0, none⟩), .slice pp m cap2]); (iterate 3 exact rfl); (focus ((repeat' (exact Ext.here _ _)); done)); intro w1 hw1; exact rAdd_ok b5 st1 f54 hI1 pp m cap2 ps hm hbyt (by rw [List.length_append]; omega) hm2 w1 (hpp.chg' hw1.chg (fun _ => Off.nil _)) (hpp.old Pt.v_len (by decide) (fun _ => Off.nil _) hw1 (by (focus ((repeat' (exact Ext.here _ _)); done)))) (fun y hy => ⟨(hall y hy).chg' hw1.chg (fun _ => Off.nil _), (hall y hy).old u8V_len (by decide) (fun _ => Off.nil _) hw1 (by (focus ((repeat' (exact Ext.here _ _)); done)))⟩); rintro v Lo ⟨st2, rfl, rfl, hI2, hon2⟩))))
  have hsum := fun w1 hb hl => rSum_ok b5 st2 (f54 ++ cat ps) hI2 (by rw [List.length_append]; omega) w1 hb hl
  simp only [RL, List.cons_append]
  have hsl := sha_len (f54 ++ cat ps)
  have hls : (u8s (shaI (f54 ++ cat ps))).length = 32 := by rw [u8s_len, hsl]
  have hone := u8s_one (shaI (f54 ++ cat ps))
  have hset : ∀ cs : List Value, cs.length = 32 → setE cs 0 (u8s (shaI (f54 ++ cat ps))) = some (u8s (shaI (f54 ++ cat ps))) := fun cs h => setE_all (by rw [hls, h])
  have hsb := sha_byt (f54 ++ cat ps)
  generalize shaI (f54 ++ cat ps) = d0 at *
  have hsl2 := hmac_len k (cat ps)
  have hls2 : (u8s (hmacI k (cat ps))).length = 32 := by rw [u8s_len, hsl2]
  have hone2 := u8s_one (hmacI k (cat ps))
  have hset2 : ∀ cs : List Value, cs.length = 32 → setE cs 0 (u8s (hmacI k (cat ps))) = some (u8s (hmacI k (cat ps))) := fun cs h => setE_all (by rw [hls2, h])
  have hsub2 := subE_all hls2
  have hd2 : ∀ f1 b6 : Nat, ∀ w1, RdSl w1 (some ⟨f1, 0, none⟩) u8V f92 → RdSl w1 (some ⟨b6, 0, none⟩) u8V d0 → ∀ bq, RdSl w1 (some ⟨bq, 0, none⟩) Pt.v [⟨some ⟨f1, 0, none⟩, 64, f92⟩, ⟨some ⟨b6, 0, none⟩, 32, d0⟩] → CallW Try.prog 90 [.slice (some ⟨bq, 0, none⟩) 2 2] w1 fun v _ => v = .agg ⟨u8s (hmacI k (cat ps))⟩ := by
    intro f1 b6 w1 h1 h2 bq h3
    have hc2 : cat [⟨some ⟨f1, 0, none⟩, 64, f92⟩, ⟨some ⟨b6, 0, none⟩, 32, d0⟩] = f92 ++ d0 := by simp [cat]
    have h9 := dSum_ok (some ⟨bq, 0, none⟩) 2 2 [⟨some ⟨f1, 0, none⟩, 64, f92⟩, ⟨some ⟨b6, 0, none⟩, 32, d0⟩] rfl (by rw [hc2]; exact hfb2.app hsb) (by rw [hc2, List.length_append]; omega) (by decide) w1 h3 (fun y hy => by
      rcases List.mem_cons.1 hy with rfl | hy
      · exact h1
      · rw [List.mem_singleton.1 hy]; exact h2)
    rw [hc2, ← hhm] at h9
    exact h9
  have hpv : ∀ f1 b6 : Nat, fl Pt.v [⟨some ⟨f1, 0, none⟩, 64, f92⟩, ⟨some ⟨b6, 0, none⟩, 32, d0⟩] = [.slice (some ⟨f1, 0, none⟩) 64 64, .slice (some ⟨b6, 0, none⟩) 32 32] := fun f1 b6 => by simp [fl, Pt.v, hfl2, hsl]
  repeat' (first | (apply R.is1; first | (apply R.isCall; (apply R.callV; (iterate 3 exact rfl); intro w1 hw1; exact hsum w1 (hw1.get _ _ (At.mem (by exact At.head))) (hI2.rd hw1 (Ext.mem (by (focus ((repeat' (first | exact Ext.here _ _ | apply Ext.cons)); done))))))) | (apply R.alloc; (iterate 3 exact rfl); intro)) | (apply R.is0; (apply R.store; (iterate 4 exact rfl); exact hls; exact hone; exact Upd.head; exact hset _ rfl)) | apply R.nil | (apply T.is; apply T.seq))
  rename_i b6
  repeat' ((apply T.is; first | (apply T.drawC (id := 3) [] (by decide); ((apply A.take 0; exact rfl; exact rfl; kernel_rfl; kernel_rfl; kernel_rfl; (apply Ok1.move; exact rfl)) <;> (apply A.take 2; exact rfl; exact rfl; kernel_rfl; kernel_rfl; kernel_rfl; (apply Ok1.sliceArr; (iterate 4 exact rfl))) <;> (apply A.one 1; kernel_rfl; exact rfl; (((apply R.callE; (iterate 3 exact rfl); exact Ext.none _; intro w1 hw1; exact hfil2 w1 hw1.chg; rintro v Lo ⟨f1, rfl, rfl⟩))); apply R.nil; refine ⟨?_, ?_⟩; (focus ((repeat' (exact trivial))))) <;> (apply A.one 3; kernel_rfl; exact rfl; (((apply R.buildSlice; (iterate 12 exact rfl); intro))); apply R.nil; refine ⟨?_, ?_⟩; (focus ((repeat' (exact trivial))))) <;> (apply A.one 4; kernel_rfl; exact rfl; (((apply R.callV; (iterate 3 exact rfl); intro w1 hw1; exact hd2 f1 b6 w1 (RdSl.of (junk := []) hw1 (by (focus ((repeat' (first | exact At.head | apply At.tail)); done))) (by rw [fl_u8, List.append_nil])) (RdSl.of (junk := []) hw1 (by (focus ((repeat' (first | exact At.head | apply At.tail)); done))) (by rw [fl_u8, List.append_nil])) _ (RdSl.of (junk := []) hw1 (by exact At.head) (by rw [hpv, List.append_nil]))))); apply R.nil; refine ⟨?_, ?_⟩; (focus ((repeat' (exact trivial))))) <;> (apply A.one 5; kernel_rfl; exact rfl; (((apply R.store; (iterate 4 exact rfl); exact hls2; exact hone2; (focus ((repeat' (first | exact Upd.head | apply Upd.tail | apply Upd.right)); done)); exact hset2 _ rfl))); apply R.nil; refine ⟨?_, ?_⟩; (focus ((repeat' (exact trivial))))) <;> (apply A.done; kernel_rfl))) | apply T.ret))
  apply RetOk.c
  exact rfl
  apply Ld.ownk
  exact rfl
  exact rfl
  (focus ((repeat' (first | exact At.head | apply At.tail | apply At.right)); done))
  exact hsub2
  rfl
end Go.Proofs.Ytiegdpmkgegbaaa
