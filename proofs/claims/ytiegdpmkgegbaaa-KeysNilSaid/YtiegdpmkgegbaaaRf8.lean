/- The document's mac: Frame, Derive. -/
import Derived.Test.YtiegdpmkgegbaaaRf7
set_option linter.unusedSimpArgs false
set_option linter.unusedVariables false
namespace Go.Proofs.Ytiegdpmkgegbaaa
open Go.RowKit Go.Shelf
set_option maxRecDepth 100000

def fr (ps : List Pt) : List Int := frameI (ps.map (·.xs))
theorem fr_snoc {ps : List Pt} {i : Nat} {x : Pt} (h : ps[i]? = some x) : fr (ps.take (i + 1)) = (fr (ps.take i) ++ len4 x.xs.length) ++ x.xs := by
  unfold fr
  rw [List.take_add_one, h, List.map_append, frame_app]
  simp [frame_one]
theorem fr_le (ps : List Pt) (i : Nat) : (fr (ps.take i)).length ≤ (fr ps).length := by
  conv => rhs; rw [← List.take_append_drop i ps]
  unfold fr
  rw [List.map_append, frame_app, List.length_append]
  omega
theorem vframe_ok (pp : Option Addr) (m cap : Nat) (ps : List Pt) (hm : m = ps.length) (hm2 : m ≤ 100000) (hbig : (fr ps).length ≤ 1000000000) (hbig1 : ∀ x ∈ ps, x.xs.length ≤ 1000000000) (w : World) (hp : RdSl w pp Pt.v ps) (hall : ∀ x ∈ ps, RdSl w x.p u8V x.xs) :
    CallM Try.prog 58 [.slice pp m cap] [] w fun v L => ∃ ov, OvOk 1 ov (fr ps).length (u8s (fr ps)) ∧ v = slV ov (fr ps).length ∧ L = blkL 5 ov (u8s (fr ps)) := by
  subst hm
  refine enterK (tb := tb) Try.func58 rfl Try.ntmps58 rfl ?_
  repeat' (first | (apply R.is1; (apply R.pure; exact rfl; (apply Ok1.assign; exact rfl))) | apply R.nil | (apply T.is; first | apply T.seq | apply T.region | apply T.block))
  apply T.loopK (α := Nat × Ov) (I := fun y => y.1 ≤ ps.length ∧ OvOk 1 y.2 (fr (ps.take y.1)).length (u8s (fr (ps.take y.1)))) (σi := fun y => [(0, .slice pp ps.length cap), (3, slV y.2 (fr (ps.take y.1)).length), (4, .int .i64 y.1)]) (Li := fun y => blkL 5 y.2 (u8s (fr (ps.take y.1)))) (μ := fun y => ps.length - y.1) (i0 := (0, none))
  · exact ⟨Nat.zero_le _, OvOk.start 1⟩
  · exact ⟨rfl, rfl, rfl, trivial⟩
  · (focus ((repeat' (exact Keep.nil _)); done))
  · rintro ⟨i, ov⟩ ⟨hi, hov⟩
    simp only at hi hov ⊢
    rcases Nat.lt_or_ge i ps.length with hlt | hge
    · obtain ⟨x, hx⟩ : ∃ x, ps[i]? = some x := ⟨_, List.getElem?_eq_getElem (by omega)⟩
      obtain ⟨b, o, hpe, H⟩ := hp.at hx
      replace H := H 1 Pt.v_len
      have hs := fr_snoc hx
      have hle := fr_le ps (i + 1)
      have hrd := hall x (List.mem_of_getElem? hx)
      have hxb := hbig1 x (List.mem_of_getElem? hx)
      have h4 : (len4 (x.xs.length : Int)).length = 4 := rfl
      have hl := congrArg List.length hs
      rw [List.length_append, List.length_append, h4] at hl
      rw [hs] at hle
      rw [List.length_append, List.length_append, h4] at hle
      generalize fr (ps.take i) = a at *
      have hc4 : u8s (len4 x.xs.length) = [.int .u8 (IntKind.u8.wrap ((x.xs.length : Int) / 16777216)), .int .u8 (IntKind.u8.wrap ((x.xs.length : Int) / 65536 % 256)), .int .u8 (IntKind.u8.wrap ((x.xs.length : Int) / 256 % 256)), .int .u8 (IntKind.u8.wrap ((x.xs.length : Int) % 256))] := by
        simp only [u8_mod, Int.emod_emod_of_dvd _ (Int.dvd_refl 256)]
        rfl
      have hc5 : u8s (len4 x.xs.length) = [.int .u8 ((x.xs.length : Int) / 16777216), .int .u8 ((x.xs.length : Int) / 65536 % 256), .int .u8 ((x.xs.length : Int) / 256 % 256), .int .u8 ((x.xs.length : Int) % 256)] := by
        have : (x.xs.length : Int) / 16777216 % 256 = (x.xs.length : Int) / 16777216 := by omega
        simp only [len4, u8s, List.map_cons, List.map_nil, this]
      generalize len4 x.xs.length = l4 at *
      repeat' (first | (apply R.is1; first | (apply R.isBin; (apply R.pure; exact rfl; first | (apply Ok1.add64; exact rfl; exact rfl; omega; omega) | (apply Ok1.lss_t; exact rfl; exact rfl; omega) | (apply Ok1.quo64; exact rfl; exact rfl; omega; omega; omega) | (apply Ok1.remN; exact rfl; exact rfl; omega; omega))) | (apply R.isCall; first | (apply R.appendRd (xs := l4) (v := u8V) (sz := 1) (ov := ov) (n := a.length) (old := u8s a); (iterate 12 exact rfl); exact hov; (focus ((repeat' (first | exact Ext.all _ | apply Ext.cons)); done)); exact h4.symm; exact u8V_len; exact rfl; (intro w1 hw1; exact RdSl.of (junk := []) hw1 (by exact At.head) (by rw [fl_u8, List.append_nil]; exact hc5.symm)); (focus (rw [fl_u8]; exact u8s_one l4)); omega; intro ov1 hov1 hsome; rw [fl_u8, ← u8s_app] at hov1; rw [fl_u8, ← u8s_app]) | (apply R.appendRd (xs := x.xs) (v := u8V) (sz := 1) (ov := ov1) (n := a.length + 4) (old := u8s (a ++ l4)); (iterate 12 exact rfl); exact hov1; (focus ((repeat' (exact Ext.here _ _)); done)); exact rfl; exact u8V_len; exact rfl; (intro w1 hw1; exact hrd.chg' hw1.chg (fun _ => Off.nil _)); (focus (rw [fl_u8]; exact u8s_one x.xs)); omega; intro ov2 hov2 hsome2; rw [fl_u8, ← u8s_app] at hov2; rw [fl_u8, ← u8s_app]) | (apply R.pure; exact rfl; (apply Ok1.lenS; (iterate 3 exact rfl)))) | (apply R.pure; exact rfl; first | (apply Ok1.indexAddrP; (iterate 4 exact rfl); exact hpe; exact rfl; omega; omega) | (apply Ok1.load; exact rfl; apply Ld.row0 H; exact rfl; exact List.not_mem_nil; (iterate 3 exact rfl)) | (apply Ok1.move; exact rfl) | (apply Ok1.assign; exact rfl) | (apply Ok1.convU8; (iterate 5 exact rfl); omega; omega)) | (apply R.buildSlice; (iterate 12 exact rfl); intro)) | apply R.nil | (apply T.is; first | apply T.seq | apply T.region | apply T.block | apply T.skip | (apply T.cond_t; exact rfl)))
      refine ⟨(i + 1, ov2), ⟨by simp only; omega, ?_⟩, by simp only; omega, ⟨rfl, ?_, rfl, trivial⟩, ?_⟩
      · simp only [hs]; rw [← hs, hl, hs]; exact hov2
      · simp only [hl]; rfl
      · simp only [hs]; (focus ((repeat' (first | exact Ext.here _ _ | apply Keep.last)); done))
    · have him : i = ps.length := by omega
      subst him
      rw [List.take_length] at hov ⊢
      repeat' (first | (apply R.is1; first | (apply R.isBin; (apply R.pure; exact rfl; (apply Ok1.lss_f; exact rfl; exact rfl; omega))) | (apply R.isCall; (apply R.pure; exact rfl; (apply Ok1.lenS; (iterate 3 exact rfl)))) | (apply R.pure; exact rfl; first | (apply Ok1.move; exact rfl) | (apply Ok1.assign; exact rfl))) | apply R.nil | (apply T.is; first | apply T.seq | apply T.region | apply T.exit | apply T.ret | (apply T.cond_f; exact rfl)))
      (apply RetOk.t; exact rfl)
      exact ⟨_, by (focus ((repeat' (first | exact Ext.all _ | apply Keep.last)); done)), ov, hov, rfl, rfl⟩
theorem vderive_ok (p : Option Addr) (n cap : Nat) (k : List Int) (hn : n = k.length) (hkl : n ≤ 999999000) (hkb : Byt k) (name : ByteArray) (hname : name.size ≤ 1000000) (pp : Option Addr) (m cp : Nat) (ps : List Pt) (hm : m = ps.length) (hm2 : m ≤ 10000) (hpb : ∀ x ∈ ps, Byt x.xs) (hbig : (frameI (strI name :: ps.map (·.xs))).length ≤ 999998000) (hbig1 : ∀ x ∈ ps, x.xs.length ≤ 1000000000) (w : World) (hpk : RdSl w p u8V k) (hp : RdSl w pp Pt.v ps) (hall : ∀ x ∈ ps, RdSl w x.p u8V x.xs) :
    CallW Try.prog 47 [.agg ⟨tabV⟩, .slice p n cap, .string name, .slice pp m cp] w fun v _ => v = .agg ⟨u8s (deriveI k name (ps.map (·.xs)))⟩ := by
  subst hn hm
  have htl := tab_len
  have hto : tabV.all Value.oneCell' = true := rfl
  have hnl : (strI name).length = name.size := by simp [strI]
  have hfb : Byt (frameI (strI name :: ps.map (·.xs))) := frame_byt fun l hl => by
    rcases List.mem_cons.1 hl with rfl | hl
    · exact str_byt _
    · obtain ⟨x, hx, rfl⟩ := List.mem_map.1 hl
      exact hpb x hx
  have hdl := derive_len k name (ps.map (·.xs))
  have hdd : deriveI k name (ps.map (·.xs)) = hmacI k (frameI (strI name :: ps.map (·.xs))) := rfl
  have hpt : ∀ bn jn : Nat, [Value.slice (some ⟨bn, 0, none⟩) name.size (name.size + jn)] = fl Pt.v [⟨some ⟨bn, 0, none⟩, name.size + jn, strI name⟩] := by intro bn jn; simp [fl, Pt.v, hnl]
  have hfr : ∀ (bn jn : Nat) w1 pl cl, Chg [] w w1 → RdSl w1 pl Pt.v (⟨some ⟨bn, 0, none⟩, name.size + jn, strI name⟩ :: ps) → RdSl w1 (some ⟨bn, 0, none⟩) u8V (strI name) → CallM Try.prog 58 [.slice pl (1 + ps.length) cl] [] w1 fun v L => ∃ ov, OvOk 1 ov (frameI (strI name :: ps.map (·.xs))).length (u8s (frameI (strI name :: ps.map (·.xs)))) ∧ v = slV ov (frameI (strI name :: ps.map (·.xs))).length ∧ L = blkL 5 ov (u8s (frameI (strI name :: ps.map (·.xs)))) := by
    intro bn jn w1 pl cl hc h1 h2
    refine vframe_ok pl (1 + ps.length) cl (⟨some ⟨bn, 0, none⟩, name.size + jn, strI name⟩ :: ps) (by rw [List.length_cons]; omega) (by omega) (Nat.le_trans hbig (by decide)) ?_ w1 h1 ?_
    · intro x hx
      rcases List.mem_cons.1 hx with rfl | hx
      · simp only [hnl]; omega
      · exact hbig1 x hx
    · intro x hx
      rcases List.mem_cons.1 hx with rfl | hx
      · exact h2
      · exact (hall x hx).chg' hc (fun _ => Off.nil _)
  have htg := fun pb cb w1 (hc : Chg [] w w1) hb => vtag_ok p k.length cap k rfl hkl hkb pb _ cb (frameI (strI name :: ps.map (·.xs))) rfl hfb hbig w1 (hpk.chg' hc (fun _ => Off.nil _)) hb
  rw [← hdd] at htg
  generalize frameI (strI name :: ps.map (·.xs)) = fr0 at *
  generalize deriveI k name (ps.map (·.xs)) = d0 at *
  have hls : (u8s d0).length = 32 := by rw [u8s_len, hdl]
  have hone := u8s_one d0
  have hpo : (fl Pt.v ps).all Value.oneCell' = true := by rw [List.all_eq_true]; intro x hx; unfold fl at hx; simp only [List.mem_flatten, List.mem_map] at hx; obtain ⟨_, ⟨y, _, rfl⟩, hx⟩ := hx; rw [List.mem_singleton.1 hx]; rfl
  generalize tabV = tv at *
  refine enterW (tb := tb) Try.func47 rfl Try.ntmps47 rfl ?_
  repeat' (first | (apply R.is1; first | (apply R.box; (iterate 3 exact rfl); intro) | (apply R.alloc; (iterate 3 exact rfl); intro)) | apply R.nil | (apply T.is; first | (apply T.drawC (id := 1) [1] (by decide); ((apply A.take 0; exact rfl; exact rfl; kernel_rfl; kernel_rfl; kernel_rfl; (apply Ok1.load; exact rfl; apply Ld.ownk; exact rfl; exact rfl; exact At.head; exact subE_all htl)) <;> (apply A.take 1; exact rfl; exact rfl; kernel_rfl; kernel_rfl; kernel_rfl; (apply Ok1.move; exact rfl)) <;> (apply A.take 2; exact rfl; exact rfl; kernel_rfl; kernel_rfl; kernel_rfl; (apply Ok1.move; exact rfl)) <;> (apply A.take 5; exact rfl; exact rfl; kernel_rfl; kernel_rfl; kernel_rfl; (apply Ok1.move; exact rfl)) <;> (apply A.one 3; kernel_rfl; exact rfl; (((apply R.convBytes; (iterate 8 exact rfl); intro bn jn kn))); apply R.nil; refine ⟨?_, ?_⟩; (focus ((repeat' (first | exact trivial | (refine ⟨?_, ?_⟩; (focus ((repeat' (first | exact At.head | apply At.tail)); done)))))))) <;> (apply A.one 4; kernel_rfl; exact rfl; (((apply R.buildSlice; (iterate 12 exact rfl); intro))); apply R.nil; refine ⟨?_, ?_⟩; (focus ((repeat' (first | exact trivial | (refine ⟨?_, ?_⟩; (focus ((repeat' (first | exact At.head | apply At.tail)); done)))))))) <;> (apply A.one 6; kernel_rfl; exact rfl; (((apply R.appendRd (xs := ps) (v := Pt.v) (sz := 1) (ov := some (_, 0, [])) (n := 1) (old := [.slice (some ⟨bn, 0, none⟩) name.size (name.size + jn)]); (iterate 12 exact rfl); exact ⟨rfl, rfl⟩; (focus ((repeat' (exact Ext.one _ _)); done)); exact rfl; exact Pt.v_len; exact rfl; (intro w1 hw1; exact hp.chg' hw1.chg (fun _ => Off.nil _)); exact hpo; omega; intro ov1 hov1 hsome; rw [hpt bn jn, ← fl_app] at hov1; rw [hpt bn jn, ← fl_app, slV_eq hov1]))); apply R.nil; refine ⟨?_, ?_⟩; (focus ((repeat' (first | exact trivial | (refine ⟨?_, ?_⟩; (focus ((repeat' (first | exact At.head | apply At.tail | apply At.right)); done)))))))) <;> (apply A.one 7; kernel_rfl; exact rfl; (((apply R.callE (vs := [.slice (ovp ov1) (1 + ps.length) _]); (iterate 3 exact rfl); exact Ext.none _; intro w1 hw1; exact hfr bn jn w1 _ _ hw1.chg (RdSl.own' (sz := 1) hw1 (Ext.mem (by (focus ((repeat' (exact Ext.here _ _)); done)))) (by show OvOk 1 ov1 (ps.length + 1) _; rw [Nat.add_comm ps.length 1]; exact hov1) Pt.v_len) (RdSl.of (junk := kn) hw1 (by (focus ((repeat' (first | exact At.head | apply At.right)); done))) (by rw [fl_u8]; rfl)); rintro v Lo ⟨ov2, hov2, rfl, rfl⟩; rw [slV_eq hov2]))); apply R.nil; refine ⟨?_, ?_⟩; (focus ((repeat' (first | exact trivial | (refine ⟨?_, ?_⟩; (focus ((repeat' (first | exact At.head | apply At.tail | apply At.right)); done)))))))) <;> (apply A.one 8; kernel_rfl; exact rfl; (((apply R.callV (vs := [.agg ⟨tv⟩, .slice p k.length cap, .slice (ovp ov2) fr0.length _]); (iterate 3 exact rfl); intro w1 hw1; exact htg _ _ w1 hw1.chg (rdown hov2 hw1 (Ext.mem (by (focus ((repeat' (exact Ext.here _ _)); done)))))))); apply R.nil; refine ⟨?_, ?_⟩; (focus ((repeat' (first | exact trivial | (refine ⟨?_, ?_⟩; (focus ((repeat' (first | exact At.head | apply At.tail | apply At.right)); done)))))))) <;> (apply A.one 9; kernel_rfl; exact rfl; (((apply R.store; (iterate 4 exact rfl); exact hls; exact hone; (focus ((repeat' (first | exact Upd.head | apply Upd.tail | apply Upd.right)); done)); exact setE_all hls))); apply R.nil; refine ⟨?_, ?_⟩; (focus ((repeat' (first | exact trivial | (refine ⟨?_, ?_⟩; (focus ((repeat' (first | exact At.head | apply At.tail | apply At.right)); done)))))))) <;> (apply A.done; kernel_rfl))) | apply T.seq | apply T.region | apply T.ret))
  all_goals apply RetOk.c
  all_goals first | exact rfl | skip
  all_goals (apply Ld.ownk; exact rfl; exact rfl; (focus ((repeat' (first | exact At.head | apply At.tail | apply At.right)); done)); exact subE_all hls)
end Go.Proofs.Ytiegdpmkgegbaaa
