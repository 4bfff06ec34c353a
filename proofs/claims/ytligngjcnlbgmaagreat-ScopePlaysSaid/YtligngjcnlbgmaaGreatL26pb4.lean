/- Texts of the proof: Rf8, C1, Rf9, Tk1, L07x, C3a, D0, Eng17, C3, C4, C5, C6, C9, Eng16, M1, Se1, Se2, Se3, Se4, Se5, Se6, Sc1, Lsc, Sc2, Eng34, Sc3, Sc4, Sc5, Sc6, Sc7. -/
import Derived.Test.YtligngjcnlbgmaaGreatL26pb3
import Derived.Sort.Statements
import Derived.Shelf.SlSortCmp.Insertion
import Derived.Shelf.SlSortCmp.WholeK
import Derived.Test.YtligngjcnlbgmaaGreatShelf
set_option linter.unusedSimpArgs false
set_option linter.unusedVariables false
namespace Go.Proofs.YtligngjcnlbgmaaGreat
open Go.RowKit Go.Shelf
set_option maxRecDepth 100000
def fr (ps : List Pt) : List Int := frameI (ps.map (·.xs))
theorem fr_snoc {ps : List Pt} {i : Nat} {x : Pt} (h : ps[i]? = some x) : fr (ps.take (i + 1)) = (fr (ps.take i) ++ len4 x.xs.length) ++ x.xs := by
  unfold fr
  rw [List.take_add_one, h, List.map_append, frame_app]
  simp [frame_one]
theorem fr_le (ps : List Pt) (i : Nat) : (fr (ps.take i)).length ≤ (fr ps).length := by
  conv => rhs; rw [← List.take_append_drop i ps]
  unfold fr
  rw [List.map_append, frame_app, List.length_append]
  omega
theorem vframe_ok (pp : Option Addr) (m cap : Nat) (ps : List Pt) (hm : m = ps.length) (hm2 : m ≤ 100000) (hbig : (fr ps).length ≤ 1000000000) (hbig1 : ∀ x ∈ ps, x.xs.length ≤ 1000000000) (w : World) (hp : RdSl w pp Pt.v ps) (hall : ∀ x ∈ ps, RdSl w x.p u8V x.xs) :
    CallM Tryz.prog 119 [.slice pp m cap] [] w fun v L => ∃ ov, OvOk 1 ov (fr ps).length (u8s (fr ps)) ∧ v = slV ov (fr ps).length ∧ L = blkL 5 ov (u8s (fr ps)) := by
  subst hm
  refine enterK (tb := tb) Tryz.func119 rfl Tryz.ntmps119 rfl ?_
  repeat' (first | (apply R.is1; (apply R.pure; exact rfl; (apply Ok1.assign; exact rfl))) | apply R.nil | (apply T.is; first | apply T.seq | apply T.region | apply T.block))
  apply T.loopK (α := Nat × Ov) (I := fun y => y.1 ≤ ps.length ∧ OvOk 1 y.2 (fr (ps.take y.1)).length (u8s (fr (ps.take y.1)))) (σi := fun y => [(0, .slice pp ps.length cap), (3, slV y.2 (fr (ps.take y.1)).length), (4, .int .i64 y.1)]) (Li := fun y => blkL 5 y.2 (u8s (fr (ps.take y.1)))) (μ := fun y => ps.length - y.1) (i0 := (0, none))
  · exact ⟨Nat.zero_le _, OvOk.start 1⟩
  · exact ⟨rfl, rfl, rfl, trivial⟩
  · (focus ((repeat' (exact Keep.nil _)); done))
  · rintro ⟨i, ov⟩ ⟨hi, hov⟩
    simp only at hi hov ⊢
    rcases Nat.lt_or_ge i ps.length with hlt | hge
    · obtain ⟨x, hx⟩ : ∃ x, ps[i]? = some x := ⟨_, List.getElem?_eq_getElem (by omega)⟩
      obtain ⟨b, o, hpe, H⟩ := hp.at hx
      replace H := H 1 Pt.v_len
      have hs := fr_snoc hx
      have hle := fr_le ps (i + 1)
      have hrd := hall x (List.mem_of_getElem? hx)
      have hxb := hbig1 x (List.mem_of_getElem? hx)
      have h4 : (len4 (x.xs.length : Int)).length = 4 := rfl
      have hl := congrArg List.length hs
      rw [List.length_append, List.length_append, h4] at hl
      rw [hs] at hle
      rw [List.length_append, List.length_append, h4] at hle
      generalize fr (ps.take i) = a at *
      have hc4 : u8s (len4 x.xs.length) = [.int .u8 (IntKind.u8.wrap ((x.xs.length : Int) / 16777216)), .int .u8 (IntKind.u8.wrap ((x.xs.length : Int) / 65536 % 256)), .int .u8 (IntKind.u8.wrap ((x.xs.length : Int) / 256 % 256)), .int .u8 (IntKind.u8.wrap ((x.xs.length : Int) % 256))] := by
        simp only [u8_mod, Int.emod_emod_of_dvd _ (Int.dvd_refl 256)]
        rfl
      have hc5 : u8s (len4 x.xs.length) = [.int .u8 ((x.xs.length : Int) / 16777216), .int .u8 ((x.xs.length : Int) / 65536 % 256), .int .u8 ((x.xs.length : Int) / 256 % 256), .int .u8 ((x.xs.length : Int) % 256)] := by
        have : (x.xs.length : Int) / 16777216 % 256 = (x.xs.length : Int) / 16777216 := by omega
        simp only [len4, u8s, List.map_cons, List.map_nil, this]
      generalize len4 x.xs.length = l4 at *
      repeat' (first | (apply R.is1; first | (apply R.isBin; (apply R.pure; exact rfl; first | (apply Ok1.add64; exact rfl; exact rfl; omega; omega) | (apply Ok1.lss_t; exact rfl; exact rfl; omega) | (apply Ok1.quo64; exact rfl; exact rfl; omega; omega; omega) | (apply Ok1.remN; exact rfl; exact rfl; omega; omega))) | (apply R.isCall; first | (apply R.appendRd (xs := l4) (v := u8V) (sz := 1) (ov := ov) (n := a.length) (old := u8s a); (iterate 12 exact rfl); exact hov; (focus ((repeat' (first | exact Ext.all _ | apply Ext.cons)); done)); exact h4.symm; exact u8V_len; exact rfl; (intro w1 hw1; exact RdSl.of (junk := []) hw1 (by exact At.head) (by rw [fl_u8, List.append_nil]; exact hc5.symm)); (focus (rw [fl_u8]; exact u8s_one l4)); omega; intro ov1 hov1 hsome; rw [fl_u8, ← u8s_app] at hov1; rw [fl_u8, ← u8s_app]) | (apply R.appendRd (xs := x.xs) (v := u8V) (sz := 1) (ov := ov1) (n := a.length + 4) (old := u8s (a ++ l4)); (iterate 12 exact rfl); exact hov1; (focus ((repeat' (exact Ext.here _ _)); done)); exact rfl; exact u8V_len; exact rfl; (intro w1 hw1; exact hrd.chg' hw1.chg (fun _ => Off.nil _)); (focus (rw [fl_u8]; exact u8s_one x.xs)); omega; intro ov2 hov2 hsome2; rw [fl_u8, ← u8s_app] at hov2; rw [fl_u8, ← u8s_app]) | (apply R.pure; exact rfl; (apply Ok1.lenS; (iterate 3 exact rfl)))) | (apply R.pure; exact rfl; first | (apply Ok1.indexAddrP; (iterate 4 exact rfl); exact hpe; exact rfl; omega; omega) | (apply Ok1.load; exact rfl; apply Ld.row0 H; exact rfl; exact List.not_mem_nil; (iterate 3 exact rfl)) | (apply Ok1.move; exact rfl) | (apply Ok1.assign; exact rfl) | (apply Ok1.convU8; (iterate 5 exact rfl); omega; omega)) | (apply R.buildSlice; (iterate 12 exact rfl); intro)) | apply R.nil | (apply T.is; first | apply T.seq | apply T.region | apply T.block | apply T.skip | (apply T.cond_t; exact rfl)))
      refine ⟨(i + 1, ov2), ⟨by simp only; omega, ?_⟩, by simp only; omega, ⟨rfl, ?_, rfl, trivial⟩, ?_⟩
      · simp only [hs]; rw [← hs, hl, hs]; exact hov2
      · simp only [hl]; rfl
      · simp only [hs]; (focus ((repeat' (first | exact Ext.here _ _ | apply Keep.last)); done))
    · have him : i = ps.length := by omega
      subst him
      rw [List.take_length] at hov ⊢
      repeat' (first | (apply R.is1; first | (apply R.isBin; (apply R.pure; exact rfl; (apply Ok1.lss_f; exact rfl; exact rfl; omega))) | (apply R.isCall; (apply R.pure; exact rfl; (apply Ok1.lenS; (iterate 3 exact rfl)))) | (apply R.pure; exact rfl; first | (apply Ok1.move; exact rfl) | (apply Ok1.assign; exact rfl))) | apply R.nil | (apply T.is; first | apply T.seq | apply T.region | apply T.exit | apply T.ret | (apply T.cond_f; exact rfl)))
      (apply RetOk.t; exact rfl)
      exact ⟨_, by (focus ((repeat' (first | exact Ext.all _ | apply Keep.last)); done)), ov, hov, rfl, rfl⟩
theorem vderive_ok (p : Option Addr) (n cap : Nat) (k : List Int) (hn : n = k.length) (hkl : n ≤ 999999000) (hkb : Byt k) (name : ByteArray) (hname : name.size ≤ 1000000) (pp : Option Addr) (m cp : Nat) (ps : List Pt) (hm : m = ps.length) (hm2 : m ≤ 10000) (hpb : ∀ x ∈ ps, Byt x.xs) (hbig : (frameI (strI name :: ps.map (·.xs))).length ≤ 999998000) (hbig1 : ∀ x ∈ ps, x.xs.length ≤ 1000000000) (w : World) (hpk : RdSl w p u8V k) (hp : RdSl w pp Pt.v ps) (hall : ∀ x ∈ ps, RdSl w x.p u8V x.xs) :
    CallW Tryz.prog 117 [.agg ⟨tabV⟩, .slice p n cap, .string name, .slice pp m cp] w fun v _ => v = .agg ⟨u8s (deriveI k name (ps.map (·.xs)))⟩ := by
  subst hn hm
  have htl := tab_len
  have hto : tabV.all Value.oneCell' = true := rfl
  have hnl : (strI name).length = name.size := by simp [strI]
  have hfb : Byt (frameI (strI name :: ps.map (·.xs))) := frame_byt fun l hl => by
    rcases List.mem_cons.1 hl with rfl | hl
    · exact str_byt _
    · obtain ⟨x, hx, rfl⟩ := List.mem_map.1 hl
      exact hpb x hx
  have hdl := derive_len k name (ps.map (·.xs))
  have hdd : deriveI k name (ps.map (·.xs)) = hmacI k (frameI (strI name :: ps.map (·.xs))) := rfl
  have hpt : ∀ bn jn : Nat, [Value.slice (some ⟨bn, 0, none⟩) name.size (name.size + jn)] = fl Pt.v [⟨some ⟨bn, 0, none⟩, name.size + jn, strI name⟩] := by intro bn jn; simp [fl, Pt.v, hnl]
  have hfr : ∀ (bn jn : Nat) w1 pl cl, Chg [] w w1 → RdSl w1 pl Pt.v (⟨some ⟨bn, 0, none⟩, name.size + jn, strI name⟩ :: ps) → RdSl w1 (some ⟨bn, 0, none⟩) u8V (strI name) → CallM Tryz.prog 119 [.slice pl (1 + ps.length) cl] [] w1 fun v L => ∃ ov, OvOk 1 ov (frameI (strI name :: ps.map (·.xs))).length (u8s (frameI (strI name :: ps.map (·.xs)))) ∧ v = slV ov (frameI (strI name :: ps.map (·.xs))).length ∧ L = blkL 5 ov (u8s (frameI (strI name :: ps.map (·.xs)))) := by
    intro bn jn w1 pl cl hc h1 h2
    refine vframe_ok pl (1 + ps.length) cl (⟨some ⟨bn, 0, none⟩, name.size + jn, strI name⟩ :: ps) (by rw [List.length_cons]; omega) (by omega) (Nat.le_trans hbig (by decide)) ?_ w1 h1 ?_
    · intro x hx
      rcases List.mem_cons.1 hx with rfl | hx
      · simp only [hnl]; omega
      · exact hbig1 x hx
    · intro x hx
      rcases List.mem_cons.1 hx with rfl | hx
      · exact h2
      · exact (hall x hx).chg' hc (fun _ => Off.nil _)
  have htg := fun pb cb w1 (hc : Chg [] w w1) hb => vtag_ok p k.length cap k rfl hkl hkb pb _ cb (frameI (strI name :: ps.map (·.xs))) rfl hfb hbig w1 (hpk.chg' hc (fun _ => Off.nil _)) hb
  rw [← hdd] at htg
  generalize frameI (strI name :: ps.map (·.xs)) = fr0 at *
  generalize deriveI k name (ps.map (·.xs)) = d0 at *
  have hls : (u8s d0).length = 32 := by rw [u8s_len, hdl]
  have hone := u8s_one d0
  have hpo : (fl Pt.v ps).all Value.oneCell' = true := by rw [List.all_eq_true]; intro x hx; unfold fl at hx; simp only [List.mem_flatten, List.mem_map] at hx; obtain ⟨_, ⟨y, _, rfl⟩, hx⟩ := hx; rw [List.mem_singleton.1 hx]; rfl
  generalize tabV = tv at *
  refine enterW (tb := tb) Tryz.func117 rfl Tryz.ntmps117 rfl ?_
  repeat' (first | (apply R.is1; first | (apply R.box; (iterate 3 exact rfl); intro) | (apply R.alloc; (iterate 3 exact rfl); intro)) | apply R.nil | (apply T.is; first | (apply T.drawC (id := 1) [1] (by decide); ((apply A.take 0; exact rfl; exact rfl; kernel_rfl; kernel_rfl; kernel_rfl; (apply Ok1.load; exact rfl; apply Ld.ownk; exact rfl; exact rfl; exact At.head; exact subE_all htl)) <;> (apply A.take 1; exact rfl; exact rfl; kernel_rfl; kernel_rfl; kernel_rfl; (apply Ok1.move; exact rfl)) <;> (apply A.take 2; exact rfl; exact rfl; kernel_rfl; kernel_rfl; kernel_rfl; (apply Ok1.move; exact rfl)) <;> (apply A.take 5; exact rfl; exact rfl; kernel_rfl; kernel_rfl; kernel_rfl; (apply Ok1.move; exact rfl)) <;> (apply A.one 3; kernel_rfl; exact rfl; (((apply R.convBytes; (iterate 8 exact rfl); intro bn jn kn))); apply R.nil; refine ⟨?_, ?_⟩; (focus ((repeat' (first | exact trivial | (refine ⟨?_, ?_⟩; (focus ((repeat' (first | exact At.head | apply At.tail)); done)))))))) <;> (apply A.one 4; kernel_rfl; exact rfl; (((apply R.buildSlice; (iterate 12 exact rfl); intro))); apply R.nil; refine ⟨?_, ?_⟩; (focus ((repeat' (first | exact trivial | (refine ⟨?_, ?_⟩; (focus ((repeat' (first | exact At.head | apply At.tail)); done)))))))) <;> (apply A.one 6; kernel_rfl; exact rfl; (((apply R.appendRd (xs := ps) (v := Pt.v) (sz := 1) (ov := some (_, 0, [])) (n := 1) (old := [.slice (some ⟨bn, 0, none⟩) name.size (name.size + jn)]); (iterate 12 exact rfl); exact ⟨rfl, rfl⟩; (focus ((repeat' (exact Ext.one _ _)); done)); exact rfl; exact Pt.v_len; exact rfl; (intro w1 hw1; exact hp.chg' hw1.chg (fun _ => Off.nil _)); exact hpo; omega; intro ov1 hov1 hsome; rw [hpt bn jn, ← fl_app] at hov1; rw [hpt bn jn, ← fl_app, slV_eq hov1]))); apply R.nil; refine ⟨?_, ?_⟩; (focus ((repeat' (first | exact trivial | (refine ⟨?_, ?_⟩; (focus ((repeat' (first | exact At.head | apply At.tail | apply At.right)); done)))))))) <;> (apply A.one 7; kernel_rfl; exact rfl; (((apply R.callE (vs := [.slice (ovp ov1) (1 + ps.length) _]); (iterate 3 exact rfl); exact Ext.none _; intro w1 hw1; exact hfr bn jn w1 _ _ hw1.chg (RdSl.own' (sz := 1) hw1 (Ext.mem (by (focus ((repeat' (exact Ext.here _ _)); done)))) (by show OvOk 1 ov1 (ps.length + 1) _; rw [Nat.add_comm ps.length 1]; exact hov1) Pt.v_len) (RdSl.of (junk := kn) hw1 (by (focus ((repeat' (first | exact At.head | apply At.right)); done))) (by rw [fl_u8]; rfl)); rintro v Lo ⟨ov2, hov2, rfl, rfl⟩; rw [slV_eq hov2]))); apply R.nil; refine ⟨?_, ?_⟩; (focus ((repeat' (first | exact trivial | (refine ⟨?_, ?_⟩; (focus ((repeat' (first | exact At.head | apply At.tail | apply At.right)); done)))))))) <;> (apply A.one 8; kernel_rfl; exact rfl; (((apply R.callV (vs := [.agg ⟨tv⟩, .slice p k.length cap, .slice (ovp ov2) fr0.length _]); (iterate 3 exact rfl); intro w1 hw1; exact htg _ _ w1 hw1.chg (rdown hov2 hw1 (Ext.mem (by (focus ((repeat' (exact Ext.here _ _)); done)))))))); apply R.nil; refine ⟨?_, ?_⟩; (focus ((repeat' (first | exact trivial | (refine ⟨?_, ?_⟩; (focus ((repeat' (first | exact At.head | apply At.tail | apply At.right)); done)))))))) <;> (apply A.one 9; kernel_rfl; exact rfl; (((apply R.store; (iterate 4 exact rfl); exact hls; exact hone; (focus ((repeat' (first | exact Upd.head | apply Upd.tail | apply Upd.right)); done)); exact setE_all hls))); apply R.nil; refine ⟨?_, ?_⟩; (focus ((repeat' (first | exact trivial | (refine ⟨?_, ?_⟩; (focus ((repeat' (first | exact At.head | apply At.tail | apply At.right)); done)))))))) <;> (apply A.done; kernel_rfl))) | apply T.seq | apply T.region | apply T.ret))
  all_goals apply RetOk.c
  all_goals first | exact rfl | skip
  all_goals (apply Ld.ownk; exact rfl; exact rfl; (focus ((repeat' (first | exact At.head | apply At.tail | apply At.right)); done)); exact subE_all hls)
end Go.Proofs.YtligngjcnlbgmaaGreat
set_option linter.unusedSimpArgs false
set_option linter.unusedVariables false
namespace Go.Proofs.YtligngjcnlbgmaaGreat
open Go.RowKit Go.Shelf
set_option maxRecDepth 100000
structure Cl where
  id : Int
  roles : Int
  exp : Int
  ser : Int
  deriving DecidableEq
instance : Inhabited Cl := ⟨⟨0, 0, 0, 0⟩⟩
def Cl.v (c : Cl) : List Value := [.int .i64 c.id, .int .i64 c.roles, .int .i64 c.exp, .int .i64 c.ser]
def kvC (c : Cl) : Value := .agg ⟨[.int .i64 c.id, .int .i64 c.roles, .int .i64 c.exp, .int .i64 c.ser]⟩
def Cl.right (c : Cl) : Prop := 1 ≤ c.id ∧ c.id ≤ 65535 ∧ 0 ≤ c.roles ∧ c.roles ≤ 255 ∧ 0 ≤ c.exp ∧ c.exp ≤ 1073741824 ∧ 1 ≤ c.ser ∧ c.ser ≤ 65535
instance (c : Cl) : Decidable c.right := by unfold Cl.right; infer_instance

theorem spans_ok (a b c d : Int) : CallP Tryz.prog 120 [.agg ⟨[.int .i64 a, .int .i64 b, .int .i64 c, .int .i64 d]⟩]
    (.agg ⟨[.int .i64 a, .int .i64 1, .int .i64 65535, .int .i64 b, .int .i64 0, .int .i64 255, .int .i64 c, .int .i64 0, .int .i64 1073741824, .int .i64 d, .int .i64 1, .int .i64 65535]⟩) := by
  refine enterP (tb := tb) Tryz.func120 rfl Tryz.ntmps120 rfl fun w => ?_
  repeat' (first | (apply R.is1; first | (apply R.pure; exact rfl; first | (apply Ok1.fieldAddr; (iterate 5 exact rfl)) | (apply Ok1.load; exact rfl; first | (apply Ld.own1; exact rfl; exact rfl; (focus ((repeat' (first | exact At.head | apply At.tail | apply At.right)); done)); exact rfl) | (apply Ld.ownk; exact rfl; exact rfl; (focus ((repeat' (first | exact At.head | apply At.tail | apply At.right)); done)); exact rfl) | (apply Ld.old1; exact rfl; exact rfl; assumption; (first | exact List.not_mem_nil | assumption)) | (apply Ld.blk1; exact rfl; exact rfl; assumption; (first | exact List.not_mem_nil | assumption); exact rfl) | (apply Ld.blkk; exact rfl; exact rfl; assumption; (first | exact List.not_mem_nil | assumption); exact rfl)) | (apply Ok1.build; (iterate 5 exact rfl)) | (apply Ok1.buildA; (iterate 6 exact rfl))) | (apply R.box; (iterate 3 exact rfl); intro) | (apply R.alloc; (iterate 3 exact rfl); intro)) | (apply R.is0; first | (apply R.store; (iterate 6 exact rfl); (focus ((repeat' (first | exact Upd.head | apply Upd.tail | apply Upd.right)); done)); exact rfl) | fail) | (apply R.isG; first | (apply R.guard_run; exact rfl; exact rfl) | (apply R.guard_not; (iterate 3 exact rfl)) | (apply R.guard_not0; exact rfl; exact rfl) | (apply R.guard_un; (iterate 3 exact rfl)) | (apply R.guard_un0; exact rfl; exact rfl) | (apply R.guard rfl rfl ?_ (fun h => ⟨rfl, ?_⟩) <;> try intro)) | apply R.nil | (apply T.is; first | apply T.seq | apply T.region | apply T.block | apply T.scope | apply T.label | apply T.skip | apply T.exit | apply T.ret | (apply T.cond_t; exact rfl) | (apply T.cond_f; exact rfl) | (apply T.cond_h; exact rfl; assumption) | (apply T.cond_n; exact rfl; assumption) | (apply T.cond rfl <;> intro)) | apply Rnd.step)
  (apply RetOk.c; exact rfl; (first | (apply Ld.ownk; exact rfl; exact rfl; (focus ((repeat' (first | exact At.head | apply At.tail | apply At.right)); done)); exact rfl) | (apply Ld.own1; exact rfl; exact rfl; (focus ((repeat' (first | exact At.head | apply At.tail | apply At.right)); done)); exact rfl)))
  rfl
theorem check_ok (a b c d : Int) : CallP Tryz.prog 81 [.agg ⟨[.int .i64 a, .int .i64 b, .int .i64 c, .int .i64 d]⟩] (.int .i64 (if Cl.right ⟨a, b, c, d⟩ then 0 else 10)) := by
  refine enterP (tb := tb) Tryz.func81 rfl Tryz.ntmps81 rfl fun w => ?_
  repeat' (first | (apply R.is1; first | (apply R.isBin; first | (apply R.pure; exact rfl; first | (apply Ok1.add64; exact rfl; exact rfl; omega; omega) | (apply Ok1.lss_t; exact rfl; exact rfl; omega) | (apply Ok1.lss_f; exact rfl; exact rfl; omega) | (apply Ok1.leq_t; exact rfl; exact rfl; omega) | (apply Ok1.leq_f; exact rfl; exact rfl; omega) | (apply Ok1.geq_t; exact rfl; exact rfl; omega) | (apply Ok1.geq_f; exact rfl; exact rfl; omega)) | (apply R.lss rfl rfl rfl <;> intro) | (apply R.leq rfl rfl rfl <;> intro) | (apply R.geq rfl rfl rfl <;> intro)) | (apply R.isCall; first | apply R.callP rfl rfl rfl (spans_ok _ _ _ _)) | (apply R.pure; exact rfl; first | (apply Ok1.move; exact rfl) | (apply Ok1.fieldAddr; (iterate 5 exact rfl)) | (apply Ok1.load; exact rfl; first | (apply Ld.own1; exact rfl; exact rfl; (focus ((repeat' (first | exact At.head | apply At.tail | apply At.right)); done)); exact rfl) | (apply Ld.ownk; exact rfl; exact rfl; (focus ((repeat' (first | exact At.head | apply At.tail | apply At.right)); done)); exact rfl) | (apply Ld.old1; exact rfl; exact rfl; assumption; (first | exact List.not_mem_nil | assumption)) | (apply Ld.blk1; exact rfl; exact rfl; assumption; (first | exact List.not_mem_nil | assumption); exact rfl) | (apply Ld.blkk; exact rfl; exact rfl; assumption; (first | exact List.not_mem_nil | assumption); exact rfl)) | (apply Ok1.assign; exact rfl) | (apply Ok1.pick_t; exact rfl; exact rfl) | (apply Ok1.pick_f; exact rfl; exact rfl) | (apply Ok1.pick_h; exact rfl; assumption; exact rfl) | (apply Ok1.pick_n; exact rfl; assumption; exact rfl) | (apply Ok1.index1; (iterate 6 exact rfl); omega; omega; exact rfl) | (apply Ok1.indexk; (iterate 6 exact rfl); omega; omega; exact rfl)) | (apply R.box; (iterate 3 exact rfl); intro) | (apply R.alloc; (iterate 3 exact rfl); intro)) | (apply R.is0; first | (apply R.store; (iterate 6 exact rfl); (focus ((repeat' (first | exact Upd.head | apply Upd.tail | apply Upd.right)); done)); exact rfl) | fail) | (apply R.isG; first | (apply R.guard_run; exact rfl; exact rfl) | (apply R.guard_not; (iterate 3 exact rfl)) | (apply R.guard_not0; exact rfl; exact rfl) | (apply R.guard_un; (iterate 3 exact rfl)) | (apply R.guard_un0; exact rfl; exact rfl) | (apply R.guard rfl rfl ?_ (fun h => ⟨rfl, ?_⟩) <;> try intro)) | apply R.nil | (apply T.is; first | apply T.rounds 5 | apply T.seq | apply T.region | apply T.block | apply T.scope | apply T.label | apply T.skip | apply T.exit | apply T.ret | (apply T.cond_t; exact rfl) | (apply T.cond_f; exact rfl) | (apply T.cond_h; exact rfl; assumption) | (apply T.cond_n; exact rfl; assumption) | (apply T.cond rfl <;> intro)) | apply Rnd.step)
  all_goals (apply RetOk.t; exact rfl)
  all_goals first | rw [if_pos (by simp only [Cl.right]; omega)] | rw [if_neg (by simp only [Cl.right]; omega)]

def cmpI (x y : Int) : Int := if x < y then -1 else if y < x then 1 else 0
theorem isNaN_ok (x : Int) : CallP Tryz.prog 132 [.int .i64 x] (.bool false) := by
  refine enterP (tb := tb) Tryz.func132 rfl Tryz.ntmps132 rfl fun w => ?_
  repeat' (first | (apply R.is1; first | (apply R.isBin; first | (apply R.pure; exact rfl; first | (apply Ok1.neq_t; exact rfl; exact rfl; omega) | (apply Ok1.neq_f; exact rfl; exact rfl; omega) | (apply Ok1.neqP; (iterate 5 exact rfl)) | (apply Ok1.neqM; (iterate 5 exact rfl)) | (apply Ok1.neqS; (iterate 5 exact rfl))) | (apply R.neq rfl rfl rfl <;> intro) | (apply R.neqF; (iterate 8 exact rfl); all_goals intro)) | (apply R.pure; exact rfl; first | (apply Ok1.move; exact rfl) | (apply Ok1.assign; exact rfl))) | (apply R.is0; first | fail) | (apply R.isG; first | (apply R.guard_run; exact rfl; exact rfl) | (apply R.guard_not; (iterate 3 exact rfl)) | (apply R.guard_not0; exact rfl; exact rfl) | (apply R.guard_un; (iterate 3 exact rfl)) | (apply R.guard_un0; exact rfl; exact rfl) | (apply R.guard rfl rfl ?_ (fun h => ⟨rfl, ?_⟩) <;> try intro)) | apply R.nil | (apply T.is; first | apply T.seq | apply T.region | apply T.block | apply T.scope | apply T.label | apply T.skip | apply T.exit | apply T.ret | (apply T.cond_t; exact rfl) | (apply T.cond_f; exact rfl) | (apply T.cond_h; exact rfl; assumption) | (apply T.cond_n; exact rfl; assumption) | (apply T.cond rfl <;> intro)) | apply Rnd.step)
  (apply RetOk.t; exact rfl)
  rfl
theorem cmp_ok (x y : Int) : CallP Tryz.prog 109 [.int .i64 x, .int .i64 y] (.int .i64 (cmpI x y)) := by
  refine enterP (tb := tb) Tryz.func109 rfl Tryz.ntmps109 rfl fun w => ?_
  repeat' (first | (apply R.is1; first | (apply R.isBin; first | (apply R.pure; exact rfl; first | (apply Ok1.lss_t; exact rfl; exact rfl; omega) | (apply Ok1.lss_f; exact rfl; exact rfl; omega) | (apply Ok1.gtr_t; exact rfl; exact rfl; omega) | (apply Ok1.gtr_f; exact rfl; exact rfl; omega)) | (apply R.lss rfl rfl rfl <;> intro) | (apply R.gtr rfl rfl rfl <;> intro)) | (apply R.isCall; first | apply R.callP rfl rfl rfl (isNaN_ok _)) | (apply R.pure; exact rfl; first | (apply Ok1.move; exact rfl) | (apply Ok1.assign; exact rfl))) | (apply R.is0; first | fail) | (apply R.isG; first | (apply R.guard_run; exact rfl; exact rfl) | (apply R.guard_not; (iterate 3 exact rfl)) | (apply R.guard_not0; exact rfl; exact rfl) | (apply R.guard_un; (iterate 3 exact rfl)) | (apply R.guard_un0; exact rfl; exact rfl) | (apply R.guard rfl rfl ?_ (fun h => ⟨rfl, ?_⟩) <;> try intro)) | apply R.nil | (apply T.is; first | apply T.seq | apply T.region | apply T.block | apply T.scope | apply T.label | apply T.skip | apply T.exit | apply T.ret | (apply T.cond_t; exact rfl) | (apply T.cond_f; exact rfl) | (apply T.cond_h; exact rfl; assumption) | (apply T.cond_n; exact rfl; assumption) | (apply T.cond rfl <;> intro)) | apply Rnd.step)
  all_goals (apply RetOk.t; exact rfl)
  all_goals simp only [cmpI]
  all_goals first | rw [if_pos (by omega)] | (rw [if_neg (by omega), if_pos (by omega)]) | (rw [if_neg (by omega), if_neg (by omega)])
end Go.Proofs.YtligngjcnlbgmaaGreat
set_option linter.unusedSimpArgs false
set_option linter.unusedVariables false
namespace Go.Proofs.YtligngjcnlbgmaaGreat
open Go.RowKit Go.Shelf
set_option maxRecDepth 100000
theorem vwidth_ok (s : Nat) (h : s ≤ 2) : CallP Tryz.prog 116 [.int .i64 s] (.int .i64 ((2 ^ s : Nat) : Int)) := by
  have hs : s = 0 ∨ s = 1 ∨ s = 2 := by omega
  refine enterP (tb := tb) Tryz.func116 rfl Tryz.ntmps116 rfl fun w => ?_
  rcases hs with rfl | rfl | rfl
  all_goals repeat' (first | (apply R.is1; (apply R.pure; exact rfl; first | (apply Ok1.move; exact rfl) | (apply Ok1.assign; exact rfl) | (apply Ok1.index1; (iterate 6 exact rfl); omega; omega; exact rfl) | (apply Ok1.buildA; (iterate 6 exact rfl)))) | apply R.nil | (apply T.is; first | apply T.seq | apply T.region | apply T.ret))
  all_goals (apply RetOk.t; exact rfl)
  all_goals rfl
def beI : Nat → Int → List Int → List Int
  | 0, _, a => a
  | w + 1, n, a => beI w (n / 256) (n % 256 :: a)
theorem beI_len : ∀ (w : Nat) (n : Int) (a : List Int), (beI w n a).length = w + a.length
  | 0, _, a => by simp [beI]
  | w + 1, n, a => by rw [beI, beI_len w]; simp; omega
theorem vout_ok (s : Nat) (hs : s ≤ 2) (n : Int) (h0 : 0 ≤ n) (h1 : n ≤ 1099511627776) (w : World) : CallM Tryz.prog 75 [.agg ⟨[.int .i64 s, .int .i64 n, .slice none 0 0]⟩] [] w fun v L => ∃ ov, OvOk 1 ov (2 ^ s) (u8s (beI (2 ^ s) n [])) ∧ v = slV ov (2 ^ s) ∧ L = blkL 5 ov (u8s (beI (2 ^ s) n [])) := by
  have hw := vwidth_ok s hs
  have hs4 : (s : Int) ≠ 4 := by omega
  have hpw : 2 ^ s ≤ 4 := by
    have : s = 0 ∨ s = 1 ∨ s = 2 := by omega
    rcases this with rfl | rfl | rfl <;> decide
  have hbl := beI_len (2 ^ s) n []
  generalize hW : 2 ^ s = W at *
  rw [List.length_nil, Nat.add_zero] at hbl
  obtain ⟨V, hV⟩ : ∃ V, V = beI W n [] := ⟨_, rfl⟩
  rw [← hV] at hbl ⊢
  refine enterK (tb := tb) Tryz.func75 rfl Tryz.ntmps75 rfl ?_
  repeat' (first | (apply R.is1; first | (apply R.isBin; (apply R.pure; exact rfl; (apply Ok1.eql_f; exact rfl; exact rfl; omega))) | (apply R.pure; exact rfl; first | (apply Ok1.fieldAddr; (iterate 5 exact rfl)) | (apply Ok1.load; exact rfl; (apply Ld.own1; exact rfl; exact rfl; exact At.head; exact rfl)) | (apply Ok1.assign; exact rfl)) | (apply R.box; (iterate 3 exact rfl); intro)) | apply R.nil | (apply T.is; first | apply T.seq | apply T.region | apply T.block | apply T.skip | (apply T.cond_f; exact rfl)))
  rename_i bF
  apply T.loopK (α := Nat × Ov × List Int × Int) (I := fun y => y.1 ≤ W ∧ y.2.2.1.length = y.1 ∧ OvOk 1 y.2.1 y.2.2.1.length (u8s y.2.2.1) ∧ 0 ≤ y.2.2.2 ∧ y.2.2.2 ≤ 1099511627776 ∧ beI (W - y.1) y.2.2.2 y.2.2.1 = V) (σi := fun y => [(1, .pointer (some ⟨bF, 0, none⟩)), (3, .slice (ovp y.2.1) y.2.2.1.length (ovc y.2.1 y.2.2.1.length)), (4, .int .i64 y.2.2.2), (5, .int .i64 y.1)]) (Li := fun y => (bF, .cells ⟨[.int .i64 s, .int .i64 n, .slice none 0 0]⟩ 160 (0, 0)) :: blkL 5 y.2.1 (u8s y.2.2.1)) (μ := fun y => W - y.1) (i0 := (0, none, [], n))
  · exact ⟨Nat.zero_le _, rfl, OvOk.start 1, h0, h1, hV.symm⟩
  · exact ⟨rfl, rfl, rfl, rfl, trivial⟩
  · (focus ((repeat' (first | exact Keep.nil _ | exact Ext.one _ _ | apply Keep.cons)); done))
  · rintro ⟨i, ov, bs, m⟩ ⟨hi, hl, hov, hm0, hm1, hbe⟩
    simp only at hi hl hov hm0 hm1 hbe ⊢
    rcases Nat.lt_or_ge i W with hlt | hge
    · have hb2 : beI (W - (i + 1)) (m / 256) (m % 256 :: bs) = V := by
        rw [show W - i = (W - (i + 1)) + 1 by omega] at hbe; exact hbe
      repeat' (first | (apply R.is1; first | (apply R.isBin; (apply R.pure; exact rfl; first | (apply Ok1.add64; exact rfl; exact rfl; omega; omega) | (apply Ok1.lss_t; exact rfl; exact rfl; omega) | (apply Ok1.quo64; exact rfl; exact rfl; omega; omega; omega) | (apply Ok1.remN; exact rfl; exact rfl; omega; omega))) | (apply R.isCall; first | apply R.callP rfl rfl rfl hw | (apply R.appendRd (xs := bs) (v := u8V) (sz := 1) (ov := some (_, 0, [])) (n := 1) (old := [.int .u8 (m % 256)]); (iterate 12 exact rfl); exact ⟨rfl, rfl⟩; (focus ((repeat' (exact Ext.one _ _)); done)); exact rfl; exact u8V_len; exact rfl; (intro w1 hw1; exact rdown hov hw1 (Ext.mem (by (focus ((repeat' (first | exact Ext.all _ | apply Ext.cons)); done))))); (focus (rw [fl_u8]; exact u8s_one bs)); omega; intro ov1 hov1 hsome; rw [fl_u8, Nat.add_comm] at hov1; change OvOk 1 ov1 (m % 256 :: bs).length (u8s (m % 256 :: bs)) at hov1; rw [fl_u8])) | (apply R.pure; exact rfl; first | (apply Ok1.move; exact rfl) | (apply Ok1.fieldAddr; (iterate 5 exact rfl)) | (apply Ok1.load; exact rfl; (apply Ld.own1; exact rfl; exact rfl; exact At.head; exact rfl)) | (apply Ok1.assign; exact rfl) | (apply Ok1.convU8; (iterate 5 exact rfl); omega; omega)) | (apply R.buildSlice; (iterate 12 exact rfl); intro)) | apply R.nil | (apply T.is; first | apply T.seq | apply T.region | apply T.block | apply T.skip | (apply T.cond_t; exact rfl)))
      exact ⟨(i + 1, ov1, m % 256 :: bs, m / 256), ⟨by simp only; omega, by simp only [List.length_cons, hl], hov1, by simp only; omega, by simp only; omega, hb2⟩, by simp only; omega, ⟨rfl, by simp only; rw [← slV_eq hov1, List.length_cons, Nat.add_comm]; rfl, rfl, rfl, trivial⟩, by (focus ((repeat' (first | exact Ext.one _ _ | exact Ext.here _ _ | apply Keep.cons | apply Keep.last | apply Ext.app)); done))⟩
    · have he : i = W := by omega
      subst he
      rw [Nat.sub_self] at hbe
      have hbv : bs = V := hbe
      subst hbv
      rw [← slV_eq hov]
      repeat' (first | (apply R.is1; first | (apply R.isBin; (apply R.pure; exact rfl; (apply Ok1.lss_f; exact rfl; exact rfl; omega))) | (apply R.isCall; apply R.callP rfl rfl rfl hw) | (apply R.pure; exact rfl; first | (apply Ok1.move; exact rfl) | (apply Ok1.fieldAddr; (iterate 5 exact rfl)) | (apply Ok1.load; exact rfl; (apply Ld.own1; exact rfl; exact rfl; exact At.head; exact rfl)) | (apply Ok1.assign; exact rfl))) | apply R.nil | (apply T.is; first | apply T.seq | apply T.region | apply T.exit | apply T.ret | (apply T.cond_f; exact rfl)))
      (apply RetOk.t; exact rfl)
      rw [hl] at hov ⊢
      exact ⟨_, by (focus ((repeat' (first | exact Ext.all _ | apply Keep.last | apply Ext.cons)); done)), ov, hov, rfl, rfl⟩
theorem be4 (n : Int) : beI 4 n [] = len4 n := by
  have h2 : n / 256 / 256 = n / 65536 := by omega
  have h3 : n / 65536 / 256 = n / 16777216 := by omega
  simp only [beI, len4, h2, h3]
end Go.Proofs.YtligngjcnlbgmaaGreat
set_option linter.unusedSimpArgs false
set_option linter.unusedVariables false
namespace Go.Proofs.YtligngjcnlbgmaaGreat
open Go.RowKit Go.Shelf
set_option maxRecDepth 100000
theorem RdSl.mid {w0 w : World} {S : List Nat} {L : Lst} {b : Nat} {e : TypeId} {fz : Nat × Nat} {pre junk : List Value} {xs : List Int} (hw : Hp w0 S L w) (hat : At L b (.cells ⟨pre ++ u8s xs ++ junk⟩ e fz)) {o : Nat} (ho : o = pre.length) : RdSl w (some ⟨b, o, none⟩) u8V xs := by
  subst ho
  right
  refine ⟨b, pre.length, rfl, fun k hk => ?_⟩
  have h1 := hw.get b _ hat.mem
  rw [fl_u8] at hk ⊢
  simp only [World.cell?, h1]
  simp only [List.append_assoc, List.getElem?_toArray]
  rw [List.getElem?_append_right (by omega), List.getElem?_append_left (by omega), Nat.add_sub_cancel_left]
  rfl
end Go.Proofs.YtligngjcnlbgmaaGreat
set_option linter.unusedSimpArgs false
set_option linter.unusedVariables false
namespace Go.Proofs.YtligngjcnlbgmaaGreat
open Go.ChangeShapes Go.WideShapes Go.ChangeAt Go.RowKit
theorem Tryz.own : ownKnob Tryz.prog.godebug = none := by kernel_rfl
def byKs : List TK := [.int .u8]
theorem by_dec : ∀ cs, allW byKs cs → ∃ x : Int, u8V x = cs := by
  rintro cs h
  simp only [byKs] at h
  match cs, h with
  | [.int k1 a], h =>
    obtain ⟨⟨rfl, _⟩, _⟩ := h
    exact ⟨a, rfl⟩
theorem byt_of {xs : List Int} (h : ∀ x ∈ xs, allW byKs (u8V x)) : Byt xs := by
  intro x hx
  obtain ⟨⟨_, h2⟩, _⟩ := h x hx
  have e0 : IntKind.u8.min = 0 := rfl
  have e1 : IntKind.u8.max = 255 := rfl
  omega
end Go.Proofs.YtligngjcnlbgmaaGreat
set_option linter.unusedSimpArgs false
set_option linter.unusedVariables false
namespace Go.Proofs.YtligngjcnlbgmaaGreat
open Go.RowKit Go.Shelf
set_option maxRecDepth 100000
theorem len64_ok (x : Int) (h0 : 0 ≤ x) (h1 : x ≤ 18446744073709551615) : CallP Tryz.prog 159 [.int .u64 x] (.int .i64 (blen x.toNat)) := by
  refine enterP (tb := tb) Tryz.func159 rfl Tryz.ntmps159 rfl fun w => ?_
  repeat' (first | (apply R.is1; first | (apply R.isBin; first | (apply R.pure; exact rfl; first | (apply Ok1.add64; exact rfl; exact rfl; omega; omega) | (apply Ok1.geq_t; exact rfl; exact rfl; omega) | (apply Ok1.geq_f; exact rfl; exact rfl; omega) | (apply Ok1.shr; exact rfl; exact rfl; omega; exact Nat.le_of_ble_eq_true rfl; (first | exact pwE1 | exact pwE2 | exact pwE3 | exact pwE4 | exact pwE5 | exact pwE6 | exact pwE7 | exact pwE8 | exact pwE16 | exact pwE24 | exact pwE32 | exact rfl))) | (apply R.geq rfl rfl rfl <;> intro)) | (apply R.pure; exact rfl; first | (apply Ok1.len8; (iterate 4 exact rfl); omega; omega; kernel_rfl) | (apply Ok1.move; exact rfl) | (apply Ok1.assign; exact rfl) | (apply Ok1.index1; (iterate 6 exact rfl); omega; omega; exact rfl) | (apply Ok1.indexk; (iterate 6 exact rfl); omega; omega; exact rfl) | (apply Ok1.convI64; (iterate 5 exact rfl); omega; omega) | (apply Ok1.convU64; (iterate 5 exact rfl); omega; omega) | (apply Ok1.convU32; (iterate 5 exact rfl); omega; omega) | (apply Ok1.convU8; (iterate 5 exact rfl); omega; omega) | (apply Ok1.conv; (iterate 5 exact rfl)))) | (apply R.is0; first | fail) | (apply R.isG; first | (apply R.guard_run; exact rfl; exact rfl) | (apply R.guard_not; (iterate 3 exact rfl)) | (apply R.guard_not0; exact rfl; exact rfl) | (apply R.guard_un; (iterate 3 exact rfl)) | (apply R.guard_un0; exact rfl; exact rfl) | (apply R.guard rfl rfl ?_ (fun h => ⟨rfl, ?_⟩) <;> try intro)) | apply R.nil | (apply T.is; first | apply T.seq | apply T.region | apply T.block | apply T.scope | apply T.label | apply T.skip | apply T.exit | apply T.ret | (apply T.cond_t; exact rfl) | (apply T.cond_f; exact rfl) | (apply T.cond_h; exact rfl; assumption) | (apply T.cond_n; exact rfl; assumption) | (apply T.cond rfl <;> intro)) | apply Rnd.step)
  all_goals (apply RetOk.t; exact rfl)
  all_goals congr 1
  all_goals rw [Nat.min_eq_left (blen_le 8 (by omega))]
  all_goals first
    | (rw [blen32 (x := x.toNat) (by omega), blen16 (x := x.toNat / 4294967296) (by omega), blen8 (x := x.toNat / 4294967296 / 65536) (by omega), show (x / 4294967296 / 65536 / 256).toNat = x.toNat / 4294967296 / 65536 / 256 by omega]; omega)
    | (rw [blen32 (x := x.toNat) (by omega), blen16 (x := x.toNat / 4294967296) (by omega), show (x / 4294967296 / 65536).toNat = x.toNat / 4294967296 / 65536 by omega]; omega)
    | (rw [blen32 (x := x.toNat) (by omega), blen8 (x := x.toNat / 4294967296) (by omega), show (x / 4294967296 / 256).toNat = x.toNat / 4294967296 / 256 by omega]; omega)
    | (rw [blen32 (x := x.toNat) (by omega), show (x / 4294967296).toNat = x.toNat / 4294967296 by omega]; omega)
    | (rw [blen16 (x := x.toNat) (by omega), blen8 (x := x.toNat / 65536) (by omega), show (x / 65536 / 256).toNat = x.toNat / 65536 / 256 by omega]; omega)
    | (rw [blen16 (x := x.toNat) (by omega), show (x / 65536).toNat = x.toNat / 65536 by omega]; omega)
    | (rw [blen8 (x := x.toNat) (by omega), show (x / 256).toNat = x.toNat / 256 by omega]; omega)
    | omega
theorem len_ok (x : Int) (h0 : 0 ≤ x) (h1 : x ≤ 18446744073709551615) : CallP Tryz.prog 131 [.int .u64 x] (.int .i64 (blen x.toNat)) := by
  refine enterP (tb := tb) Tryz.func131 rfl Tryz.ntmps131 rfl fun w => ?_
  repeat' (first | (apply R.is1; first | (apply R.isCall; first | apply R.callP rfl rfl rfl (len64_ok _ (by omega) (by omega))) | (apply R.pure; exact rfl; first | (apply Ok1.move; exact rfl) | (apply Ok1.assign; exact rfl) | (apply Ok1.convI64; (iterate 5 exact rfl); omega; omega) | (apply Ok1.convU64; (iterate 5 exact rfl); omega; omega) | (apply Ok1.convU32; (iterate 5 exact rfl); omega; omega) | (apply Ok1.convU8; (iterate 5 exact rfl); omega; omega) | (apply Ok1.conv; (iterate 5 exact rfl)))) | (apply R.is0; first | fail) | (apply R.isG; first | (apply R.guard_run; exact rfl; exact rfl) | (apply R.guard_not; (iterate 3 exact rfl)) | (apply R.guard_not0; exact rfl; exact rfl) | (apply R.guard_un; (iterate 3 exact rfl)) | (apply R.guard_un0; exact rfl; exact rfl) | (apply R.guard rfl rfl ?_ (fun h => ⟨rfl, ?_⟩) <;> try intro)) | apply R.nil | (apply T.is; first | apply T.seq | apply T.region | apply T.block | apply T.scope | apply T.label | apply T.skip | apply T.exit | apply T.ret | (apply T.cond_t; exact rfl) | (apply T.cond_f; exact rfl) | (apply T.cond_h; exact rfl; assumption) | (apply T.cond_n; exact rfl; assumption) | (apply T.cond rfl <;> intro)) | apply Rnd.step)
  all_goals (apply RetOk.t; exact rfl)
  rfl
end Go.Proofs.YtligngjcnlbgmaaGreat
set_option linter.unusedSimpArgs false
set_option linter.unusedVariables false
namespace Go.Proofs.YtligngjcnlbgmaaGreat
open Go.RowKit Go.Shelf Go.Sort
theorem cmpI_neg (x y : Int) : cmpI x y < 0 ↔ x < y := by
  unfold cmpI
  repeat' split
  all_goals omega
theorem cmpI_zero (x y : Int) : cmpI x y = 0 ↔ x = y := by
  unfold cmpI
  repeat' split
  all_goals omega
end Go.Proofs.YtligngjcnlbgmaaGreat
set_option linter.unusedSimpArgs false
set_option linter.unusedVariables false
set_option linter.unusedSectionVars false
namespace Go.Proofs.YtligngjcnlbgmaaGreat
open Go.RowKit Go.Shelf Go.Sort
section
variable {α : Type} [Inhabited α] {enc : α → List Value} {k : Nat}
theorem flatK_get (hk : ∀ x, (enc x).length = k) (d : Array α) {t : Nat} (ht : t < d.size * k) : (flatK enc k d)[t]? = (fl enc d.toList)[t]? := by
  have k0 : 0 < k := by rcases Nat.eq_zero_or_pos k with h | h; · subst h; simp at ht
                        · exact h
  have hdm := Nat.div_add_mod t k
  have hml := Nat.mod_lt t k0
  have hil : t / k < d.size := by rw [Nat.div_lt_iff_lt_mul k0]; exact ht
  have hg : d.toList[t / k]? = some d[t / k]! := by simp [hil]
  have h5 := fl_get hk hg hml
  rw [show t / k * k + t % k = t by rw [Nat.mul_comm]; exact hdm] at h5
  rw [h5]
  have h6 := get_flatK enc k d t ht
  rw [getElem!_pos _ t (by simpa using ht)] at h6
  rw [Array.getElem?_eq_getElem (by simpa using ht), h6, List.getElem?_eq_getElem (by rw [hk]; exact hml), getElem!_pos _ _ (by rw [hk]; exact hml)]
theorem putCells_own (hk : ∀ x, (enc x).length = k) (d : Array α) {old junk : List Value} (ho : old.length = d.size * k) :
    putCells id 0 (flatK enc k d) ⟨old ++ junk⟩ = ⟨fl enc d.toList ++ junk⟩ := by
  apply Array.ext_getElem?
  intro t
  have hl : (fl enc d.toList).length = d.size * k := by rw [fl_len hk]; simp
  simp only [putCells, Array.getElem?_mapIdx, Nat.zero_le, true_and, Nat.zero_add, Nat.sub_zero, size_flatK, id, List.getElem?_toArray]
  by_cases ht : t < d.size * k
  · rw [List.getElem?_append_left (by omega), List.getElem?_append_left (by omega), List.getElem?_eq_getElem (by omega), ← flatK_get hk d ht]
    simp [ht]
  · rw [List.getElem?_append_right (by omega), List.getElem?_append_right (by omega), ho, hl]
    cases junk[t - d.size * k]? with
    | none => rfl
    | some v => simp [ht]

theorem sortWorld_own (hk : ∀ x, (enc x).length = k) {w : World} {b m : Nat} {d : Array α} {os : Array Obj} {old junk : List Value} {e : TypeId} {fz : Nat × Nat} (hb : w.heap[b]? = some (.cells ⟨old ++ junk⟩ e fz)) (ho : old.length = d.size * k) :
    Chg [b] w (sortWorldK enc k w b 0 m d os) ∧ (sortWorldK enc k w b 0 m d os).heap[b]? = some (.cells ⟨fl enc d.toList ++ junk⟩ e fz) := by
  have hlt := (Array.getElem?_eq_some_iff.1 hb).1
  refine ⟨⟨rfl, rfl, rfl, ?_, ?_, ?_⟩, ?_⟩
  · simp [sortWorldK, grow, putRowK, putRow, mapBlock, Sort.ahead]
  · simp [sortWorldK, grow, putRowK, putRow, mapBlock, Sort.ahead]
  · intro i hi hs
    have hne : b ≠ i := fun h => hs (by simp [h])
    simp [sortWorldK, grow, putRowK, putRow, mapBlock, Sort.ahead, Array.getElem?_append, hi, Array.getElem_modify, hne]
  · simp only [sortWorldK, grow, putRowK, putRow, mapBlock, Sort.ahead]
    rw [Array.getElem?_append_left (by simpa using hlt), Array.getElem?_modify, if_pos rfl, hb]
    simp only [Option.map_some, onCells, putCells_own hk d ho]

/-- Ascending: no later one is less than an earlier one. -/
def Asc (cf : α → α → Int) (rs : List α) : Prop := rs.Pairwise fun a b => ¬ cf b a < 0

/-- What the program's slices.SortFunc does to an own slice of rows. -/
theorem sort_ok {P : Program} {ρ : Ren} (L : SlLaysF0.n6 P ρ) (aE : ∀ w, (isAgg (ρ.t 24)).run P w = .ok true w) (zE : ∀ w, (Go.sizeOf (ρ.t 24)).run P w = .ok k w) (hk : ∀ x, (enc x).length = k) (h1 : ∀ x, ∀ v ∈ enc x, v.oneCell' = true) (cf : α → α → Int) (hO : SWO (ltOf cf)) (g : Nat) (cb : List Value) {f : FuncId} (hf : ρ.f 6 = f)
    (b cap : Nat) (rs : List α) (junk : List Value) (e : TypeId) (w : World) (he : Enters P g) (hsz : rs.length ≤ 1000000)
    (hcmp : ∀ W, Chg [b] w W → ∀ x y, CallW P g ([.agg ⟨enc x⟩, .agg ⟨enc y⟩] ++ cb) W fun v _ => v = .int .i64 (cf x y)) :
    CallM P f [.slice (some ⟨b, 0, none⟩) rs.length cap, .func (.func g) #[] cb.toArray] [(b, .cells ⟨fl enc rs ++ junk⟩ e (0, 0))] w fun v L' => v = .tuple #[] ∧ ∃ rs' : List α, rs'.Perm rs ∧ Asc cf rs' ∧ L' = [(b, .cells ⟨fl enc rs' ++ junk⟩ e (0, 0))] :=
  ⟨fun hw => by
    subst hf
    have hb := hw.get b _ List.mem_cons_self
    have hlt := (Array.getElem?_eq_some_iff.1 hb).1
    have hfl : (fl enc rs).length = rs.length * k := fl_len hk rs
    have hH : HoldsK enc k w b 0 rs.toArray := by
      intro j hj
      have hj' : j < rs.length * k := by simpa using hj
      have h2 := flatK_get hk rs.toArray (t := j) (by simpa using hj')
      refine ⟨?_, ?_⟩
      · simp only [World.cell?, hb, Nat.zero_add]
        rw [getElem!_pos _ j hj]
        rw [Array.getElem?_eq_getElem hj] at h2
        simp only [id, h2]
        simp [List.getElem?_append_left, hfl, hj']
      · simp [World.frozen?, hb]
    have hcm : CmpLays P g cb.toArray enc k cf b 0 rs.toArray.size w := by
      intro m os dk hs x y
      have hc := (sortWorld_own hk (m := m) (d := dk) (os := os) hb (by rw [hfl, hs]; simp)).1
      have := (hcmp _ hc x y).run
      have e1 : (#[Value.agg (enc x).toArray, Value.agg (enc y).toArray] ++ cb.toArray : Array Value) = ([Value.agg ⟨enc x⟩, Value.agg ⟨enc y⟩] ++ cb).toArray := by simp
      rw [e1]
      refine Calls.mono this ?_
      rintro e w' ⟨v, h3, h4, h5⟩
      exact ⟨by rw [h3, h4], h5.grow⟩
    have := AnyQ.slices_SortFunc L k aE zE enc hk h1 cf hO g cb.toArray b 0 cap rs.toArray w he hcm hH hlt (by simp; omega)
    have e0 : rs.toArray.size = rs.length := by simp
    rw [e0] at this
    refine Calls.mono this ?_
    rintro e' w' ⟨h3, d', n, os, hp, hs, hw'⟩
    have hds : d'.size = rs.length := by simpa using hp.1
    obtain ⟨g1, g2⟩ := sortWorld_own hk (m := n) (d := d') (os := os) hb (by rw [hfl, hds])
    refine ⟨.tuple #[], [(b, .cells ⟨fl enc d'.toList ++ junk⟩ e (0, 0))], h3, ⟨rfl, d'.toList, ?_, ?_, rfl⟩, ?_⟩
    · have h4 := hp.2.2
      have e1 : d'.extract 0 rs.length = d' := by rw [← hds]; simp
      have e2 : rs.toArray.extract 0 rs.length = rs.toArray := by rw [← e0]; simp
      rw [e1, e2] at h4
      exact h4
    · refine List.pairwise_iff_getElem.2 fun i j hi hj hij => ?_
      have h4 := hs i j (Nat.zero_le _) hij (by simp at hj ⊢; omega)
      simp only [ltOf, decide_eq_false_iff_not] at h4
      simp only [Array.length_toList] at hi hj
      rw [getElem!_pos d' i (by omega), getElem!_pos d' j (by omega)] at h4
      exact h4
    · rw [hw']
      exact hw.upd .head g1 g2⟩
end
end Go.Proofs.YtligngjcnlbgmaaGreat
set_option linter.unusedSimpArgs false
set_option linter.unusedVariables false
namespace Go.Proofs.YtligngjcnlbgmaaGreat
open Go.RowKit Go.Shelf
set_option maxRecDepth 100000
def tms (n : Int) : Int := 3 * blen (min (max n 0) 1073741824 + 1).toNat
end Go.Proofs.YtligngjcnlbgmaaGreat
set_option linter.unusedSimpArgs false
set_option linter.unusedVariables false
namespace Go.Proofs.YtligngjcnlbgmaaGreat
open Go.RowKit Go.Shelf
set_option maxRecDepth 100000
structure Rm where
  kind : Int
  cl : Cl
  inc : Int
  deriving DecidableEq
def Rm.v (r : Rm) : List Value := [.int .i64 r.kind, .int .i64 r.cl.id, .int .i64 r.cl.roles, .int .i64 r.cl.exp, .int .i64 r.cl.ser, .int .i64 r.inc]
theorem Rm.v_len (r : Rm) : r.v.length = 6 := rfl
def Rm.chk (r : Rm) : Int := if r.kind < 0 ∨ 3 ≤ r.kind then 13 else if ¬ r.cl.right ∨ r.inc < 0 ∨ 2147483647 < r.inc then 10 else 0
def Rm.outw (a b : Rm) : Bool := decide (a.cl = b.cl ∧ (a.inc > b.inc ∨ a.inc = b.inc ∧ a.kind > b.kind))
theorem clv_inj {a b : Cl} : ([.int .i64 a.id, .int .i64 a.roles, .int .i64 a.exp, .int .i64 a.ser] : List Value) = [.int .i64 b.id, .int .i64 b.roles, .int .i64 b.exp, .int .i64 b.ser] ↔ a = b := by
  simp only [List.cons.injEq, Value.int.injEq, true_and, and_true]
  constructor
  · rintro ⟨h1, h2, h3, h4⟩
    cases a; cases b; simp_all
  · rintro h; simp [h]
end Go.Proofs.YtligngjcnlbgmaaGreat
set_option linter.unusedSimpArgs false
set_option linter.unusedVariables false
namespace Go.Proofs.YtligngjcnlbgmaaGreat
open Go.RowKit Go.Shelf
set_option maxRecDepth 100000
def entV (x : Rm × Int) : List Value := [.int .i64 x.1.kind, .int .i64 x.1.cl.id, .int .i64 x.1.cl.roles, .int .i64 x.1.cl.exp, .int .i64 x.1.cl.ser, .int .i64 x.1.inc, .int .i64 x.2]
def vvQ (x : Rm × Int) : Value := .agg ⟨entV x⟩
theorem ktC : KeyT Tryz.prog 67 kvC := KeyT.flat tb (fun c : Cl => [.int .i64 c.id, .int .i64 c.roles, .int .i64 c.exp, .int .i64 c.ser]) rfl rfl rfl (fun _ => rfl) fun _ _ h => clv_inj.1 h
abbrev QMs := Ms Cl (Rm × Int)
abbrev QS := Option (Nat × QMs × Nat)
def QS.ms (st : QS) : QMs := match st with | none => [] | some (_, ms, _) => ms
def adde (ms : QMs) (r : Rm) : Int := if r.chk ≠ 0 then r.chk else match mget r.cl ms with
  | some h => if r.outw h.1 then 0 else 9
  | none => if ms.length = 32 then 6 else 0
inductive QSame : QS → QS → Prop where
  | same (st : QS) : QSame st st
  | made (b : Nat) : QSame none (some (b, [], 0))

end Go.Proofs.YtligngjcnlbgmaaGreat
set_option linter.unusedSimpArgs false
set_option linter.unusedVariables false
namespace Go.Proofs.YtligngjcnlbgmaaGreat
open Go.RowKit Go.Shelf
set_option maxRecDepth 100000
theorem adde_bad {ms : QMs} {r : Rm} (h : r.chk ≠ 0) : adde ms r = r.chk := by simp only [adde, if_pos h]
theorem adde_some {ms : QMs} {r : Rm} (h : r.chk = 0) {x : Rm × Int} (hm : mget r.cl ms = some x) : adde ms r = if r.outw x.1 then 0 else 9 := by
  unfold adde; rw [if_neg (by simpa using h), hm]
theorem adde_none {ms : QMs} {r : Rm} (h : r.chk = 0) (hm : mget r.cl ms = none) : adde ms r = if ms.length = 32 then 6 else 0 := by
  unfold adde; rw [if_neg (by simpa using h), hm]
end Go.Proofs.YtligngjcnlbgmaaGreat
set_option linter.unusedSimpArgs false
set_option linter.unusedVariables false
namespace Go.Proofs.YtligngjcnlbgmaaGreat
open Go.RowKit Go.Shelf
set_option maxRecDepth 100000
def or2 (a b : Int) : Int := if a ≠ 0 then a else b
theorem or2_ok (a b : Int) (bl e : Nat) (w : World) (hb : w.heap[bl]? = some (.cells ⟨[.int .i64 a, .int .i64 b]⟩ e (0, 0))) :
    CallW Tryz.prog 108 [.slice (some ⟨bl, 0, none⟩) 2 2] w fun v _ => v = .int .i64 (or2 a b) := by
  refine enterW (tb := tb) Tryz.func108 rfl Tryz.ntmps108 rfl ?_
  repeat' (first | (apply R.is1; first | (apply R.isBin; first | (apply R.pure; exact rfl; first | (apply Ok1.add64; exact rfl; exact rfl; omega; omega) | (apply Ok1.lss_t; exact rfl; exact rfl; omega) | (apply Ok1.lss_f; exact rfl; exact rfl; omega)) | (apply R.neq rfl rfl rfl <;> intro)) | (apply R.isCall; (apply R.pure; exact rfl; (apply Ok1.lenS; (iterate 3 exact rfl)))) | (apply R.pure; exact rfl; first | (apply Ok1.move; exact rfl) | (apply Ok1.load; exact rfl; (apply Ld.blk1; exact rfl; exact rfl; assumption; (exact List.not_mem_nil); exact rfl)) | (apply Ok1.assign; exact rfl) | (apply Ok1.indexAddr; (iterate 5 exact rfl); omega; omega))) | apply R.nil | (apply T.is; first | apply T.rounds 3 | apply T.seq | apply T.region | apply T.block | apply T.skip | apply T.exit | apply T.ret | (apply T.cond_t; exact rfl) | (apply T.cond_f; exact rfl)))
  all_goals (apply RetOk.t; exact rfl)
  all_goals simp only [or2]
  all_goals first | (rw [if_pos (by omega)]; done) | (rw [if_neg (by omega)]; done) | (rw [if_neg (by omega)]; congr 1; omega)
end Go.Proofs.YtligngjcnlbgmaaGreat
set_option linter.unusedSimpArgs false
set_option linter.unusedVariables false
set_option linter.unusedSectionVars false
namespace Go.Proofs.YtligngjcnlbgmaaGreat
open Go.RowKit Go.Shelf
section
variable {X : Cx} {σ : Env} {L : Lst} {ty : TypeId} {pos : String} {af : Array Edge} {d : Option Nat} {g : Option (Nat × Bool)} {x : Operand} {κ α : Type} {kv : κ → Value} {vv : α → Value} {ms : Ms κ α} {clk b c : Nat}
theorem find_born {ms : Ms κ α} {e : κ × α × Nat} (he : e ∈ ms) (hnd : (ms.map (·.2.2)).Nodup) : (Array.mk (ms.map fun x => (⟨kv x.1, vv x.2.1, x.2.2⟩ : MapEntry))).find? (fun y => y.born == e.2.2) = some ⟨kv e.1, vv e.2.1, e.2.2⟩ := by
  rw [List.find?_toArray]
  induction ms with
  | nil => cases he
  | cons m ms ih =>
    simp only [List.map_cons, List.nodup_cons] at hnd
    simp only [List.map_cons, List.find?_cons]
    rcases List.mem_cons.1 he with rfl | he
    · simp
    · have : m.2.2 ≠ e.2.2 := fun h => hnd.1 (h ▸ List.mem_map.2 ⟨e, he, rfl⟩)
      simp only [beq_eq_false_iff_ne.2 this]
      exact ih he hnd.2
theorem Ok1.entry {e : κ × α × Nat} {seen : List Nat} (hx : ev σ x = some (.pointer (some ⟨c, 0, none⟩))) (hit : At L c (.mapIter (some b) clk ⟨seen ++ [e.2.2]⟩ clk)) (hat : At L b (mobj kv vv ms clk)) (he : e ∈ ms) (hnd : (ms.map (·.2.2)).Nodup) :
    Ok1 X ⟨d, .entry x, ty, pos, af, g⟩ σ L (.tuple ⟨[kv e.1, vv e.2.1]⟩) := .mk fun a w ha hw => by
  have hb := hw.get _ _ hat.mem
  have hc := hw.get _ _ hit.mem
  have g1 : (getObj c).run X.P w = .ok (.mapIter (some b) clk ⟨seen ++ [e.2.2]⟩ clk) w := by simp only [getObj, Sem.run, hc]
  have g2 : (getObj b).run X.P w = .ok (mobj kv vv ms clk) w := by simp only [getObj, Sem.run, hb]; rfl
  have hback : (Array.mk (seen ++ [e.2.2])).back? = some e.2.2 := by simp
  have hf := find_born (kv := kv) (vv := vv) he hnd
  simp only [execOp, ha.ev hx, Instr.entry, Sem.run_bind, g1, Result.andThen_ok, hback, g2, mobj, bne_self_eq_false, Bool.false_eq_true, if_false, hf, Sem.run_pure]
end
theorem nodup_map_born {κ α : Type} {l : Ms κ α} (h : (l.map (·.2.2)).Nodup) : l.Nodup := by
  induction l with
  | nil => simp
  | cons m l ih =>
    simp only [List.map_cons, List.nodup_cons] at h ⊢
    exact ⟨fun hm => h.1 (List.mem_map.2 ⟨m, hm, rfl⟩), ih h.2⟩
theorem nodup_sub_len {β : Type} [DecidableEq β] : ∀ {l m : List β}, l.Nodup → (∀ x ∈ l, x ∈ m) → l.length ≤ m.length
  | [], _, _, _ => Nat.zero_le _
  | a :: l, m, h, hs => by
    rw [List.nodup_cons] at h
    have h1 := hs a List.mem_cons_self
    have h2 : l.length ≤ (m.erase a).length := nodup_sub_len h.2 fun x hx => by
      have hne : x ≠ a := fun e => h.1 (e ▸ hx)
      exact (List.mem_erase_of_ne hne).2 (hs x (List.mem_cons_of_mem _ hx))
    rw [List.length_erase_of_mem h1] at h2
    have : 0 < m.length := List.length_pos_of_mem h1
    simp only [List.length_cons]
    omega
/-- Which entries have been met. -/
structure Met {κ α : Type} (ms vis : Ms κ α) : Prop where
  nd : (vis.map (·.2.2)).Nodup
  sub : ∀ e ∈ vis, e ∈ ms
theorem Met.start {κ α : Type} (ms : Ms κ α) : Met ms [] := ⟨by simp, by simp⟩
theorem Met.step {κ α : Type} {ms vis : Ms κ α} (h : Met ms vis) {e : κ × α × Nat} (he : e ∈ ms) (hn : e.2.2 ∉ vis.map (·.2.2)) : Met ms (vis ++ [e]) := by
  refine ⟨?_, ?_⟩
  · rw [List.map_append, List.nodup_append]
    refine ⟨h.nd, by simp, ?_⟩
    intro a ha b hb e'
    simp only [List.map_cons, List.map_nil, List.mem_singleton] at hb
    subst hb; subst e'
    exact hn ha
  · intro x hx
    rcases List.mem_append.1 hx with hx | hx
    · exact h.sub x hx
    · rw [List.mem_singleton.1 hx]; exact he
theorem Met.perm {κ α : Type} {ms vis : Ms κ α} (h : Met ms vis) (hnd : (ms.map (·.2.2)).Nodup) (hall : ∀ e ∈ ms, e.2.2 ∈ vis.map (·.2.2)) : vis.Perm ms := by
  classical
  have nv : vis.Nodup := nodup_map_born h.nd
  have nm : ms.Nodup := nodup_map_born hnd
  refine (List.perm_ext_iff_of_nodup nv nm).2 fun e => ⟨h.sub e, fun he => ?_⟩
  obtain ⟨e', h1, h2⟩ := List.mem_map.1 (hall e he)
  have h3 := h.sub e' h1
  have : e' = e := by
    have inj : ∀ (ms : Ms κ α), (ms.map (·.2.2)).Nodup → e' ∈ ms → e ∈ ms → e'.2.2 = e.2.2 → e' = e := by
      intro ms
      induction ms with
      | nil => intro _ h; cases h
      | cons m ms ih =>
        intro hn h1 h2 h3
        simp only [List.map_cons, List.nodup_cons] at hn
        rcases List.mem_cons.1 h1 with a1 | a1
        · rcases List.mem_cons.1 h2 with a2 | a2
          · rw [a1, a2]
          · exact (hn.1 (a1 ▸ h3 ▸ List.mem_map.2 ⟨e, a2, rfl⟩)).elim
        · rcases List.mem_cons.1 h2 with a2 | a2
          · exact (hn.1 (a2 ▸ h3 ▸ List.mem_map.2 ⟨e', a1, rfl⟩)).elim
          · exact ih hn.2 a1 a2 h3
    exact inj ms hnd h3 he h2
  exact this ▸ h1
theorem Met.le {κ α : Type} {ms vis : Ms κ α} (h : Met ms vis) (hnd : (ms.map (·.2.2)).Nodup) {e : κ × α × Nat} (he : e ∈ ms) (hn : e.2.2 ∉ vis.map (·.2.2)) : vis.length < ms.length := by
  have h2 := h.step he hn
  have h1 : ((vis ++ [e]).map (·.2.2)).length ≤ (ms.map (·.2.2)).length := nodup_sub_len h2.nd fun x hx => by
    obtain ⟨y, hy, rfl⟩ := List.mem_map.1 hx
    exact List.mem_map.2 ⟨y, h2.sub y hy, rfl⟩
  simp only [List.length_map, List.length_append, List.length_cons, List.length_nil] at h1
  omega
end Go.Proofs.YtligngjcnlbgmaaGreat
set_option linter.unusedSimpArgs false
set_option linter.unusedVariables false
set_option linter.unusedSectionVars false
namespace Go.Proofs.YtligngjcnlbgmaaGreat
section
variable {κ α : Type} [DecidableEq κ]
def mkeys (ms : Ms κ α) : List κ := ms.map (·.1)
theorem mget_none {k : κ} : ∀ {ms : Ms κ α}, mget k ms = none ↔ k ∉ mkeys ms
  | [] => by simp [mget, mkeys]
  | x :: r => by
    have ih := mget_none (k := k) (ms := r)
    by_cases h : x.1 = k
    · simp [mget, mkeys, h]
    · simp only [mget, h, if_false, ih, mkeys, List.map_cons, List.mem_cons, not_or]
      exact ⟨fun h' => ⟨fun e => h e.symm, h'⟩, fun h' => h'.2⟩
theorem mget_of_mem {e : κ × α × Nat} : ∀ {ms : Ms κ α}, (mkeys ms).Nodup → e ∈ ms → mget e.1 ms = some e.2.1
  | [], _, h => by cases h
  | x :: r, hn, h => by
    simp only [mkeys, List.map_cons, List.nodup_cons] at hn
    rcases List.mem_cons.1 h with rfl | h
    · simp [mget]
    · have : x.1 ≠ e.1 := fun he => hn.1 (he ▸ List.mem_map.2 ⟨e, h, rfl⟩)
      simp only [mget, this, if_false]
      exact mget_of_mem hn.2 h
theorem mset_keys (k : κ) (a : α) : ∀ (ms : Ms κ α), mkeys (mset k a ms) = mkeys ms
  | [] => rfl
  | x :: r => by
    by_cases h : x.1 = k
    · simp [mset, mkeys, h]
    · have := mset_keys k a r
      simp only [mset, h, if_false, mkeys, List.map_cons] at this ⊢
      rw [this]
theorem mset_borns (k : κ) (a : α) : ∀ (ms : Ms κ α), (mset k a ms).map (·.2.2) = ms.map (·.2.2)
  | [] => rfl
  | x :: r => by
    by_cases h : x.1 = k
    · simp [mset, h]
    · simp only [mset, h, if_false, List.map_cons, mset_borns k a r]
theorem mset_mem {k : κ} {a : α} {e : κ × α × Nat} : ∀ {ms : Ms κ α}, e ∈ mset k a ms → e ∈ ms ∨ (e.1 = k ∧ e.2.1 = a ∧ ∃ a', (e.1, a', e.2.2) ∈ ms)
  | [], h => by cases h
  | x :: r, h => by
    by_cases hk : x.1 = k
    · simp only [mset, hk, if_true] at h
      rcases List.mem_cons.1 h with rfl | h
      · exact .inr ⟨rfl, rfl, x.2.1, by rw [← hk]; exact List.mem_cons_self⟩
      · exact .inl (List.mem_cons_of_mem _ h)
    · simp only [mset, hk, if_false] at h
      rcases List.mem_cons.1 h with rfl | h
      · exact .inl List.mem_cons_self
      · rcases mset_mem h with h | ⟨h1, h2, a', h3⟩
        · exact .inl (List.mem_cons_of_mem _ h)
        · exact .inr ⟨h1, h2, a', List.mem_cons_of_mem _ h3⟩
theorem mget_mset {k : κ} {a o : α} (c : κ) : ∀ {ms : Ms κ α}, mget k ms = some o → mget c (mset k a ms) = if k = c then some a else mget c ms
  | [], h => by simp [mget] at h
  | x :: r, h => by
    by_cases hk : x.1 = k
    · simp only [mset, hk, if_true, mget]
      split <;> rfl
    · simp only [mget, hk, if_false] at h
      have ih := mget_mset c h (a := a)
      simp only [mset, hk, if_false, mget, ih]
      by_cases hc : x.1 = c
      · rw [if_pos hc, if_pos hc, if_neg (fun e => hk (by rw [hc, ← e]))]
      · rw [if_neg hc, if_neg hc]
theorem mget_snoc {k : κ} {a : α} {b : Nat} (c : κ) : ∀ {ms : Ms κ α}, mget k ms = none → mget c (ms ++ [(k, a, b)]) = if k = c then some a else mget c ms
  | [], _ => by simp [mget]
  | x :: r, h => by
    by_cases hk : x.1 = k
    · simp [mget, hk] at h
    · simp only [mget, hk, if_false] at h
      have ih := mget_snoc c h (a := a) (b := b)
      simp only [List.cons_append, mget, ih]
      by_cases hc : x.1 = c
      · rw [if_pos hc, if_pos hc, if_neg (fun e => hk (by rw [hc, ← e]))]
      · rw [if_neg hc, if_neg hc]
theorem mdel_sub (k : κ) : ∀ (ms : Ms κ α), (mdel k ms).Sublist ms
  | [] => .slnil
  | x :: r => by
    by_cases hk : x.1 = k
    · simp only [mdel, hk, if_true]; exact List.sublist_cons_self _ _
    · simp only [mdel, hk, if_false]; exact (mdel_sub k r).cons_cons _
theorem mget_mdel {k : κ} (c : κ) : ∀ {ms : Ms κ α}, (mkeys ms).Nodup → mget c (mdel k ms) = if k = c then none else mget c ms
  | [], _ => by simp [mdel, mget]
  | x :: r, hn => by
    simp only [mkeys, List.map_cons, List.nodup_cons] at hn
    by_cases hk : x.1 = k
    · simp only [mdel, hk, if_true, mget]
      split
      · rename_i hc
        exact mget_none.2 (by rw [← hc, ← hk]; exact hn.1)
      · rfl
    · have ih := mget_mdel (k := k) c hn.2
      simp only [mdel, hk, if_false, mget, ih]
      by_cases hc : x.1 = c
      · rw [if_pos hc, if_pos hc, if_neg (fun e => hk (by rw [hc, ← e]))]
      · rw [if_neg hc, if_neg hc]
/-- A map that is in order: keys once each, stamps once each and below the clock. -/
structure MWf (s : Ms κ α × Nat) : Prop where
  bnd : ∀ e ∈ s.1, e.2.2 < s.2
  nd : (s.1.map (·.2.2)).Nodup
  keys : (mkeys s.1).Nodup
theorem MWf.nil : MWf (([] : Ms κ α), 0) := ⟨by simp, by simp, by simp [mkeys]⟩
theorem MWf.set {s : Ms κ α × Nat} (h : MWf s) (k : κ) (a : α) : MWf (mset k a s.1, s.2) := by
  refine ⟨fun e he => ?_, by rw [mset_borns]; exact h.nd, by rw [mset_keys]; exact h.keys⟩
  rcases mset_mem he with he | ⟨_, _, a', h3⟩
  · exact h.bnd e he
  · exact h.bnd (e.1, a', e.2.2) h3
theorem MWf.snoc {s : Ms κ α × Nat} (h : MWf s) {k : κ} {a : α} (hk : mget k s.1 = none) : MWf (s.1 ++ [(k, a, s.2)], s.2 + 1) := by
  refine ⟨fun e he => ?_, ?_, ?_⟩
  · rcases List.mem_append.1 he with he | he
    · have := h.bnd e he; simp only; omega
    · rw [List.mem_singleton.1 he]; simp
  · rw [List.map_append, List.nodup_append]
    refine ⟨h.nd, by simp, fun x hx y hy e => ?_⟩
    obtain ⟨z, hz, rfl⟩ := List.mem_map.1 hx
    have := h.bnd z hz
    simp only [List.map_cons, List.map_nil, List.mem_singleton] at hy
    omega
  · simp only [mkeys, List.map_append, List.nodup_append]
    refine ⟨h.keys, by simp, fun x hx y hy e => ?_⟩
    simp only [List.map_cons, List.map_nil, List.mem_singleton] at hy
    exact mget_none.1 hk (hy ▸ e ▸ hx)
end
end Go.Proofs.YtligngjcnlbgmaaGreat
set_option linter.unusedSimpArgs false
set_option linter.unusedVariables false
namespace Go.Proofs.YtligngjcnlbgmaaGreat
open Go.RowKit Go.Shelf
set_option maxRecDepth 100000
def sHide : ByteArray := ⟨#[104, 105, 100, 101]⟩
def sBind : ByteArray := ⟨#[98, 105, 110, 100]⟩
/-- One block of a stream. -/
def strm1 (k nonce : List Int) (i : Nat) : List Int := hmacI k ((nonce.length : Int) :: (nonce ++ len4 i))
def strmB (k nonce : List Int) (m : Nat) : List Int := (List.range m).flatMap (strm1 k nonce)
theorem strmB_succ (k nonce : List Int) (m : Nat) : strmB k nonce (m + 1) = strmB k nonce m ++ strm1 k nonce m := by
  unfold strmB
  rw [List.range_succ, List.flatMap_append]
  simp
theorem strm1_len (k nonce : List Int) (m : Nat) : (strm1 k nonce m).length = 32 := hmac_len _ _
theorem strmB_len (k nonce : List Int) (m : Nat) : (strmB k nonce m).length = 32 * m := by
  induction m with
  | zero => rfl
  | succ m ih => rw [strmB_succ, List.length_append, ih, strm1_len]; omega
/-- The first bytes of a key's stream. -/
def strmI (k nonce : List Int) (n : Nat) : List Int := (strmB (deriveI k sHide []) nonce ((n + 31) / 32)).take n
theorem strmI_len (k nonce : List Int) (n : Nat) : (strmI k nonce n).length = n := by
  unfold strmI
  rw [List.length_take, strmB_len]
  omega
/-- Each byte with the stream's. -/
def turnI (b s : List Int) : List Int := List.zipWith (xorI .u8) b s
theorem turnI_len {b s : List Int} (h : b.length = s.length) : (turnI b s).length = b.length := by
  unfold turnI
  rw [List.length_zipWith]
  omega
theorem turnI_byt (b s : List Int) : Byt (turnI b s) := by
  intro y hy
  unfold turnI at hy
  rw [List.mem_iff_getElem] at hy
  obtain ⟨i, hi, rfl⟩ := hy
  rw [List.getElem_zipWith]
  exact xor8_range _ _
/-- The tag of what is bound. -/
def stagI (k nonce bound body : List Int) : List Int := hmacI (deriveI k sBind []) (frameI [nonce, bound, body])
def sealI (k nonce bound b : List Int) : List Int := turnI b (strmI k nonce b.length) ++ stagI k nonce bound (turnI b (strmI k nonce b.length))
theorem stagI_len (k nonce bound body : List Int) : (stagI k nonce bound body).length = 32 := hmac_len _ _
theorem sealI_len (k nonce bound b : List Int) : (sealI k nonce bound b).length = b.length + 32 := by
  unfold sealI
  rw [List.length_append, stagI_len, turnI_len (strmI_len _ _ _).symm]
theorem four_ok (n : Int) (h0 : 0 ≤ n) (h1 : n ≤ 4294967295) (w : World) : CallM Tryz.prog 114 [.int .i64 n] [] w fun v L => ∃ b, v = .slice (some ⟨b, 0, none⟩) 4 4 ∧ L = [(b, .cells ⟨u8s (len4 n)⟩ 5 (0, 0))] := by
  refine enterK (tb := tb) Tryz.func114 rfl Tryz.ntmps114 rfl ?_
  repeat' (first | (apply R.is1; first | (apply R.isBin; (apply R.pure; exact rfl; (apply Ok1.shr; exact rfl; exact rfl; omega; exact Nat.le_of_ble_eq_true rfl; (first | exact pwE8 | exact pwE16 | exact pwE24)))) | (apply R.pure; exact rfl; first | (apply Ok1.move; exact rfl) | (apply Ok1.assign; exact rfl) | (apply Ok1.convU8; (iterate 5 exact rfl); omega; omega) | (apply Ok1.conv; (iterate 5 exact rfl))) | (apply R.buildSlice; (iterate 12 exact rfl); intro)) | apply R.nil | (apply T.is; first | apply T.seq | apply T.region | apply T.ret))
  (apply RetOk.t; exact rfl)
  refine ⟨_, ?_, _, rfl, rfl⟩
  simp only [u8_mod]
  apply Keep.eq1
  have h4 : n / 16777216 = n / 16777216 % 256 := by omega
  rw [h4]
  simp only [u8s, len4, List.map, Int.emod_emod]
theorem scheck_ok (b : Nat) (p : Option Addr) (n cap : Nat) (h : n ≤ 32) : CallP Tryz.prog 79 [.pointer (some ⟨b, 0, none⟩), .slice p n cap] (.int .i64 0) := by
  refine enterP (tb := tb) Tryz.func79 rfl Tryz.ntmps79 rfl fun w => ?_
  repeat' (first | (apply R.is1; first | (apply R.isBin; (apply R.pure; exact rfl; first | (apply Ok1.eqlP; (iterate 5 exact rfl)) | (apply Ok1.gtr_f; exact rfl; exact rfl; omega))) | (apply R.isCall; (apply R.pure; exact rfl; (apply Ok1.lenS; (iterate 3 exact rfl)))) | (apply R.pure; exact rfl; first | (apply Ok1.move; exact rfl) | (apply Ok1.assign; exact rfl) | (apply Ok1.pick_f; exact rfl; exact rfl))) | (apply R.isG; (apply R.guard_run; exact rfl; exact rfl)) | apply R.nil | (apply T.is; first | apply T.seq | apply T.region | apply T.skip | apply T.ret | (apply T.cond_f; exact rfl)))
  (apply RetOk.t; exact rfl)
  rfl
theorem ktag_ok (bk : Nat) (k : List Int) (hkl : k.length ≤ 999999000) (hkb : Byt k) (pp : Option Addr) (m cap : Nat) (ps : List Pt) (hm : m = ps.length) (hbyt : Byt (cat ps)) (hbig : (cat ps).length ≤ 999998000) (hm2 : m ≤ 1000000000) (w : World) (hk : KeyR w bk k) (hpp : RdSl w pp Pt.v ps) (hall : ∀ x ∈ ps, RdSl w x.p u8V x.xs) :
    CallW Tryz.prog 113 [.pointer (some ⟨bk, 0, none⟩), .slice pp m cap] w fun v _ => v = .agg ⟨u8s (hmacI k (cat ps))⟩ := by
  obtain ⟨pk, ck, hb, hpk⟩ := hk
  have htg := fun w1 (hc : Chg [] w w1) => tag_ok pk k.length ck k rfl hkl hkb pp m cap ps hm hbyt hbig hm2 w1 (hpk.chg' hc (fun _ => Off.nil _)) (hpp.chg' hc (fun _ => Off.nil _)) (fun x hx => (hall x hx).chg' hc (fun _ => Off.nil _))
  have hls : (u8s (hmacI k (cat ps))).length = 32 := by rw [u8s_len, hmac_len]
  have hone := u8s_one (hmacI k (cat ps))
  generalize u8s (hmacI k (cat ps)) = D at *
  have hset : ∀ cs : List Value, cs.length = 32 → setE cs 0 D = some D := fun cs h => setE_all (by rw [hls, h])
  refine enterW (tb := tb) Tryz.func113 rfl Tryz.ntmps113 rfl ?_
  repeat' (first | (apply R.is1; first | (apply R.isBin; (apply R.pure; exact rfl; (apply Ok1.eqlP; (iterate 5 exact rfl)))) | (apply R.isCall; (apply R.callW (vs := [.slice pk k.length ck, .slice pp m cap]); (iterate 3 exact rfl); intro w1 hw1; exact htg w1 hw1.chg; rintro v rfl)) | (apply R.pure; exact rfl; first | (apply Ok1.move; exact rfl) | (apply Ok1.fieldAddr; (iterate 5 exact rfl)) | (apply Ok1.load; exact rfl; (apply Ld.blk1; exact rfl; exact rfl; assumption; (exact List.not_mem_nil); exact rfl)) | (apply Ok1.nilCheck; exact rfl)) | (apply R.alloc; (iterate 3 exact rfl); intro)) | (apply R.is0; (apply R.store; (iterate 4 exact rfl); exact hls; exact hone; exact Upd.head; exact hset _ rfl)) | apply R.nil | (apply T.is; first | apply T.seq | apply T.region | apply T.skip | apply T.ret | (apply T.cond_f; exact rfl)))
  (apply RetOk.c; exact rfl; (apply Ld.ownk; exact rfl; exact rfl; exact At.head; exact subE_all hls))
  rfl
theorem bclone_ok (p : Option Addr) (n cap : Nat) (xs : List Int) (hn : n = xs.length) (hbig : n ≤ 1000000000) (w : World) (hp : RdSl w p u8V xs) : CallM Tryz.prog 115 [.slice p n cap] [] w fun v L => ∃ ov, OvOk 1 ov n (u8s xs) ∧ v = slV ov n ∧ L = blkL 5 ov (u8s xs) := by
  refine enterK (tb := tb) Tryz.func115 rfl Tryz.ntmps115 rfl ?_
  cases p with
  | none =>
    have hx : xs = [] := by
      rcases hp with h | ⟨b, o, h, _⟩
      · exact h
      · cases h
    subst hx
    have h0 : n = 0 := hn
    repeat' (first | (apply R.is1; first | (apply R.isBin; (apply R.pure; exact rfl; (apply Ok1.eqlS; (iterate 5 exact rfl)))) | (apply R.pure; exact rfl; first | (apply Ok1.move; exact rfl) | (apply Ok1.assign; exact rfl))) | apply R.nil | (apply T.is; first | apply T.seq | apply T.region | apply T.ret | (apply T.cond_t; exact rfl)))
    (apply RetOk.t; exact rfl)
    exact ⟨_, by (focus ((repeat' (exact Keep.nil _)); done)), none, by rw [h0]; exact OvOk.start 1, by rw [h0]; rfl, rfl⟩
  | some a =>
    repeat' (first | (apply R.is1; first | (apply R.buildSlice0; (iterate 4 exact rfl); intro b0) | (apply R.isBin; (apply R.pure; exact rfl; (apply Ok1.eqlS; (iterate 5 exact rfl)))) | (apply R.isCall; (apply R.appendRd (xs := xs) (v := u8V) (sz := 1) (ov := some (b0, 0, [])) (n := 0) (old := []); (iterate 12 exact rfl); exact ⟨rfl, rfl⟩; (focus ((repeat' (exact Ext.one _ _)); done)); exact hn; exact u8V_len; exact rfl; (intro w1 hw1; exact hp.chg hw1.chg (Off.nil _)); (rw [fl_u8]; exact u8s_one xs); omega; intro ov1 hov1 hsome)) | (apply R.pure; exact rfl; first | (apply Ok1.move; exact rfl) | (apply Ok1.assign; exact rfl))) | apply R.nil | (apply T.is; first | apply T.seq | apply T.region | apply T.skip | apply T.ret | (apply T.cond_f; exact rfl)))
    rw [Nat.zero_add, List.nil_append, fl_u8] at hov1
    rw [Nat.zero_add, List.nil_append, fl_u8]
    repeat' (fail)
    (apply RetOk.t; exact rfl)
    refine ⟨_, ?_, ov1, hov1, rfl, rfl⟩
    (focus ((repeat' (first | exact Ext.here _ _ | apply Keep.last)); done))
end Go.Proofs.YtligngjcnlbgmaaGreat
set_option linter.unusedSimpArgs false
set_option linter.unusedVariables false
namespace Go.Proofs.YtligngjcnlbgmaaGreat
open Go.RowKit Go.Shelf
set_option maxRecDepth 100000
theorem stream_ok (bk : Nat) (k : List Int) (hkl : k.length ≤ 999999000) (hkb : Byt k) (pn : Option Addr) (nl cn : Nat) (nonce : List Int) (hnl : nl = nonce.length) (hn32 : nl ≤ 32) (hnb : Byt nonce) (n : Nat) (hn : n ≤ 65536) (w : World) (hk : KeyR w bk k) (hpn : RdSl w pn u8V nonce) :
    CallM Tryz.prog 72 [.pointer (some ⟨bk, 0, none⟩), .slice pn nl cn, .int .i64 n] [] w fun v L => ∃ ov W, OvOk 1 ov W.length (u8s W) ∧ n ≤ W.length ∧ W.take n = strmI k nonce n ∧ v = .tuple #[.slice (ovp ov) n n, .int .i64 0] ∧ L = blkL 5 ov (u8s W) := by
  subst hnl
  have hck := scheck_ok bk pn nonce.length cn hn32
  have hdr := fun w1 (hc : Chg [] w w1) => derive_ok bk k hkl hkb sHide (by decide) none 0 0 [] rfl (by decide) (by simp) (by simp [frameI, len4, strI, sHide]) (by simp) w1 (hk.chg hc) (.inl rfl) (by simp)
  simp only [List.map_nil] at hdr
  have hdl := derive_len k sHide []
  have hdb := derive_byt k sHide []
  have hst : strmI k nonce n = (strmB (deriveI k sHide []) nonce ((n + 31) / 32)).take n := rfl
  generalize deriveI k sHide [] = k2 at *
  refine enterK (tb := tb) Tryz.func72 rfl Tryz.ntmps72 rfl ?_
  repeat' (first | (apply R.is1; first | (apply R.isBin; (apply R.pure; exact rfl; first | (apply Ok1.lss_f; exact rfl; exact rfl; omega) | (apply Ok1.gtr_f; exact rfl; exact rfl; omega) | (apply Ok1.neq_f; exact rfl; exact rfl; omega))) | (apply R.isCall; first | apply R.callP rfl rfl rfl hck | (apply R.callE (vs := [.pointer (some ⟨bk, 0, none⟩), .string sHide, .slice none 0 0]); (iterate 3 exact rfl); exact Ext.none _; intro w1 hw1; exact hdr w1 hw1.chg; rintro v Lo ⟨bd, ovd, rfl, hovd, rfl⟩)) | (apply R.pure; exact rfl; first | (apply Ok1.move; exact rfl) | (apply Ok1.assign; exact rfl))) | apply R.nil | (apply T.is; first | apply T.seq | apply T.region | apply T.block | apply T.skip | (apply T.cond_f; exact rfl)))
  have hkd : KL bd ovd k2 = KL bd ovd k2 := rfl
  generalize hKL : KL bd ovd k2 = LK at *
  have hKR : ∀ L w1, Hp w [] L w1 → (∀ z ∈ LK, z ∈ L) → KeyR w1 bd k2 := fun L w1 h1 h2 => KeyR.of (by rw [hdl]; exact hovd) h1 (hKL ▸ h2)
  apply T.loopK (α := Nat × Ov) (I := fun y => 32 * y.1 < n + 32 ∧ OvOk 1 y.2 (32 * y.1) (u8s (strmB k2 nonce y.1))) (σi := fun y => [(0, .pointer (some ⟨bk, 0, none⟩)), (1, .slice pn nonce.length cn), (2, .int .i64 n), (9, .pointer (some ⟨bd, 0, none⟩)), (10, slV y.2 (32 * y.1)), (11, .int .i64 y.1)]) (Li := fun y => LK ++ blkL 5 y.2 (u8s (strmB k2 nonce y.1))) (μ := fun y => n + 32 - 32 * y.1) (i0 := (0, none))
  · exact ⟨by omega, OvOk.start 1⟩
  · exact ⟨rfl, rfl, rfl, rfl, rfl, rfl, trivial⟩
  · simp only [blkL, List.append_nil]
    (focus ((repeat' (first | exact Ext.all _ | apply Keep.last)); done))
  · rintro ⟨i, ov⟩ ⟨hi, hov⟩
    simp only at hi hov ⊢
    by_cases hlt : 32 * i < n
    · have hfo := fun w1 => four_ok (i : Int) (by omega) (by omega) w1
      have htg : ∀ L w1 b1 b3 b4, Hp w [] L w1 → (∀ z ∈ LK, z ∈ L) → (b1, Obj.cells ⟨[.int .u8 nonce.length]⟩ 5 (0, 0)) ∈ L → (b4, Obj.cells ⟨u8s (len4 i)⟩ 5 (0, 0)) ∈ L → (b3, Obj.cells ⟨[.slice (some ⟨b1, 0, none⟩) 1 1, .slice pn nonce.length cn, .slice (some ⟨b4, 0, none⟩) 4 4]⟩ 22 (0, 0)) ∈ L → CallW Tryz.prog 113 [.pointer (some ⟨bd, 0, none⟩), .slice (some ⟨b3, 0, none⟩) 3 3] w1 fun v _ => v = .agg ⟨u8s (strm1 k2 nonce i)⟩ := by
        intro L w1 b1 b3 b4 hw h1 h2 h3 h4
        have hct : cat [⟨some ⟨b1, 0, none⟩, 1, [(nonce.length : Int)]⟩, ⟨pn, cn, nonce⟩, ⟨some ⟨b4, 0, none⟩, 4, len4 i⟩] = (nonce.length : Int) :: (nonce ++ len4 i) := by simp [cat]
        have h := ktag_ok bd k2 (by rw [hdl]; decide) hdb (some ⟨b3, 0, none⟩) 3 3 [⟨some ⟨b1, 0, none⟩, 1, [(nonce.length : Int)]⟩, ⟨pn, cn, nonce⟩, ⟨some ⟨b4, 0, none⟩, 4, len4 i⟩] rfl ?_ ?_ (by decide) w1 (hKR L w1 hw h1) (RdSl.ofMem (junk := []) hw h4 rfl) ?_
        · rw [hct] at h
          exact h
        · rw [hct]
          intro y hy
          rcases List.mem_cons.1 hy with rfl | hy
          · omega
          · rcases List.mem_append.1 hy with hy | hy
            · exact hnb y hy
            · exact len4_byt _ y hy
        · rw [hct]
          simp [len4]
          omega
        · intro x hx
          simp only [List.mem_cons, List.not_mem_nil, or_false] at hx
          rcases hx with rfl | rfl | rfl
          · exact RdSl.ofMem (junk := []) hw h2 rfl
          · exact hpn.chg' hw.chg (fun _ => Off.nil _)
          · exact RdSl.ofMem (junk := []) hw h3 (by rw [fl_u8, List.append_nil])
      repeat' (first | (apply R.is1; first | (apply R.isBin; (apply R.pure; exact rfl; (apply Ok1.lss_t; exact rfl; exact rfl; omega))) | (apply R.isCall; first | (apply R.pure; exact rfl; apply Ok1.lenOv; (iterate 3 exact rfl); exact hov) | (apply R.callE (vs := [.int .i64 i]); (iterate 3 exact rfl); exact Ext.none _; intro w1 hw1; exact hfo w1; rintro v Lo ⟨b4, rfl, rfl⟩) | (apply R.pure; exact rfl; (apply Ok1.lenS; (iterate 3 exact rfl)))) | (apply R.pure; exact rfl; first | (apply Ok1.move; exact rfl) | (apply Ok1.convU8; (iterate 5 exact rfl); omega; omega)) | (apply R.buildSlice; (iterate 12 exact rfl); intro)) | apply R.nil | (apply T.is; first | apply T.seq | apply T.region | apply T.block | apply T.skip | (apply T.cond_t; exact rfl)))
      rename_i b1 b3
      have hD := strm1_len k2 nonce i
      have hsu := strmB_succ k2 nonce i
      have hbl := strmB_len k2 nonce i
      generalize hDD : strm1 k2 nonce i = D at *
      have hls : (u8s D).length = 32 := by rw [u8s_len, hD]
      have hset : ∀ cs : List Value, cs.length = 32 → setE cs 0 (u8s D) = some (u8s D) := fun cs h => setE_all (by rw [hls, h])
      repeat' (first | (apply R.is1; first | (apply R.isBin; (apply R.pure; exact rfl; (apply Ok1.add64; exact rfl; exact rfl; omega; omega))) | (apply R.isCall; first | (apply R.callW (vs := [.pointer (some ⟨bd, 0, none⟩), .slice (some ⟨b3, 0, none⟩) 3 3]); (iterate 3 exact rfl); intro w1 hw1; exact htg _ w1 b1 b3 b4 hw1 (Ext.mem (by (focus ((repeat' (first | exact Ext.here _ _ | apply Ext.cons)); done)))) (by simp) (by simp) (by simp); rintro v rfl) | (apply R.appendRd (xs := D) (v := u8V) (sz := 1) (ov := ov) (n := 32 * i) (old := u8s (strmB k2 nonce i)); (iterate 12 exact rfl); exact hov; (focus ((repeat' (first | exact Ext.all _ | apply Ext.cons | apply Ext.app)); done)); exact hD.symm; exact u8V_len; exact rfl; (intro w1 hw1; exact RdSl.of (junk := []) hw1 (by exact At.head) (by rw [fl_u8, List.append_nil])); (rw [fl_u8]; exact u8s_one _); omega; intro ov1 hov1 hsome)) | (apply R.pure; exact rfl; first | (apply Ok1.sliceArr; (iterate 4 exact rfl)) | (apply Ok1.move; exact rfl) | (apply Ok1.assign; exact rfl)) | (apply R.alloc; (iterate 3 exact rfl); intro)) | (apply R.is0; (apply R.store; (iterate 4 exact rfl); exact hls; exact u8s_one D; exact Upd.head; exact hset _ rfl)) | apply R.nil | (apply T.is; apply T.region))
      rw [fl_u8, ← u8s_app, ← hsu] at hov1
      rw [fl_u8, ← u8s_app, ← hsu]
      have h32 : 32 * (i + 1) = 32 * i + 32 := by omega
      refine ⟨(i + 1, ov1), ?_⟩
      simp only [h32]
      exact ⟨⟨by omega, hov1⟩, by omega, ⟨rfl, rfl, rfl, rfl, rfl, rfl, trivial⟩, by (focus ((repeat' (first | exact Ext.here _ _ | apply Keep.app | apply Keep.last | apply Ext.cons | apply Ext.app)); done))⟩
    · repeat' (first | (apply R.is1; first | (apply R.isBin; (apply R.pure; exact rfl; (apply Ok1.lss_f; exact rfl; exact rfl; omega))) | (apply R.isCall; (apply R.pure; exact rfl; apply Ok1.lenOv; (iterate 3 exact rfl); exact hov)) | (apply R.pure; exact rfl; first | (apply Ok1.sliceCut; (iterate 4 exact rfl); exact hov; exact rfl; exact rfl; omega; omega) | (apply Ok1.move; exact rfl) | (apply Ok1.assign; exact rfl))) | apply R.nil | (apply T.is; first | apply T.seq | apply T.region | apply T.exit | apply T.ret | (apply T.cond_f; exact rfl)))
      (apply RetOk.tt; exact rfl; exact rfl)
      have hi2 : (n + 31) / 32 = i := by omega
      refine ⟨blkL 5 ov (u8s (strmB k2 nonce i)), by (focus ((repeat' (first | exact Ext.all _ | apply Keep.last | apply Ext.app)); done)), ov, strmB k2 nonce i, by rw [strmB_len]; exact hov, by rw [strmB_len]; omega, by rw [hst, hi2], ?_, rfl⟩
      cases ov with
      | none =>
        have h0 : 32 * i = 0 := hov.2
        have h1 : n = 0 := by omega
        subst h1
        rfl
      | some q => rfl
theorem turn_set {b s : List Int} {i : Nat} {x y : Int} (hx : b[i]? = some x) (hy : s[i]? = some y) (hl : b.length = s.length) : turnI (b.take (i + 1)) (s.take (i + 1)) ++ b.drop (i + 1) = (turnI (b.take i) (s.take i) ++ b.drop i).set i (xorI .u8 x y) := by
  obtain ⟨h1, rfl⟩ := List.getElem?_eq_some_iff.1 hx
  obtain ⟨h2, rfl⟩ := List.getElem?_eq_some_iff.1 hy
  have hti : (turnI (b.take i) (s.take i)).length = i := by
    unfold turnI
    rw [List.length_zipWith, List.length_take, List.length_take]
    omega
  apply List.ext_getElem?
  intro j
  rw [List.getElem?_set]
  have hl2 : (turnI (b.take i) (s.take i) ++ b.drop i).length = b.length := by rw [List.length_append, hti, List.length_drop]; omega
  unfold turnI
  rcases Nat.lt_trichotomy j i with h | h | h
  · rw [if_neg (by omega), List.getElem?_append_left (by rw [List.length_zipWith, List.length_take, List.length_take]; omega), List.getElem?_append_left (by rw [List.length_zipWith, List.length_take, List.length_take]; omega)]
    rw [List.getElem?_zipWith, List.getElem?_zipWith, List.getElem?_take_of_lt (by omega), List.getElem?_take_of_lt (by omega), List.getElem?_take_of_lt (by omega), List.getElem?_take_of_lt (by omega)]
  · subst h
    rw [if_pos rfl, if_pos (by unfold turnI at hl2; rw [hl2]; exact h1), List.getElem?_append_left (by rw [List.length_zipWith, List.length_take, List.length_take]; omega), List.getElem?_zipWith, List.getElem?_take_of_lt (by omega), List.getElem?_take_of_lt (by omega), List.getElem?_eq_getElem h1, List.getElem?_eq_getElem h2]
  · rw [if_neg (by omega), List.getElem?_append_right (by rw [List.length_zipWith, List.length_take, List.length_take]; omega), List.getElem?_append_right (by rw [List.length_zipWith, List.length_take, List.length_take]; omega), List.getElem?_drop, List.getElem?_drop, List.length_zipWith, List.length_zipWith, List.length_take, List.length_take, List.length_take, List.length_take]
    congr 1
    omega
theorem xor8_zero {x : Int} (h : 0 ≤ x ∧ x ≤ 255) : xorI .u8 x 0 = x := by
  have : ∀ n : Fin 256, xorI .u8 (n.val : Int) 0 = (n.val : Int) := by decide +kernel
  have h2 := this ⟨x.toNat, by omega⟩
  simp only at h2
  rw [Int.toNat_of_nonneg h.1] at h2
  exact h2
theorem List.set_getElem?_self9 {α : Type} {Z : List α} {i : Nat} {x : α} (h : Z[i]? = some x) : Z.set i x = Z := by
  obtain ⟨h1, rfl⟩ := List.getElem?_eq_some_iff.1 h
  exact List.set_getElem_self h1
theorem turned_ok (p : Option Addr) (n cap : Nat) (b : List Int) (hn : n = b.length) (hbig : n ≤ 100000000) (hbb : Byt b) (ps : Option Addr) (cs : Nat) (s : List Int) (hs : s.length = b.length) (w : World) (hp : RdSl w p u8V b) (hps : RdSl w ps u8V s) :
    CallM Tryz.prog 73 [.slice p n cap, .slice ps n cs] [] w fun v L => ∃ ov, OvOk 1 ov n (u8s (turnI b s)) ∧ v = slV ov n ∧ L = blkL 5 ov (u8s (turnI b s)) := by
  subst hn
  have hcl := fun w1 (hc : Chg [] w w1) => bclone_ok p b.length cap b rfl (by omega) w1 (hp.chg' hc (fun _ => Off.nil _))
  refine enterK (tb := tb) Tryz.func73 rfl Tryz.ntmps73 rfl ?_
  repeat' (first | (apply R.is1; first | (apply R.isCall; first | (apply R.callE (vs := [.slice p b.length cap]); (iterate 3 exact rfl); exact Ext.none _; intro w1 hw1; exact hcl w1 hw1.chg; rintro v Lo ⟨ov, hov, rfl, rfl⟩) | (apply R.pure; exact rfl; apply Ok1.lenOv; (iterate 3 exact rfl); exact hov)) | (apply R.pure; exact rfl; first | (apply Ok1.move; exact rfl) | (apply Ok1.assign; exact rfl))) | apply R.nil | (apply T.is; first | apply T.seq | apply T.region | apply T.block | apply T.scope | apply T.label))
  cases ov with
  | none =>
    have h0 : b = [] := List.eq_nil_of_length_eq_zero hov.2
    subst h0
    simp only [slV, blkL, List.length_nil]
    repeat' (first | (apply R.is1; first | (apply R.isBin; (apply R.pure; exact rfl; (apply Ok1.lss_f; exact rfl; exact rfl; omega))) | (apply R.pure; exact rfl; first | (apply Ok1.move; exact rfl) | (apply Ok1.assign; exact rfl))) | apply R.nil | (apply T.is; first | apply T.rounds 1 | apply T.seq | apply T.region | apply T.exit | apply T.ret | (apply T.cond_f; exact rfl)))
    (apply RetOk.t; exact rfl)
    exact ⟨_, by (focus ((repeat' (exact Keep.nil _)); done)), none, OvOk.start 1, rfl, rfl⟩
  | some q =>
    obtain ⟨bq, j, junk⟩ := q
    simp only [slV, blkL]
    apply T.loopK (α := Nat) (I := fun i => i ≤ b.length) (σi := fun i => [(0, .slice p b.length cap), (1, .slice ps b.length cs), (5, .slice (some ⟨bq, 0, none⟩) b.length (b.length + j)), (10, .int .i64 b.length), (11, .int .i64 i)]) (Li := fun i => [(bq, .cells ⟨u8s (turnI (b.take i) (s.take i) ++ b.drop i) ++ junk⟩ 5 (0, 0))]) (μ := fun i => b.length - i) (i0 := 0)
    · exact Nat.zero_le _
    · exact ⟨rfl, rfl, rfl, rfl, rfl, trivial⟩
    · have : turnI (b.take 0) (s.take 0) ++ b.drop 0 = b := by simp [turnI]
      rw [this]
      (focus ((repeat' (first | exact Keep.nil _ | exact Ext.one _ _ | apply Keep.cons)); done))
    · intro i hi
      rcases Nat.lt_or_ge i b.length with hlt | hge
      · obtain ⟨x, hx⟩ : ∃ x, b[i]? = some x := ⟨_, List.getElem?_eq_getElem (by omega)⟩
        obtain ⟨y, hy⟩ : ∃ y, s[i]? = some y := ⟨_, List.getElem?_eq_getElem (by omega)⟩
        obtain ⟨bb, o, hpe, H⟩ := hps.at hy
        replace H := H 1 u8V_len
        have hts := turn_set hx hy hs.symm
        have hti : (turnI (b.take i) (s.take i)).length = i := by
          unfold turnI
          rw [List.length_zipWith, List.length_take, List.length_take]
          omega
        have hgx : (turnI (b.take i) (s.take i) ++ b.drop i)[i]? = some x := by
          rw [List.getElem?_append_right (by omega), hti, Nat.sub_self, List.getElem?_drop, Nat.add_zero]
          exact hx
        have hgl : i < (turnI (b.take i) (s.take i) ++ b.drop i).length := by rw [List.length_append, hti, List.length_drop]; omega
        generalize turnI (b.take i) (s.take i) ++ b.drop i = Z at *
        obtain ⟨Z2, hZ2⟩ : ∃ Z2, turnI (b.take (i + 1)) (s.take (i + 1)) ++ b.drop (i + 1) = Z2 := ⟨_, rfl⟩
        rw [hZ2] at hts
        have hyb : 0 ≤ xorI .u8 x y := (xor8_range x y).1
        have hgz : (u8s Z ++ junk)[0 + i * 1]? = some (.int .u8 x) := by
          rw [Nat.zero_add, Nat.mul_one, List.getElem?_append_left (by rw [u8s_len]; exact hgl), u8s, List.getElem?_map, hgx]
          rfl
        have hsz : setE (u8s Z ++ junk) (0 + i * 1) [.int .u8 (xorI .u8 x y)] = some (u8s Z2 ++ junk) := by
          rw [Nat.zero_add, Nat.mul_one, setE_one (by rw [List.length_append, u8s_len]; omega), List.set_append_left _ _ (by rw [u8s_len]; exact hgl), hts]
          simp [u8s, List.map_set]
        by_cases hy0 : y = 0
        · have hz : Z2 = Z := by
            rw [hts, hy0, xor8_zero (hbb x (List.mem_of_getElem? hx))]
            exact List.set_getElem?_self9 hgx
          subst hy0
          repeat' (first | (apply R.is1; first | (apply R.isBin; (apply R.pure; exact rfl; first | (apply Ok1.add64; exact rfl; exact rfl; omega; omega) | (apply Ok1.lss_t; exact rfl; exact rfl; omega) | (apply Ok1.eql_t; exact rfl; exact rfl; omega))) | (apply R.pure; exact rfl; first | (apply Ok1.indexAddrP; (iterate 4 exact rfl); exact hpe; exact rfl; omega; omega) | (apply Ok1.load; exact rfl; (apply Ld.row0 H; exact rfl; exact List.not_mem_nil; (iterate 3 exact rfl))) | (apply Ok1.move; exact rfl) | (apply Ok1.assign; exact rfl))) | apply R.nil | (apply T.is; first | apply T.seq | apply T.region | apply T.block | apply T.skip | apply T.exit | (apply T.cond_t; exact rfl)))
          refine ⟨i + 1, by omega, by omega, ⟨rfl, rfl, rfl, rfl, rfl, trivial⟩, ?_⟩
          simp only [hZ2, hz]
          (focus ((repeat' (first | exact Keep.nil _ | exact Ext.one _ _ | apply Keep.cons)); done))
        · repeat' (first | (apply R.is1; first | (apply R.isBin; (apply R.pure; exact rfl; first | (apply Ok1.add64; exact rfl; exact rfl; omega; omega) | (apply Ok1.lss_t; exact rfl; exact rfl; omega) | (apply Ok1.eql_f; exact rfl; exact rfl; omega))) | (apply R.pure; exact rfl; first | (apply Ok1.indexAddrP; (iterate 4 exact rfl); exact hpe; exact rfl; omega; omega) | (apply Ok1.load; exact rfl; (apply Ld.row0 H; exact rfl; exact List.not_mem_nil; (iterate 3 exact rfl))) | (apply Ok1.move; exact rfl) | (apply Ok1.assign; exact rfl))) | apply R.nil | (apply T.is; first | (apply T.drawC (id := 6) [] (by decide); ((apply A.take 0; exact rfl; exact rfl; kernel_rfl; kernel_rfl; kernel_rfl; (apply Ok1.move; exact rfl)) <;> (apply A.take 1; exact rfl; exact rfl; kernel_rfl; kernel_rfl; kernel_rfl; (apply Ok1.move; exact rfl)) <;> (apply A.take 2; exact rfl; exact rfl; kernel_rfl; kernel_rfl; kernel_rfl; (apply Ok1.indexAddr; (iterate 5 exact rfl); omega; omega)) <;> (apply A.take 4; exact rfl; exact rfl; kernel_rfl; kernel_rfl; kernel_rfl; (apply Ok1.move; exact rfl)) <;> (apply A.take 5; exact rfl; exact rfl; kernel_rfl; kernel_rfl; kernel_rfl; (apply Ok1.move; exact rfl)) <;> (apply A.take 6; exact rfl; exact rfl; kernel_rfl; kernel_rfl; kernel_rfl; (apply Ok1.indexAddrP; (iterate 4 exact rfl); exact hpe; exact rfl; omega; omega)) <;> (apply A.take 7; exact rfl; exact rfl; kernel_rfl; kernel_rfl; kernel_rfl; (apply Ok1.load; exact rfl; (apply Ld.row0 H; exact rfl; exact List.not_mem_nil; (iterate 3 exact rfl)))) <;> (apply A.one 3; kernel_rfl; exact rfl; (((apply R.pure; exact rfl; (apply Ok1.load; exact rfl; (apply Ld.own1; exact rfl; exact rfl; exact At.head; exact hgz))))); apply R.nil; refine ⟨?_, ?_⟩; (focus ((repeat' (exact trivial))))) <;> (apply A.take 8; exact rfl; exact rfl; kernel_rfl; kernel_rfl; kernel_rfl; (apply Ok1.xorK; exact rfl; exact rfl)) <;> (apply A.take 9; exact rfl; exact rfl; kernel_rfl; kernel_rfl; kernel_rfl; (apply Ok1.indexAddr; (iterate 5 exact rfl); omega; omega)) <;> (apply A.one 10; kernel_rfl; exact rfl; (((apply R.store; (iterate 6 exact rfl); exact Upd.head; exact hsz))); apply R.nil; refine ⟨?_, ?_⟩; (focus ((repeat' (exact trivial))))) <;> (apply A.done; kernel_rfl))) | apply T.seq | apply T.region | apply T.block | apply T.skip | (apply T.cond_t; exact rfl) | (apply T.cond_f; exact rfl)))
          refine ⟨i + 1, by omega, by omega, ⟨rfl, rfl, rfl, rfl, rfl, trivial⟩, ?_⟩
          simp only [hZ2]
          (focus ((repeat' (first | exact Keep.nil _ | exact Ext.one _ _ | apply Keep.cons)); done))
      · have him : i = b.length := by omega
        subst him
        repeat' (first | (apply R.is1; first | (apply R.isBin; (apply R.pure; exact rfl; (apply Ok1.lss_f; exact rfl; exact rfl; omega))) | (apply R.pure; exact rfl; first | (apply Ok1.move; exact rfl) | (apply Ok1.assign; exact rfl))) | apply R.nil | (apply T.is; first | apply T.seq | apply T.region | apply T.exit | apply T.ret | (apply T.cond_f; exact rfl)))
        (apply RetOk.t; exact rfl)
        have h1 : turnI (b.take b.length) (s.take b.length) ++ b.drop b.length = turnI b s := by rw [List.take_length, ← hs, List.take_length, hs, List.drop_length, List.append_nil]
        rw [h1]
        refine ⟨_, by (focus ((repeat' (first | exact Keep.nil _ | exact Ext.one _ _ | apply Keep.cons)); done)), some (bq, j, junk), ⟨?_, hov.2⟩, rfl, rfl⟩
        rw [u8s_len, turnI_len hs.symm]
        omega
end Go.Proofs.YtligngjcnlbgmaaGreat
set_option linter.unusedSimpArgs false
set_option linter.unusedVariables false
namespace Go.Proofs.YtligngjcnlbgmaaGreat
open Go.RowKit Go.Shelf
set_option maxRecDepth 100000
theorem stag_ok (bk : Nat) (k : List Int) (hkl : k.length ≤ 999999000) (hkb : Byt k) (pp : Option Addr) (cap : Nat) (ps : List Pt) (hm2 : ps.length ≤ 100) (hpb : ∀ x ∈ ps, Byt x.xs) (hbig : ∀ x ∈ ps, x.xs.length ≤ 1000000) (hbl : (frameI (ps.map (·.xs))).length ≤ 999998000) (w : World) (hk : KeyR w bk k) (hp : RdSl w pp Pt.v ps) (hall : ∀ x ∈ ps, RdSl w x.p u8V x.xs) :
    CallW Tryz.prog 74 [.pointer (some ⟨bk, 0, none⟩), .slice pp ps.length cap] w fun v _ => v = .agg ⟨u8s (hmacI (deriveI k sBind []) (frameI (ps.map (·.xs))))⟩ := by
  have hfb : Byt (frameI (ps.map (·.xs))) := frame_byt fun l hl => by
    obtain ⟨x, hx, rfl⟩ := List.mem_map.1 hl
    exact hpb x hx
  have hdr := fun w1 (hc : Chg [] w w1) => derive_ok bk k hkl hkb sBind (by decide) none 0 0 [] rfl (by decide) (by simp) (by simp [frameI, len4, strI, sBind]) (by simp) w1 (hk.chg hc) (.inl rfl) (by simp)
  simp only [List.map_nil] at hdr
  have hdl := derive_len k sBind []
  have hdb := derive_byt k sBind []
  generalize deriveI k sBind [] = k2 at *
  refine enterW (tb := tb) Tryz.func74 rfl Tryz.ntmps74 rfl ?_
  repeat' (first | (apply R.is1; first | (apply R.isCall; (apply R.pure; exact rfl; (apply Ok1.lenS; (iterate 3 exact rfl)))) | (apply R.pure; exact rfl; first | (apply Ok1.move; exact rfl) | (apply Ok1.assign; exact rfl)) | (apply R.alloc; (iterate 3 exact rfl); intro)) | apply R.nil | (apply T.is; first | apply T.seq | apply T.region | apply T.block))
  rename_i b0
  obtain ⟨src, hsrc⟩ : ∃ src : World → Prop, src = fun W => ∀ x ∈ ps, RdSl W x.p u8V x.xs := ⟨_, rfl⟩
  apply T.loopK (α := Nat × FO) (I := fun y => y.1 ≤ ps.length ∧ FOok y.2 ((ps.take y.1).map (·.xs)) src) (σi := fun y => [(0, .pointer (some ⟨bk, 0, none⟩)), (4, .pointer (some ⟨b0, 0, none⟩)), (5, slV y.2.ov y.2.pts.length), (8, .slice pp ps.length cap), (9, .int .i64 ps.length), (10, .int .i64 y.1)])
    (Li := fun y => (b0, .cells ⟨[.int .u8 0, .int .u8 0, .int .u8 0, .int .u8 0, .int .u8 0, .int .u8 0, .int .u8 0, .int .u8 0, .int .u8 0, .int .u8 0, .int .u8 0, .int .u8 0, .int .u8 0, .int .u8 0, .int .u8 0, .int .u8 0, .int .u8 0, .int .u8 0, .int .u8 0, .int .u8 0, .int .u8 0, .int .u8 0, .int .u8 0, .int .u8 0, .int .u8 0, .int .u8 0, .int .u8 0, .int .u8 0, .int .u8 0, .int .u8 0, .int .u8 0, .int .u8 0]⟩ 123 (0, 0)) :: (blkL 22 y.2.ov (fl Pt.v y.2.pts) ++ y.2.ex)) (μ := fun y => ps.length - y.1)
    (i0 := (0, ⟨none, [], []⟩))
  · exact ⟨Nat.zero_le _, OvOk.start 1, rfl, rfl, fun W _ _ x hx => by cases hx⟩
  · exact ⟨rfl, rfl, rfl, rfl, rfl, rfl, trivial⟩
  · simp only [blkL, List.append_nil]
    (focus ((repeat' (first | exact Keep.nil _ | exact Ext.one _ _ | apply Keep.cons)); done))
  · rintro ⟨i, f⟩ ⟨hi, hov, hlen, hcat, hrd⟩
    simp only at hi hov hlen hcat hrd ⊢
    have hll : ((ps.take i).map (·.xs)).length = i := by simp; omega
    rw [hll] at hlen
    rcases Nat.lt_or_ge i ps.length with hlt | hge
    · obtain ⟨x, hx⟩ : ∃ x, ps[i]? = some x := ⟨_, List.getElem?_eq_getElem (by omega)⟩
      obtain ⟨b', o', hpe, H⟩ := hp.at hx
      replace H := H 1 Pt.v_len
      have hxb := hbig x (List.mem_of_getElem? hx)
      have hls : (ps.take (i + 1)).map (·.xs) = (ps.take i).map (·.xs) ++ [x.xs] := by rw [List.take_add_one, hx]; simp
      obtain ⟨ov, pts, ex⟩ := f
      simp only at hov hlen hcat hrd ⊢
      have hfo := fun w1 => four_ok (x.xs.length : Int) (by omega) (by omega) w1
      repeat' (first | (apply R.is1; first | (apply R.isBin; (apply R.pure; exact rfl; first | (apply Ok1.add64; exact rfl; exact rfl; omega; omega) | (apply Ok1.lss_t; exact rfl; exact rfl; omega))) | (apply R.isCall; first | (apply R.callE (vs := [.int .i64 x.xs.length]); (iterate 3 exact rfl); exact Ext.none _; intro w1 hw1; exact hfo w1; rintro v Lo ⟨b4, rfl, rfl⟩) | (apply R.appendRd (xs := [⟨some ⟨b4, 0, none⟩, 4, len4 x.xs.length⟩, x]) (v := Pt.v) (sz := 1) (ov := ov) (n := pts.length) (old := fl Pt.v pts); (iterate 12 exact rfl); exact hov; (focus ((repeat' (first | exact Ext.here _ _ | apply Ext.cons)); done)); exact rfl; exact Pt.v_len; exact rfl; (intro w1 hw1; exact RdSl.of (junk := []) hw1 (by exact At.head) rfl); exact rfl; omega; intro ov1 hov1 hsome) | (apply R.pure; exact rfl; (apply Ok1.lenS; (iterate 3 exact rfl)))) | (apply R.pure; exact rfl; first | (apply Ok1.indexAddrP; (iterate 4 exact rfl); exact hpe; exact rfl; omega; omega) | (apply Ok1.load; exact rfl; apply Ld.row0 H; exact rfl; exact List.not_mem_nil; (iterate 3 exact rfl)) | (apply Ok1.move; exact rfl) | (apply Ok1.assign; exact rfl)) | (apply R.buildSlice; (iterate 12 exact rfl); intro)) | apply R.nil | (apply T.is; first | apply T.seq | apply T.region | apply T.block | apply T.skip | (apply T.cond_t; exact rfl)))
      rw [← fl_app] at hov1 ⊢
      refine ⟨(i + 1, ⟨ov1, pts ++ [⟨some ⟨b4, 0, none⟩, 4, len4 x.xs.length⟩, x], (b4, .cells ⟨u8s (len4 x.xs.length)⟩ 5 (0, 0)) :: ex⟩), ⟨by simp only; omega, ?_⟩, by simp only; omega, ⟨rfl, rfl, ?_, rfl, rfl, rfl, trivial⟩, ?_⟩
      · rw [hls]
        refine ⟨by simpa using hov1, by simp [hlen]; omega, ?_, fun W hex hs y hy => ?_⟩
        · rw [frame_app, cat_app, hcat, frame_one]
          simp [cat]
        · rcases List.mem_append.1 hy with hy | hy
          · exact hrd W (fun z hz => hex z (List.mem_cons_of_mem _ hz)) hs y hy
          · rcases List.mem_cons.1 hy with rfl | hy
            · exact RdSl.heap (junk := []) (e := 5) (fz := (0, 0)) (by rw [fl_u8, List.append_nil]; exact hex _ List.mem_cons_self)
            · rw [List.mem_singleton.1 hy]
              rw [hsrc] at hs
              exact hs x (List.mem_of_getElem? hx)
      · simp only [List.length_append, List.length_cons, List.length_nil]
        rfl
      · simp only [List.length_append, List.length_cons, List.length_nil, List.append_assoc, List.cons_append, List.nil_append]
        (focus ((repeat' (first | exact Ext.one _ _ | exact Ext.here _ _ | exact Ext.all _ | apply Keep.cons | apply Keep.app | apply Keep.last | apply Ext.cons | apply Ext.app)); done))
    · have him : i = ps.length := by omega
      subst him
      rw [List.take_length] at hcat
      have hfl : f.pts.length ≤ 1000000000 := by omega
      have hls : (u8s (hmacI k2 (frameI (ps.map (·.xs))))).length = 32 := by rw [u8s_len, hmac_len]
      have hone := u8s_one (hmacI k2 (frameI (ps.map (·.xs))))
      have htg : ∀ L w1 bd, Hp w [] L w1 → KeyR w1 bd k2 → (∀ z ∈ blkL 22 f.ov (fl Pt.v f.pts), z ∈ L) → (∀ z ∈ f.ex, z ∈ L) → CallW Tryz.prog 113 [.pointer (some ⟨bd, 0, none⟩), .slice (ovp f.ov) f.pts.length (ovc f.ov f.pts.length)] w1 fun v _ => v = .agg ⟨u8s (hmacI k2 (frameI (ps.map (·.xs))))⟩ := by
        intro L w1 bd hw h1 h2 h3
        have h := ktag_ok bd k2 (by rw [hdl]; decide) hdb (ovp f.ov) f.pts.length (ovc f.ov f.pts.length) f.pts rfl (by rw [hcat]; exact hfb) (by rw [hcat]; exact hbl) hfl w1 h1 (RdSl.own' hw h2 hov Pt.v_len) (hrd w1 (fun z hz => hw.get _ _ (h3 z hz)) (by rw [hsrc]; exact fun x hx => (hall x hx).chg' hw.chg (fun _ => Off.nil _)))
        rw [hcat] at h
        exact h
      have hovl := slV_eq hov
      generalize u8s (hmacI k2 (frameI (ps.map (·.xs)))) = D at *
      have hset : ∀ cs : List Value, cs.length = 32 → setE cs 0 D = some D := fun cs h => setE_all (by rw [hls, h])
      obtain ⟨ov, pts, ex⟩ := f
      simp only at hov hovl htg hfl ⊢
      rw [hovl]
      generalize hPL : blkL 22 ov (fl Pt.v pts) = LP at *
      repeat' (first | (apply R.is1; first | (apply R.isBin; (apply R.pure; exact rfl; (apply Ok1.lss_f; exact rfl; exact rfl; omega))) | (apply R.isCall; (apply R.callE (vs := [.pointer (some ⟨bk, 0, none⟩), .string sBind, .slice none 0 0]); (iterate 3 exact rfl); exact Ext.none _; intro w1 hw1; exact hdr w1 hw1.chg; rintro v Lo ⟨bd, ovd, rfl, hovd, rfl⟩)) | (apply R.pure; exact rfl; (apply Ok1.move; exact rfl))) | apply R.nil | (apply T.is; first | apply T.seq | apply T.region | apply T.exit | (apply T.cond_f; exact rfl)))
      have hKR : ∀ L w1, Hp w [] L w1 → (∀ z ∈ KL bd ovd k2, z ∈ L) → KeyR w1 bd k2 := fun L w1 h1 h2 => KeyR.of (by rw [hdl]; exact hovd) h1 h2
      generalize KL bd ovd k2 = LK at *
      repeat' (first | (apply R.is1; (apply R.isCall; (apply R.callW (vs := [.pointer (some ⟨bd, 0, none⟩), .slice (ovp ov) pts.length (ovc ov pts.length)]); (iterate 3 exact rfl); intro w1 hw1; exact htg _ w1 bd hw1 (hKR _ w1 hw1 (Ext.mem (by (focus ((repeat' (exact Ext.here _ _)); done))))) (Ext.mem (by (focus ((repeat' (first | exact Ext.here _ _ | apply Ext.cons | apply Ext.app)); done)))) (Ext.mem (by (focus ((repeat' (first | exact Ext.all _ | apply Ext.cons | apply Ext.app)); done)))); rintro v rfl))) | (apply R.is0; (apply R.store; (iterate 4 exact rfl); exact hls; exact hone; (focus ((repeat' (first | exact Upd.head | apply Upd.right)); done)); exact hset _ rfl)) | apply R.nil | (apply T.is; apply T.ret))
      (apply RetOk.c; exact rfl; (apply Ld.ownk; exact rfl; exact rfl; (focus ((repeat' (first | exact At.head | apply At.right)); done)); exact subE_all hls))
      rfl
end Go.Proofs.YtligngjcnlbgmaaGreat
set_option linter.unusedSimpArgs false
set_option linter.unusedVariables false
namespace Go.Proofs.YtligngjcnlbgmaaGreat
open Go.RowKit Go.Shelf
set_option maxRecDepth 100000
theorem bv8_nat (v : BitVec 8) : IntKind.u8.wrap (v.toNat : Int) = (v.toNat : Int) := by
  rw [u8_mod]
  have := v.isLt
  omega
theorem bv8_eq {x : Int} (h : 0 ≤ x ∧ x ≤ 255) : ((BitVec.ofInt 8 x).toNat : Int) = x := by
  rw [BitVec.toNat_ofInt]
  omega
theorem xor8_iff {x y : Int} (hx : 0 ≤ x ∧ x ≤ 255) (hy : 0 ≤ y ∧ y ≤ 255) : xorI .u8 x y = 0 ↔ x = y := by
  have e : xorI .u8 x y = ((BitVec.ofInt 8 x ^^^ BitVec.ofInt 8 y).toNat : Int) := bv8_nat _
  rw [e]
  constructor
  · intro h
    have h1 : BitVec.ofInt 8 x ^^^ BitVec.ofInt 8 y = 0#8 := BitVec.eq_of_toNat_eq (by simpa using Int.ofNat.inj h)
    have h2 : BitVec.ofInt 8 x = BitVec.ofInt 8 y := BitVec.xor_eq_zero_iff.1 h1
    rw [← bv8_eq hx, ← bv8_eq hy, h2]
  · rintro rfl
    simp
theorem or8_range (x y : Int) : 0 ≤ orI .u8 x y ∧ orI .u8 x y ≤ 255 := by
  unfold orI; rw [u8_mod]; omega
theorem or8_iff {x y : Int} (hx : 0 ≤ x ∧ x ≤ 255) (hy : 0 ≤ y ∧ y ≤ 255) : orI .u8 x y = 0 ↔ x = 0 ∧ y = 0 := by
  have e : orI .u8 x y = ((BitVec.ofInt 8 x ||| BitVec.ofInt 8 y).toNat : Int) := bv8_nat _
  rw [e]
  constructor
  · intro h
    have h1 : BitVec.ofInt 8 x ||| BitVec.ofInt 8 y = 0#8 := BitVec.eq_of_toNat_eq (by simpa using Int.ofNat.inj h)
    obtain ⟨h2, h3⟩ := BitVec.or_eq_zero_iff.1 h1
    rw [← bv8_eq hx, ← bv8_eq hy, h2, h3]
    exact ⟨rfl, rfl⟩
  · rintro ⟨rfl, rfl⟩
    rfl
theorem mequal_ok (p1 p2 : Option Addr) (n1 n2 c1 c2 : Nat) (xs ys : List Int) (hn1 : n1 = xs.length) (hn2 : n2 = ys.length) (hbig : n1 ≤ 1000000000) (hb1 : Byt xs) (hb2 : Byt ys) (w : World) (h1 : RdSl w p1 u8V xs) (h2 : RdSl w p2 u8V ys) : CallW Tryz.prog 80 [.slice p1 n1 c1, .slice p2 n2 c2] w fun v _ => v = .bool (decide (xs = ys)) := by
  subst hn1 hn2
  refine enterW (tb := tb) Tryz.func80 rfl Tryz.ntmps80 rfl ?_
  by_cases hl : xs.length = ys.length
  case neg =>
    have hne : ¬ xs = ys := fun h => hl (by rw [h])
    have hl2 : ((xs.length : Nat) : Int) ≠ ys.length := by omega
    repeat' (first | (apply R.is1; first | (apply R.isBin; (apply R.pure; exact rfl; (apply Ok1.neq_t; exact rfl; exact rfl; omega))) | (apply R.isCall; (apply R.pure; exact rfl; (apply Ok1.lenS; (iterate 3 exact rfl)))) | (apply R.pure; exact rfl; first | (apply Ok1.move; exact rfl) | (apply Ok1.assign; exact rfl))) | apply R.nil | (apply T.is; first | apply T.seq | apply T.region | apply T.ret | (apply T.cond_t; exact rfl)))
    (apply RetOk.t; exact rfl)
    rw [decide_eq_false hne]
  repeat' (first | (apply R.is1; first | (apply R.isBin; (apply R.pure; exact rfl; (apply Ok1.neq_f; exact rfl; exact rfl; omega))) | (apply R.isCall; (apply R.pure; exact rfl; (apply Ok1.lenS; (iterate 3 exact rfl)))) | (apply R.pure; exact rfl; first | (apply Ok1.move; exact rfl) | (apply Ok1.assign; exact rfl))) | apply R.nil | (apply T.is; first | apply T.seq | apply T.region | apply T.block | apply T.skip | (apply T.cond_f; exact rfl)))
  apply T.loopK (α := Nat × Int) (I := fun q => q.1 ≤ xs.length ∧ (0 ≤ q.2 ∧ q.2 ≤ 255) ∧ (q.2 = 0 ↔ xs.take q.1 = ys.take q.1)) (σi := fun q => [(0, .slice p1 xs.length c1), (1, .slice p2 ys.length c2), (5, .int .u8 q.2), (13, .int .i64 xs.length), (14, .int .i64 q.1)]) (Li := fun _ => []) (μ := fun q => xs.length - q.1) (i0 := (0, 0))
  · exact ⟨Nat.zero_le _, by decide, by simp⟩
  · exact ⟨rfl, rfl, rfl, rfl, rfl, trivial⟩
  · (focus ((repeat' (exact Keep.nil _)); done))
  · rintro ⟨i, u⟩ ⟨hi, hu, hq⟩
    simp only at hi hu hq ⊢
    rcases Nat.lt_or_ge i xs.length with hlt | hge
    · obtain ⟨x, hx⟩ : ∃ x, xs[i]? = some x := ⟨_, List.getElem?_eq_getElem (by omega)⟩
      obtain ⟨y, hy⟩ : ∃ y, ys[i]? = some y := ⟨_, List.getElem?_eq_getElem (by omega)⟩
      obtain ⟨b1, o1, hpe1, H1⟩ := h1.at hx
      obtain ⟨b2, o2, hpe2, H2⟩ := h2.at hy
      replace H1 := H1 1 u8V_len
      replace H2 := H2 1 u8V_len
      have hxb := hb1 x (List.mem_of_getElem? hx)
      have hyb := hb2 y (List.mem_of_getElem? hy)
      have ho := or8_iff hu (xor8_range x y)
      rw [xor8_iff hxb hyb] at ho
      repeat' (first | (apply R.is1; first | (apply R.isBin; (apply R.pure; exact rfl; first | (apply Ok1.add64; exact rfl; exact rfl; omega; omega) | (apply Ok1.lss_t; exact rfl; exact rfl; omega))) | (apply R.pure; exact rfl; first | (apply Ok1.move; exact rfl) | (apply Ok1.assign; exact rfl))) | apply R.nil | (apply T.is; first | (apply T.drawC (id := 7) [] (by decide); ((apply A.take 0; exact rfl; exact rfl; kernel_rfl; kernel_rfl; kernel_rfl; (apply Ok1.move; exact rfl)) <;> (apply A.take 1; exact rfl; exact rfl; kernel_rfl; kernel_rfl; kernel_rfl; (apply Ok1.move; exact rfl)) <;> (apply A.take 2; exact rfl; exact rfl; kernel_rfl; kernel_rfl; kernel_rfl; (apply Ok1.move; exact rfl)) <;> (apply A.take 3; exact rfl; exact rfl; kernel_rfl; kernel_rfl; kernel_rfl; (apply Ok1.indexAddrP; (iterate 4 exact rfl); (exact hpe1); exact rfl; omega; omega)) <;> (apply A.take 4; exact rfl; exact rfl; kernel_rfl; kernel_rfl; kernel_rfl; (apply Ok1.load; exact rfl; (apply Ld.row0 H1; exact rfl; exact List.not_mem_nil; (iterate 3 exact rfl)))) <;> (apply A.take 5; exact rfl; exact rfl; kernel_rfl; kernel_rfl; kernel_rfl; (apply Ok1.move; exact rfl)) <;> (apply A.take 6; exact rfl; exact rfl; kernel_rfl; kernel_rfl; kernel_rfl; (apply Ok1.move; exact rfl)) <;> (apply A.take 7; exact rfl; exact rfl; kernel_rfl; kernel_rfl; kernel_rfl; (apply Ok1.indexAddrP; (iterate 4 exact rfl); (exact hpe2); exact rfl; omega; omega)) <;> (apply A.take 8; exact rfl; exact rfl; kernel_rfl; kernel_rfl; kernel_rfl; (apply Ok1.load; exact rfl; (apply Ld.row0 H2; exact rfl; exact List.not_mem_nil; (iterate 3 exact rfl)))) <;> (apply A.take 9; exact rfl; exact rfl; kernel_rfl; kernel_rfl; kernel_rfl; (apply Ok1.xorK; exact rfl; exact rfl)) <;> (apply A.take 10; exact rfl; exact rfl; kernel_rfl; kernel_rfl; kernel_rfl; (apply Ok1.orK; exact rfl; exact rfl)) <;> (apply A.take 11; exact rfl; exact rfl; kernel_rfl; kernel_rfl; kernel_rfl; (apply Ok1.assign; exact rfl)) <;> (apply A.done; kernel_rfl))) | apply T.seq | apply T.region | apply T.block | apply T.skip | (apply T.cond_t; exact rfl)))
      refine ⟨(i + 1, orI .u8 u (xorI .u8 x y)), ⟨by simp only; omega, or8_range _ _, ?_⟩, by simp only; omega, ⟨rfl, rfl, rfl, rfl, rfl, trivial⟩, by (focus ((repeat' (exact Keep.nil _)); done))⟩
      simp only [ho, hq]
      rw [List.take_add_one, List.take_add_one, hx, hy]
      constructor
      · rintro ⟨h3, rfl⟩
        rw [h3]
      · intro h3
        have h4 := List.append_inj h3 (by rw [List.length_take, List.length_take]; omega)
        exact ⟨h4.1, by simpa using h4.2⟩
    · have him : i = xs.length := by omega
      subst him
      rw [List.take_length, hl, List.take_length] at hq
      by_cases hu0 : u = 0
      · subst hu0
        repeat' (first | (apply R.is1; first | (apply R.isBin; (apply R.pure; exact rfl; first | (apply Ok1.lss_f; exact rfl; exact rfl; omega) | (apply Ok1.eql_t; exact rfl; exact rfl; omega))) | (apply R.pure; exact rfl; first | (apply Ok1.move; exact rfl) | (apply Ok1.assign; exact rfl))) | apply R.nil | (apply T.is; first | apply T.seq | apply T.region | apply T.exit | apply T.ret | (apply T.cond_f; exact rfl)))
        all_goals (apply RetOk.t; exact rfl)
        all_goals rw [decide_eq_true (hq.1 rfl)]
        all_goals rfl
      · repeat' (first | (apply R.is1; first | (apply R.isBin; (apply R.pure; exact rfl; first | (apply Ok1.lss_f; exact rfl; exact rfl; omega) | (apply Ok1.eql_f; exact rfl; exact rfl; omega))) | (apply R.pure; exact rfl; first | (apply Ok1.move; exact rfl) | (apply Ok1.assign; exact rfl))) | apply R.nil | (apply T.is; first | apply T.seq | apply T.region | apply T.exit | apply T.ret | (apply T.cond_f; exact rfl)))
        all_goals (apply RetOk.t; exact rfl)
        all_goals rw [decide_eq_false (fun h => hu0 (hq.2 h))]
        all_goals rfl
end Go.Proofs.YtligngjcnlbgmaaGreat
set_option linter.unusedSimpArgs false
set_option linter.unusedVariables false
namespace Go.Proofs.YtligngjcnlbgmaaGreat
open Go.RowKit Go.Shelf
set_option maxRecDepth 100000
theorem stag3_ok (bk : Nat) (k : List Int) (hkl : k.length ≤ 999999000) (hkb : Byt k) (a b c : Pt) (ha : Byt a.xs) (hb : Byt b.xs) (hc : Byt c.xs) (hla : a.xs.length ≤ 100000) (hlb : b.xs.length ≤ 100000) (hlc : c.xs.length ≤ 100000) (pp : Option Addr) (cap : Nat) (w : World) (hk : KeyR w bk k) (hp : RdSl w pp Pt.v [a, b, c]) (h1 : RdSl w a.p u8V a.xs) (h2 : RdSl w b.p u8V b.xs) (h3 : RdSl w c.p u8V c.xs) :
    CallW Tryz.prog 74 [.pointer (some ⟨bk, 0, none⟩), .slice pp 3 cap] w fun v _ => v = .agg ⟨u8s (stagI k a.xs b.xs c.xs)⟩ := by
  refine stag_ok bk k hkl hkb pp cap [a, b, c] (by simp) ?_ ?_ ?_ w hk hp ?_
  · intro x hx
    simp only [List.mem_cons, List.not_mem_nil, or_false] at hx
    rcases hx with rfl | rfl | rfl <;> assumption
  · intro x hx
    simp only [List.mem_cons, List.not_mem_nil, or_false] at hx
    rcases hx with rfl | rfl | rfl <;> omega
  · simp [frameI, len4]
    omega
  · intro x hx
    simp only [List.mem_cons, List.not_mem_nil, or_false] at hx
    rcases hx with rfl | rfl | rfl <;> assumption
theorem sseal_ok (bk : Nat) (k : List Int) (hkl : k.length ≤ 999999000) (hkb : Byt k) (pn : Option Addr) (nl cn : Nat) (nonce : List Int) (hnl : nl = nonce.length) (hn32 : nl ≤ 32) (hnb : Byt nonce) (pb : Option Addr) (bl cb : Nat) (bound : List Int) (hbl : bl = bound.length) (hb32 : bl ≤ 100000) (hbb : Byt bound) (p : Option Addr) (n cap : Nat) (b : List Int) (hn : n = b.length) (hbig : n ≤ 65536) (hby : Byt b) (w : World) (hk : KeyR w bk k) (hpn : RdSl w pn u8V nonce) (hpb : RdSl w pb u8V bound) (hp : RdSl w p u8V b) :
    CallM Tryz.prog 47 [.pointer (some ⟨bk, 0, none⟩), .slice pn nl cn, .slice pb bl cb, .slice p n cap] [] w fun v L => ∃ ov, OvOk 1 ov (n + 32) (u8s (sealI k nonce bound b)) ∧ v = .tuple #[slV ov (n + 32), .int .i64 0] ∧ L = blkL 5 ov (u8s (sealI k nonce bound b)) := by
  subst hnl hbl hn
  have hss : sealI k nonce bound b = turnI b (strmI k nonce b.length) ++ stagI k nonce bound (turnI b (strmI k nonce b.length)) := rfl
  have hsl := sealI_len k nonce bound b
  have hSl := strmI_len k nonce b.length
  have hstr := fun w1 (hc : Chg [] w w1) => stream_ok bk k hkl hkb pn nonce.length cn nonce rfl hn32 hnb b.length hbig w1 (hk.chg hc) (hpn.chg' hc (fun _ => Off.nil _))
  have htu := fun ps cs w1 (hc : Chg [] w w1) h => turned_ok p b.length cap b rfl (by omega) hby ps cs (strmI k nonce b.length) hSl w1 (hp.chg' hc (fun _ => Off.nil _)) h
  have hTl : (turnI b (strmI k nonce b.length)).length = b.length := turnI_len hSl.symm
  have hTb := turnI_byt b (strmI k nonce b.length)
  have htg := fun q c b3 w1 (hc : Chg [] w w1) h1 h2 => stag3_ok bk k hkl hkb ⟨pn, cn, nonce⟩ ⟨pb, cb, bound⟩ ⟨q, c, turnI b (strmI k nonce b.length)⟩ hnb hbb hTb (by simp only; omega) (by simp only; omega) (by simp only; omega) (some ⟨b3, 0, none⟩) 3 w1 (hk.chg hc) h1 (hpn.chg' hc (fun _ => Off.nil _)) (hpb.chg' hc (fun _ => Off.nil _)) h2
  simp only at htg
  generalize sealI k nonce bound b = SS at *
  generalize strmI k nonce b.length = S at *
  generalize turnI b S = C at *
  have hls : (u8s (stagI k nonce bound C)).length = 32 := by rw [u8s_len, stagI_len]
  have hDl : (stagI k nonce bound C).length = 32 := stagI_len _ _ _ _
  generalize stagI k nonce bound C = D at *
  have hset : ∀ cs : List Value, cs.length = 32 → setE cs 0 (u8s D) = some (u8s D) := fun cs h => setE_all (by rw [hls, h])
  refine enterK (tb := tb) Tryz.func47 rfl Tryz.ntmps47 rfl ?_
  repeat' (first | (apply R.is1; first | (apply R.isBin; (apply R.pure; exact rfl; (apply Ok1.neq_f; exact rfl; exact rfl; omega))) | (apply R.isCall; first | (apply R.callE (vs := [.pointer (some ⟨bk, 0, none⟩), .slice pn nonce.length cn, .int .i64 b.length]); (iterate 3 exact rfl); exact Ext.none _; intro w1 hw1; exact hstr w1 hw1.chg; rintro v Lo ⟨ovs, W, hovs, hnW, hWt, rfl, rfl⟩) | (apply R.callE (vs := [.slice p b.length cap, .slice (ovp ovs) b.length b.length]); (iterate 3 exact rfl); exact Ext.none _; intro w1 hw1; exact htu _ _ w1 hw1.chg (hWt ▸ (rdown hovs hw1 (Ext.mem (by (focus ((repeat' (exact Ext.here _ _)); done))))).pre u8V_len b.length); rintro v Lo ⟨ovt, hovt, rfl, rfl⟩; rw [slV_eq hovt]) | (apply R.pure; exact rfl; (apply Ok1.lenS; (iterate 3 exact rfl)))) | (apply R.pure; exact rfl; first | (apply Ok1.move; exact rfl) | (apply Ok1.assign; exact rfl) | (apply Ok1.extract; exact rfl; exact rfl)) | (apply R.buildSlice; (iterate 12 exact rfl); intro)) | apply R.nil | (apply T.is; first | apply T.seq | apply T.region | apply T.skip | (apply T.cond_f; exact rfl)))
  have hCl : C.length = b.length := hTl
  rename_i b3
  have hp3 : ∀ L w1, Hp w [] L w1 → (b3, Obj.cells ⟨[.slice pn nonce.length cn, .slice pb bound.length cb, .slice (ovp ovt) b.length (ovc ovt b.length)]⟩ 22 (0, 0)) ∈ L → RdSl w1 (some ⟨b3, 0, none⟩) Pt.v [⟨pn, cn, nonce⟩, ⟨pb, cb, bound⟩, ⟨ovp ovt, ovc ovt b.length, C⟩] := fun L w1 h1 h2 => RdSl.ofMem (junk := []) h1 h2 (by simp [fl, Pt.v, hTl])
  have hcc : ∀ L w1 b2 b13, Hp w [] L w1 → (b2, Obj.cells ⟨[.slice (ovp ovt) b.length (ovc ovt b.length), .slice (some ⟨b13, 0, none⟩) 32 32]⟩ 22 (0, 0)) ∈ L → (b13, Obj.cells ⟨u8s D⟩ 123 (0, 0)) ∈ L → (∀ z ∈ blkL 5 ovt (u8s C), z ∈ L) → CallM Tryz.prog 55 [.slice (some ⟨b2, 0, none⟩) 2 2] [] w1 fun v L => ∃ ov, OvOk 1 ov (b.length + 32) (u8s SS) ∧ v = slV ov (b.length + 32) ∧ L = blkL 5 ov (u8s SS) := by
    intro L w1 b2 b13 h1 h2 h3 h4
    have hcat : cat [⟨ovp ovt, ovc ovt b.length, C⟩, ⟨some ⟨b13, 0, none⟩, 32, D⟩] = SS := by simp [cat, hss]
    have h := concat_ok (some ⟨b2, 0, none⟩) 2 2 [⟨ovp ovt, ovc ovt b.length, C⟩, ⟨some ⟨b13, 0, none⟩, 32, D⟩] rfl (by rw [hcat]; omega) (by decide) w1 (RdSl.ofMem (junk := []) h1 h2 (by simp [fl, Pt.v, hTl, hDl])) ?_
    · rw [hcat, hsl] at h
      exact h
    · intro x hx
      simp only [List.mem_cons, List.not_mem_nil, or_false] at hx
      rcases hx with rfl | rfl
      · exact rdown (by rw [hTl]; exact hovt) h1 h4
      · exact RdSl.ofMem (junk := []) h1 h3 (by rw [fl_u8, List.append_nil])
  repeat' (first | (apply R.is1; first | (apply R.isCall; (apply R.callW (vs := [.pointer (some ⟨bk, 0, none⟩), .slice (some ⟨b3, 0, none⟩) 3 3]); (iterate 3 exact rfl); intro w1 hw1; exact htg (ovp ovt) (ovc ovt b.length) b3 w1 hw1.chg (hp3 _ w1 hw1 List.mem_cons_self) (rdown (by rw [hTl]; exact hovt) hw1 (Ext.mem (by (focus ((repeat' (first | exact Ext.here _ _ | apply Ext.cons)); done))))); rintro v rfl)) | (apply R.pure; exact rfl; first | (apply Ok1.sliceArr; (iterate 4 exact rfl)) | (apply Ok1.move; exact rfl)) | (apply R.alloc; (iterate 3 exact rfl); intro) | (apply R.buildSlice; (iterate 12 exact rfl); intro)) | (apply R.is0; (apply R.store; (iterate 4 exact rfl); exact hls; exact u8s_one D; exact Upd.head; exact hset _ rfl)) | apply R.nil | (apply T.is; first | apply T.seq | apply T.region))
  rename_i b13 b2
  repeat' (first | (apply R.is1; first | (apply R.isCall; (apply R.callE (vs := [.slice (some ⟨b2, 0, none⟩) 2 2]); (iterate 3 exact rfl); exact Ext.none _; intro w1 hw1; exact hcc _ w1 b2 b13 hw1 (by simp) (by simp) (Ext.mem (by (focus ((repeat' (first | exact Ext.here _ _ | apply Ext.cons)); done)))); rintro v Lo ⟨ov9, hov9, rfl, rfl⟩)) | (apply R.pure; exact rfl; (apply Ok1.assign; exact rfl))) | apply R.nil | (apply T.is; apply T.ret))
  (apply RetOk.tt; exact rfl; exact rfl)
  exact ⟨_, by (focus ((repeat' (first | exact Ext.here _ _ | apply Keep.last)); done)), ov9, hov9, rfl, rfl⟩
end Go.Proofs.YtligngjcnlbgmaaGreat
set_option linter.unusedSimpArgs false
set_option linter.unusedVariables false
namespace Go.Proofs.YtligngjcnlbgmaaGreat
open Go.RowKit Go.Shelf
set_option maxRecDepth 100000
/-- What was sealed; what is wrong with sealed bytes. -/
def sopI (k nonce s : List Int) : List Int := turnI (s.take (s.length - 32)) (strmI k nonce (s.length - 32))
def sopE (k nonce bound s : List Int) : Int := if s.length < 32 then 4 else if stagI k nonce bound (s.take (s.length - 32)) = s.drop (s.length - 32) then 0 else 5
def sopN (k nonce bound s : List Int) : List Int := if sopE k nonce bound s = 0 then sopI k nonce s else []
theorem RdSl.sufB {w : World} {b o m : Nat} {s : List Int} (h : RdSl w (some ⟨b, o, none⟩) u8V s) (hm : m ≤ s.length) : RdSl w (some ⟨b, o + m * 1, none⟩) u8V (s.drop m) := by
  rcases h with h | ⟨b', o', he, h⟩
  · exact .inl (by rw [h]; simp)
  · cases he
    refine .inr ⟨_, _, rfl, fun k hk => ?_⟩
    rw [fl_u8, u8s_len, List.length_drop] at hk
    have h2 := h (m + k) (by rw [fl_u8, u8s_len]; omega)
    rw [Nat.mul_one, Nat.add_assoc, h2, fl_u8, fl_u8, u8s, u8s, List.getElem?_map, List.getElem?_map, List.getElem?_drop]
theorem sopen_ok (bk : Nat) (k : List Int) (hkl : k.length ≤ 999999000) (hkb : Byt k) (pn : Option Addr) (nl cn : Nat) (nonce : List Int) (hnl : nl = nonce.length) (hn32 : nl ≤ 32) (hnb : Byt nonce) (pb : Option Addr) (bl cb : Nat) (bound : List Int) (hbl : bl = bound.length) (hb32 : bl ≤ 100000) (hbb : Byt bound) (p : Option Addr) (n cap : Nat) (s : List Int) (hn : n = s.length) (hcap : n ≤ cap) (hbig : n ≤ 65568) (hby : Byt s) (w : World) (hk : KeyR w bk k) (hpn : RdSl w pn u8V nonce) (hpb : RdSl w pb u8V bound) (hp : RdSl w p u8V s) :
    CallM Tryz.prog 51 [.pointer (some ⟨bk, 0, none⟩), .slice pn nl cn, .slice pb bl cb, .slice p n cap] [] w fun v L => ∃ ov, OvOk 1 ov (sopN k nonce bound s).length (u8s (sopN k nonce bound s)) ∧ v = .tuple #[slV ov (sopN k nonce bound s).length, .int .i64 (sopE k nonce bound s)] ∧ L = blkL 5 ov (u8s (sopN k nonce bound s)) := by
  subst hnl hbl
  have hck := scheck_ok bk pn nonce.length cn hn32
  by_cases h32 : s.length < 32
  · have he : sopE k nonce bound s = 4 := by unfold sopE; rw [if_pos h32]
    have hN : sopN k nonce bound s = [] := by unfold sopN; rw [he]; rfl
    rw [hN, he]
    subst hn
    refine enterK (tb := tb) Tryz.func51 rfl Tryz.ntmps51 rfl ?_
    repeat' (first | (apply R.is1; first | (apply R.isBin; (apply R.pure; exact rfl; first | (apply Ok1.sub64; exact rfl; exact rfl; omega; omega) | (apply Ok1.lss_t; exact rfl; exact rfl; omega) | (apply Ok1.neq_f; exact rfl; exact rfl; omega))) | (apply R.isCall; first | apply R.callP rfl rfl rfl hck | (apply R.pure; exact rfl; (apply Ok1.lenS; (iterate 3 exact rfl)))) | (apply R.pure; exact rfl; first | (apply Ok1.move; exact rfl) | (apply Ok1.assign; exact rfl))) | apply R.nil | (apply T.is; first | apply T.seq | apply T.region | apply T.block | apply T.ret | (apply T.cond_t; exact rfl) | (apply T.cond_f; exact rfl)))
    (apply RetOk.tt; exact rfl; exact rfl)
    exact ⟨_, by (focus ((repeat' (exact Keep.nil _)); done)), none, OvOk.start 1, rfl, rfl⟩
  obtain ⟨m, hm⟩ : ∃ m, s.length = m + 32 := ⟨s.length - 32, by omega⟩
  have hm2 : s.length - 32 = m := by omega
  have he : sopE k nonce bound s = if stagI k nonce bound (s.take m) = s.drop m then 0 else 5 := by unfold sopE; rw [if_neg h32, hm2]
  have hI : sopI k nonce s = turnI (s.take m) (strmI k nonce m) := by unfold sopI; rw [hm2]
  have hN : sopN k nonce bound s = if sopE k nonce bound s = 0 then turnI (s.take m) (strmI k nonce m) else [] := by unfold sopN; rw [hI]
  rw [hm] at hn
  subst hn
  obtain ⟨bs, os, rfl⟩ : ∃ bs os, p = some ⟨bs, os, none⟩ := by
    rcases hp with h | ⟨b, o, h, _⟩
    · rw [h] at hm; simp at hm
    · exact ⟨b, o, h⟩
  have hpre : RdSl w (some ⟨bs, os, none⟩) u8V (s.take m) := hp.pre u8V_len m
  have hsuf := hp.sufB (m := m) (by omega)
  have hBl : (s.take m).length = m := by rw [List.length_take]; omega
  have hTl : (s.drop m).length = 32 := by rw [List.length_drop]; omega
  have hBb : Byt (s.take m) := fun y hy => hby y (List.mem_of_mem_take hy)
  have hTb : Byt (s.drop m) := fun y hy => hby y (List.mem_of_mem_drop hy)
  generalize s.take m = B at *
  generalize s.drop m = TG at *
  have hSl := strmI_len k nonce m
  have hstr := fun w1 (hc : Chg [] w w1) => stream_ok bk k hkl hkb pn nonce.length cn nonce rfl hn32 hnb m (by omega) w1 (hk.chg hc) (hpn.chg' hc (fun _ => Off.nil _))
  have htu := fun ps cs w1 (hc : Chg [] w w1) h => turned_ok (some ⟨bs, os, none⟩) m m B hBl.symm (by omega) hBb ps cs (strmI k nonce m) (by rw [hSl, hBl]) w1 (hpre.chg' hc (fun _ => Off.nil _)) h
  have htg := fun b3 w1 (hc : Chg [] w w1) h1 => stag3_ok bk k hkl hkb ⟨pn, cn, nonce⟩ ⟨pb, cb, bound⟩ ⟨some ⟨bs, os, none⟩, m, B⟩ hnb hbb hBb (by simp only; omega) (by simp only; omega) (by simp only; omega) (some ⟨b3, 0, none⟩) 3 w1 (hk.chg hc) h1 (hpn.chg' hc (fun _ => Off.nil _)) (hpb.chg' hc (fun _ => Off.nil _)) (hpre.chg' hc (fun _ => Off.nil _))
  simp only at htg
  have hTul : (turnI B (strmI k nonce m)).length = m := by rw [turnI_len (by rw [hSl, hBl]), hBl]
  generalize strmI k nonce m = S at *
  generalize turnI B S = C at *
  have hls : (u8s (stagI k nonce bound B)).length = 32 := by rw [u8s_len, stagI_len]
  have hDl : (stagI k nonce bound B).length = 32 := stagI_len _ _ _ _
  have hDb : Byt (stagI k nonce bound B) := hmac_byt _ _
  generalize stagI k nonce bound B = D at *
  have hset : ∀ cs : List Value, cs.length = 32 → setE cs 0 (u8s D) = some (u8s D) := fun cs h => setE_all (by rw [hls, h])
  have hp3 : ∀ L w1 b3, Hp w [] L w1 → (b3, Obj.cells ⟨[.slice pn nonce.length cn, .slice pb bound.length cb, .slice (some ⟨bs, os, none⟩) m m]⟩ 22 (0, 0)) ∈ L → RdSl w1 (some ⟨b3, 0, none⟩) Pt.v [⟨pn, cn, nonce⟩, ⟨pb, cb, bound⟩, ⟨some ⟨bs, os, none⟩, m, B⟩] := fun L w1 b3 h1 h2 => RdSl.ofMem (junk := []) h1 h2 (by simp [fl, Pt.v, hBl])
  have hsub : (((m + 32 : Nat) : Int) - 32) = (m : Int) := by omega
  have heq : ∀ L w1 b13, Hp w [] L w1 → (b13, Obj.cells ⟨u8s D⟩ 123 (0, 0)) ∈ L → CallW Tryz.prog 80 [.slice (some ⟨b13, 0, none⟩) 32 32, .slice (some ⟨bs, os + (m : Int).toNat * 1, none⟩) (((m + 32 : Nat) : Int).toNat - (m : Int).toNat) ((cap : Int).toNat - (m : Int).toNat)] w1 fun v _ => v = .bool (decide (D = TG)) := fun L w1 b13 h1 h2 => mequal_ok _ _ 32 _ 32 _ D TG hDl.symm (by rw [hTl, Int.toNat_natCast, Int.toNat_natCast]; omega) (by decide) hDb hTb w1 (RdSl.ofMem (junk := []) h1 h2 (by rw [fl_u8, List.append_nil])) (hsuf.chg' h1.chg (fun _ => Off.nil _))
  refine enterK (tb := tb) Tryz.func51 rfl Tryz.ntmps51 rfl ?_
  repeat' (first | (apply R.is1; first | (apply R.isBin; (apply R.pure; exact rfl; first | (apply Ok1.sub64; exact rfl; exact rfl; omega; omega) | (apply Ok1.lss_f; exact rfl; exact rfl; omega) | (apply Ok1.gtr_f; exact rfl; exact rfl; omega) | (apply Ok1.neq_f; exact rfl; exact rfl; omega))) | (apply R.isCall; first | apply R.callP rfl rfl rfl hck | (apply R.pure; exact rfl; (apply Ok1.lenS; (iterate 3 exact rfl)))) | (apply R.pure; exact rfl; first | (apply Ok1.move; exact rfl) | (apply Ok1.assign; exact rfl) | (apply Ok1.sliceTo; (iterate 6 exact rfl); omega; omega; omega; (exact Or.inr (fun e => by cases e)))) | (apply R.buildSlice; (iterate 12 exact rfl); intro)) | apply R.nil | (apply T.is; first | apply T.seq | apply T.region | apply T.block | apply T.skip | (apply T.cond_f; exact rfl)))
  rename_i b3
  rw [hsub]
  simp only [Int.toNat_natCast]
  repeat' (first | (apply R.is1; first | (apply R.isCall; (apply R.callW (vs := [.pointer (some ⟨bk, 0, none⟩), .slice (some ⟨b3, 0, none⟩) 3 3]); (iterate 3 exact rfl); intro w1 hw1; exact htg b3 w1 hw1.chg (hp3 _ w1 b3 hw1 List.mem_cons_self); rintro v rfl)) | (apply R.alloc; (iterate 3 exact rfl); intro)) | (apply R.is0; (apply R.store; (iterate 4 exact rfl); exact hls; exact u8s_one D; exact Upd.head; exact hset _ rfl)) | apply R.nil | (apply T.is; apply T.seq))
  rename_i b13
  by_cases hD : D = TG
  · rw [if_pos hD] at he
    rw [he, if_pos rfl] at hN
    simp only [decide_eq_true hD] at heq
    rw [hN, he, hTul]
    repeat' (first | (apply R.is1; first | (apply R.isBin; (apply R.pure; exact rfl; (apply Ok1.neq_f; exact rfl; exact rfl; omega))) | (apply R.isCall; first | (apply R.callE (vs := [.pointer (some ⟨bk, 0, none⟩), .slice pn nonce.length cn, .int .i64 m]); (iterate 3 exact rfl); exact Ext.none _; intro w1 hw1; exact hstr w1 hw1.chg; rintro v Lo ⟨ovs, W, hovs, hnW, hWt, rfl, rfl⟩) | (apply R.callE (vs := [.slice (some ⟨bs, os, none⟩) m m, .slice (ovp ovs) m m]); (iterate 3 exact rfl); exact Ext.none _; intro w1 hw1; exact htu _ _ w1 hw1.chg (hWt ▸ (rdown hovs hw1 (Ext.mem (by (focus ((repeat' (exact Ext.here _ _)); done))))).pre u8V_len m); rintro v Lo ⟨ovt, hovt, rfl, rfl⟩)) | (apply R.pure; exact rfl; first | (apply Ok1.move; exact rfl) | (apply Ok1.assign; exact rfl) | (apply Ok1.extract; exact rfl; exact rfl))) | apply R.nil | (apply T.is; first | (apply T.drawC (id := 11) [0] (by decide); ((apply A.take 0; exact rfl; exact rfl; kernel_rfl; kernel_rfl; kernel_rfl; (apply Ok1.sliceArr; (iterate 4 exact rfl))) <;> (apply A.take 1; exact rfl; exact rfl; kernel_rfl; kernel_rfl; kernel_rfl; (apply Ok1.move; exact rfl)) <;> (apply A.take 2; exact rfl; exact rfl; kernel_rfl; kernel_rfl; kernel_rfl; (apply Ok1.move; exact rfl)) <;> (apply A.take 3; exact rfl; exact rfl; kernel_rfl; kernel_rfl; kernel_rfl; (apply Ok1.sliceFrom (l := (m : Int)) (h := ((m + 32 : Nat) : Int)) (m := (cap : Int)); (iterate 7 exact rfl); omega; omega; omega; omega; omega; exact .inl rfl)) <;> (apply A.one 4; kernel_rfl; exact rfl; (((apply R.callW (vs := [.slice (some ⟨b13, 0, none⟩) 32 32, .slice (some ⟨bs, os + (m : Int).toNat * 1, none⟩) (((m + 32 : Nat) : Int).toNat - (m : Int).toNat) ((cap : Int).toNat - (m : Int).toNat)]); (iterate 3 exact rfl); intro w1 hw1; exact heq _ w1 b13 hw1 (by simp); rintro v rfl))); apply R.nil; refine ⟨?_, ?_⟩; (focus ((repeat' (first | exact trivial | (refine ⟨?_, ?_⟩; exact At.head)))))) <;> (apply A.take 5; exact rfl; exact rfl; kernel_rfl; kernel_rfl; kernel_rfl; (apply Ok1.not_t; exact rfl)) <;> (apply A.done; kernel_rfl))) | apply T.seq | apply T.region | apply T.skip | apply T.ret | (apply T.cond_f; exact rfl)))
    (apply RetOk.tt; exact rfl; exact rfl)
    exact ⟨_, by (focus ((repeat' (first | exact Ext.here _ _ | apply Keep.last)); done)), ovt, hovt, rfl, rfl⟩
  · rw [if_neg hD] at he
    rw [he, if_neg (by decide)] at hN
    simp only [decide_eq_false hD] at heq
    rw [hN, he]
    repeat' (first | (apply R.is1; (apply R.pure; exact rfl; (apply Ok1.assign; exact rfl))) | apply R.nil | (apply T.is; first | (apply T.drawC (id := 11) [0] (by decide); ((apply A.take 0; exact rfl; exact rfl; kernel_rfl; kernel_rfl; kernel_rfl; (apply Ok1.sliceArr; (iterate 4 exact rfl))) <;> (apply A.take 1; exact rfl; exact rfl; kernel_rfl; kernel_rfl; kernel_rfl; (apply Ok1.move; exact rfl)) <;> (apply A.take 2; exact rfl; exact rfl; kernel_rfl; kernel_rfl; kernel_rfl; (apply Ok1.move; exact rfl)) <;> (apply A.take 3; exact rfl; exact rfl; kernel_rfl; kernel_rfl; kernel_rfl; (apply Ok1.sliceFrom (l := (m : Int)) (h := ((m + 32 : Nat) : Int)) (m := (cap : Int)); (iterate 7 exact rfl); omega; omega; omega; omega; omega; exact .inl rfl)) <;> (apply A.one 4; kernel_rfl; exact rfl; (((apply R.callW (vs := [.slice (some ⟨b13, 0, none⟩) 32 32, .slice (some ⟨bs, os + (m : Int).toNat * 1, none⟩) (((m + 32 : Nat) : Int).toNat - (m : Int).toNat) ((cap : Int).toNat - (m : Int).toNat)]); (iterate 3 exact rfl); intro w1 hw1; exact heq _ w1 b13 hw1 (by simp); rintro v rfl))); apply R.nil; refine ⟨?_, ?_⟩; (focus ((repeat' (first | exact trivial | (refine ⟨?_, ?_⟩; exact At.head)))))) <;> (apply A.take 5; exact rfl; exact rfl; kernel_rfl; kernel_rfl; kernel_rfl; (apply Ok1.not_f; exact rfl)) <;> (apply A.done; kernel_rfl))) | apply T.seq | apply T.region | apply T.ret | (apply T.cond_t; exact rfl)))
    (apply RetOk.tt; exact rfl; exact rfl)
    exact ⟨[], by (focus ((repeat' (exact Keep.nil _)); done)), none, OvOk.start 1, rfl, rfl⟩
end Go.Proofs.YtligngjcnlbgmaaGreat
set_option linter.unusedSimpArgs false
set_option linter.unusedVariables false
namespace Go.Proofs.YtligngjcnlbgmaaGreat
open Go.RowKit Go.Shelf
set_option maxRecDepth 100000
theorem num_byt9 (s : Nat) (n : Int) : Byt (numI s n) := by
  unfold numI
  split
  · intro y hy; rw [List.mem_singleton.1 hy]; omega
  · intro y hy; simp only [List.mem_cons, List.not_mem_nil, or_false] at hy; rcases hy with rfl | rfl <;> omega
  · exact len4_byt n
def HRt (o r v : Int) : Prop := 1 ≤ o ∧ o ≤ 65535 ∧ 0 ≤ r ∧ r < 8 ∧ 1 ≤ v ∧ v ≤ 2147483647
instance (o r v : Int) : Decidable (HRt o r v) := by unfold HRt; infer_instance
def headI (o r v : Int) : List Int := (([] ++ numI 1 o) ++ numI 0 r) ++ numI 2 v
theorem headI_len (o r v : Int) : (headI o r v).length = 7 := rfl
theorem headI_byt (o r v : Int) : Byt (headI o r v) := by
  intro y hy
  simp only [headI, List.nil_append, List.append_assoc, List.mem_append] at hy
  rcases hy with h | h | h <;> exact num_byt9 _ _ y h
theorem head_bad (o r v : Int) (h : ¬ HRt o r v) : CallP Tryz.prog 46 [.int .i64 o, .int .i64 r, .int .i64 v] (.tuple #[.slice none 0 0, .bool false]) := by
  unfold HRt at h
  refine enterP (tb := tb) Tryz.func46 rfl Tryz.ntmps46 rfl fun w => ?_
  by_cases h1 : o < 1
  · repeat' (first | (apply R.is1; first | (apply R.isBin; (apply R.pure; exact rfl; (apply Ok1.lss_t; exact rfl; exact rfl; omega))) | (apply R.pure; exact rfl; first | (apply Ok1.move; exact rfl) | (apply Ok1.assign; exact rfl) | (apply Ok1.pick_t; exact rfl; exact rfl))) | (apply R.isG; (apply R.guard_not; (iterate 3 exact rfl))) | apply R.nil | (apply T.is; first | apply T.seq | apply T.region | apply T.ret | (apply T.cond_t; exact rfl)))
    (apply RetOk.tt; exact rfl; exact rfl)
    rfl
  by_cases h2 : 65535 < o
  · repeat' (first | (apply R.is1; first | (apply R.isBin; (apply R.pure; exact rfl; first | (apply Ok1.lss_f; exact rfl; exact rfl; omega) | (apply Ok1.gtr_t; exact rfl; exact rfl; omega))) | (apply R.pure; exact rfl; first | (apply Ok1.move; exact rfl) | (apply Ok1.assign; exact rfl) | (apply Ok1.pick_t; exact rfl; exact rfl) | (apply Ok1.pick_f; exact rfl; exact rfl))) | (apply R.isG; first | (apply R.guard_run; exact rfl; exact rfl) | (apply R.guard_not; (iterate 3 exact rfl))) | apply R.nil | (apply T.is; first | apply T.seq | apply T.region | apply T.ret | (apply T.cond_t; exact rfl)))
    (apply RetOk.tt; exact rfl; exact rfl)
    rfl
  by_cases h3 : r < 0
  · repeat' (first | (apply R.is1; first | (apply R.isBin; (apply R.pure; exact rfl; first | (apply Ok1.lss_t; exact rfl; exact rfl; omega) | (apply Ok1.lss_f; exact rfl; exact rfl; omega) | (apply Ok1.gtr_f; exact rfl; exact rfl; omega))) | (apply R.pure; exact rfl; first | (apply Ok1.move; exact rfl) | (apply Ok1.assign; exact rfl) | (apply Ok1.pick_t; exact rfl; exact rfl) | (apply Ok1.pick_f; exact rfl; exact rfl))) | (apply R.isG; first | (apply R.guard_run; exact rfl; exact rfl) | (apply R.guard_not; (iterate 3 exact rfl))) | apply R.nil | (apply T.is; first | apply T.seq | apply T.region | apply T.ret | (apply T.cond_t; exact rfl)))
    (apply RetOk.tt; exact rfl; exact rfl)
    rfl
  by_cases h4 : 8 ≤ r
  · repeat' (first | (apply R.is1; first | (apply R.isBin; (apply R.pure; exact rfl; first | (apply Ok1.lss_f; exact rfl; exact rfl; omega) | (apply Ok1.gtr_f; exact rfl; exact rfl; omega) | (apply Ok1.geq_t; exact rfl; exact rfl; omega))) | (apply R.pure; exact rfl; first | (apply Ok1.move; exact rfl) | (apply Ok1.assign; exact rfl) | (apply Ok1.pick_t; exact rfl; exact rfl) | (apply Ok1.pick_f; exact rfl; exact rfl))) | (apply R.isG; first | (apply R.guard_run; exact rfl; exact rfl) | (apply R.guard_not; (iterate 3 exact rfl))) | apply R.nil | (apply T.is; first | apply T.seq | apply T.region | apply T.ret | (apply T.cond_t; exact rfl)))
    (apply RetOk.tt; exact rfl; exact rfl)
    rfl
  by_cases h5 : v < 1
  · repeat' (first | (apply R.is1; first | (apply R.isBin; (apply R.pure; exact rfl; first | (apply Ok1.lss_t; exact rfl; exact rfl; omega) | (apply Ok1.lss_f; exact rfl; exact rfl; omega) | (apply Ok1.gtr_f; exact rfl; exact rfl; omega) | (apply Ok1.geq_f; exact rfl; exact rfl; omega))) | (apply R.pure; exact rfl; first | (apply Ok1.move; exact rfl) | (apply Ok1.assign; exact rfl) | (apply Ok1.pick_t; exact rfl; exact rfl) | (apply Ok1.pick_f; exact rfl; exact rfl))) | (apply R.isG; first | (apply R.guard_run; exact rfl; exact rfl) | (apply R.guard_not; (iterate 3 exact rfl))) | apply R.nil | (apply T.is; first | apply T.seq | apply T.region | apply T.ret | (apply T.cond_t; exact rfl)))
    (apply RetOk.tt; exact rfl; exact rfl)
    rfl
  have h6 : 2147483647 < v := by omega
  repeat' (first | (apply R.is1; first | (apply R.isBin; (apply R.pure; exact rfl; first | (apply Ok1.lss_f; exact rfl; exact rfl; omega) | (apply Ok1.gtr_t; exact rfl; exact rfl; omega) | (apply Ok1.gtr_f; exact rfl; exact rfl; omega) | (apply Ok1.geq_f; exact rfl; exact rfl; omega))) | (apply R.pure; exact rfl; first | (apply Ok1.move; exact rfl) | (apply Ok1.assign; exact rfl) | (apply Ok1.pick_f; exact rfl; exact rfl))) | (apply R.isG; (apply R.guard_run; exact rfl; exact rfl)) | apply R.nil | (apply T.is; first | apply T.seq | apply T.region | apply T.ret | (apply T.cond_t; exact rfl)))
  (apply RetOk.tt; exact rfl; exact rfl)
  rfl
theorem head_ok (o r v : Int) (h : HRt o r v) (w : World) : CallM Tryz.prog 46 [.int .i64 o, .int .i64 r, .int .i64 v] [] w fun x L => ∃ ov, OvOk 1 ov 7 (u8s (headI o r v)) ∧ x = .tuple #[slV ov 7, .bool true] ∧ L = blkL 5 ov (u8s (headI o r v)) := by
  unfold HRt at h
  have hf1 : Fits 1 o := by unfold Fits; omega
  have hf2 : Fits 0 r := by unfold Fits; omega
  have hf3 : Fits 2 v := by unfold Fits; omega
  obtain ⟨B1, hB1⟩ : ∃ B, B = [] ++ numI 1 o := ⟨_, rfl⟩
  obtain ⟨B2, hB2⟩ : ∃ B, B = B1 ++ numI 0 r := ⟨_, rfl⟩
  obtain ⟨B3, hB3⟩ : ∃ B, B = B2 ++ numI 2 v := ⟨_, rfl⟩
  have hB : B3 = headI o r v := by rw [hB3, hB2, hB1]; rfl
  have hl1 : B1.length ≤ 1000 := by rw [hB1]; exact Nat.le_of_ble_eq_true rfl
  have hl2 : B2.length ≤ 1000 := by rw [hB2, hB1]; exact Nat.le_of_ble_eq_true rfl
  have hl3 : B3.length = 7 := by rw [hB, headI_len]
  have hn1 := fun bw bl fz e w1 => number1_ok bw none [] (OvOk.start 1) 1 o hf1 (by decide) bl fz e w1
  have hn2 := fun bw ov hov bl fz e w1 => number1_ok bw ov B1 hov 0 r hf2 hl1 bl fz e w1
  have hn3 := fun bw ov hov bl fz e w1 => number1_ok bw ov B2 hov 2 v hf3 hl2 bl fz e w1
  rw [← hB1] at hn1
  rw [← hB2] at hn2
  rw [← hB3] at hn3
  rw [← hB]
  refine enterK (tb := tb) Tryz.func46 rfl Tryz.ntmps46 rfl ?_
  repeat' (first | (apply R.is1; first | (apply R.isBin; (apply R.pure; exact rfl; first | (apply Ok1.lss_f; exact rfl; exact rfl; omega) | (apply Ok1.gtr_f; exact rfl; exact rfl; omega) | (apply Ok1.geq_f; exact rfl; exact rfl; omega))) | (apply R.pure; exact rfl; first | (apply Ok1.move; exact rfl) | (apply Ok1.assign; exact rfl) | (apply Ok1.pick_f; exact rfl; exact rfl)) | (apply R.alloc; (iterate 3 exact rfl); intro) | (apply R.buildSlice; (iterate 12 exact rfl); intro)) | (apply R.isG; (apply R.guard_run; exact rfl; exact rfl)) | apply R.nil | (apply T.is; first | apply T.seq | apply T.region | apply T.skip | (apply T.cond_f; exact rfl)))
  rename_i bw bl
  repeat' ((apply R.is1; first | (apply R.isCall; (apply R.callE (Li := [(bw, .cells ⟨[.slice none 0 0, .int .i64 0]⟩ 151 (0, 0))]) (vs := [.pointer (some ⟨bw, 0, none⟩), .int .i64 1, .slice (some ⟨bl, 0, none⟩) 1 1]); (iterate 3 exact rfl); (focus ((repeat' (first | exact Ext.one _ _ | apply Ext.cons)); done)); intro w1 hw1; exact hn1 bw bl _ _ w1 (hw1.get _ _ List.mem_cons_self) (RdSl.off hw1 (by (focus ((repeat' (first | exact Ext.one _ _ | apply Ext.cons)); done))) List.mem_cons_self); rintro x Lo ⟨ov1, rfl, hov1, rfl⟩)) | (apply R.pure; exact rfl; (apply Ok1.move; exact rfl)) | (apply R.buildSlice; (iterate 12 exact rfl); intro)))
  rename_i bl2
  have h2 := fun bl fz e w1 => hn2 bw ov1 hov1 bl fz e w1
  generalize WL bw ov1 B1 = W1 at h2 ⊢
  repeat' ((apply R.is1; first | (apply R.isCall; (apply R.callE (Li := W1) (vs := [.pointer (some ⟨bw, 0, none⟩), .int .i64 0, .slice (some ⟨bl2, 0, none⟩) 1 1]); (iterate 3 exact rfl); (focus ((repeat' (first | exact Ext.here _ _ | apply Ext.cons)); done)); intro w1 hw1; exact h2 bl2 _ _ w1 (hw1.get _ _ List.mem_cons_self) (RdSl.off hw1 (by (focus ((repeat' (first | exact Ext.here _ _ | apply Ext.cons)); done))) List.mem_cons_self); rintro x Lo ⟨ov2, rfl, hov2, rfl⟩)) | (apply R.pure; exact rfl; (apply Ok1.move; exact rfl)) | (apply R.buildSlice; (iterate 12 exact rfl); intro)))
  rename_i bl3
  have h3 := fun bl fz e w1 => hn3 bw ov2 hov2 bl fz e w1
  generalize WL bw ov2 B2 = W2 at h3 ⊢
  repeat' ((apply R.is1; (apply R.isCall; (apply R.callE (Li := W2) (vs := [.pointer (some ⟨bw, 0, none⟩), .int .i64 2, .slice (some ⟨bl3, 0, none⟩) 1 1]); (iterate 3 exact rfl); (focus ((repeat' (first | exact Ext.here _ _ | apply Ext.cons)); done)); intro w1 hw1; exact h3 bl3 _ _ w1 (hw1.get _ _ List.mem_cons_self) (RdSl.off hw1 (by (focus ((repeat' (first | exact Ext.here _ _ | apply Ext.cons)); done))) List.mem_cons_self); rintro x Lo ⟨ov3, rfl, hov3, rfl⟩))))
  have h4 : ∀ L w1, Hp w [] L w1 → (∀ z ∈ WL bw ov3 B3, z ∈ L) → CallM Tryz.prog 71 [.pointer (some ⟨bw, 0, none⟩)] [] w1 fun v L => ∃ ov', OvOk 1 ov' B3.length (u8s B3) ∧ v = .tuple #[slV ov' B3.length, .int .i64 0] ∧ L = blkL 5 ov' (u8s B3) := fun L w1 h1 h2 => wout_ok bw ov3 B3 hov3 (by rw [hl3]; decide) w1 (h1.get _ _ (h2 _ List.mem_cons_self)) (rdown hov3 h1 fun z hz => h2 z (List.mem_cons_of_mem _ hz))
  generalize WL bw ov3 B3 = W3 at h4 ⊢
  rw [hl3] at h4
  repeat' (first | (apply R.is1; first | (apply R.isCall; (apply R.callE (vs := [.pointer (some ⟨bw, 0, none⟩)]); (iterate 3 exact rfl); exact Ext.none _; intro w1 hw1; exact h4 _ w1 hw1 (Ext.mem (by (focus ((repeat' (exact Ext.here _ _)); done)))); rintro x Lo ⟨ov9, hov9, rfl, rfl⟩)) | (apply R.pure; exact rfl; first | (apply Ok1.move; exact rfl) | (apply Ok1.assign; exact rfl) | (apply Ok1.extract; exact rfl; exact rfl))) | apply R.nil | (apply T.is; first | apply T.seq | apply T.region | apply T.ret))
  (apply RetOk.tt; exact rfl; exact rfl)
  exact ⟨_, by (focus ((repeat' (first | exact Ext.here _ _ | apply Keep.last)); done)), ov9, hov9, rfl, rfl⟩
def ntC (o r v : Int) (p : Option Addr) (n cap : Nat) : List Value := [.int .i64 o, .int .i64 r, .int .i64 v, .slice p n cap]
theorem check26_ok (o r v : Int) (p : Option Addr) (n cap : Nat) (w : World) : CallM Tryz.prog 66 [.agg ⟨ntC o r v p n cap⟩] [] w fun x L => x = .int .i64 (if ¬ HRt o r v then 10 else if n < 32 ∨ 96 < n then 3 else 0) ∧ L = [] := by
  by_cases h : HRt o r v
  case neg =>
    rw [if_pos h]
    have hb := head_bad o r v h
    refine enterK (tb := tb) Tryz.func66 rfl Tryz.ntmps66 rfl ?_
    simp only [ntC]
    repeat' (first | (apply R.is1; first | (apply R.isCall; apply R.callP rfl rfl rfl hb) | (apply R.pure; exact rfl; first | (apply Ok1.move; exact rfl) | (apply Ok1.fieldAddr; (iterate 5 exact rfl)) | (apply Ok1.load; exact rfl; (apply Ld.own1; exact rfl; exact rfl; exact At.head; exact rfl)) | (apply Ok1.assign; exact rfl) | (apply Ok1.extract; exact rfl; exact rfl) | (apply Ok1.not_f; exact rfl)) | (apply R.box; (iterate 3 exact rfl); intro)) | apply R.nil | (apply T.is; first | apply T.seq | apply T.region | apply T.block | apply T.ret | (apply T.cond_t; exact rfl)))
    (apply RetOk.t; exact rfl)
    exact ⟨[], by (focus ((repeat' (exact Keep.nil _)); done)), rfl, rfl⟩
  rw [if_neg (fun g => g h)]
  have hh := fun w1 => head_ok o r v h w1
  by_cases h1 : n < 32
  · rw [if_pos (.inl h1)]
    refine enterK (tb := tb) Tryz.func66 rfl Tryz.ntmps66 rfl ?_
    simp only [ntC]
    repeat' (first | (apply R.is1; first | (apply R.isBin; (apply R.pure; exact rfl; (apply Ok1.lss_t; exact rfl; exact rfl; omega))) | (apply R.isCall; first | (apply R.callE (vs := [.int .i64 o, .int .i64 r, .int .i64 v]); (iterate 3 exact rfl); exact Ext.none _; intro w1 hw1; exact hh w1; rintro x Lo ⟨ov9, hov9, rfl, rfl⟩) | (apply R.pure; exact rfl; (apply Ok1.lenS; (iterate 3 exact rfl)))) | (apply R.pure; exact rfl; first | (apply Ok1.move; exact rfl) | (apply Ok1.fieldAddr; (iterate 5 exact rfl)) | (apply Ok1.load; exact rfl; (apply Ld.own1; exact rfl; exact rfl; (focus ((repeat' (first | exact At.head | apply At.right)); done)); exact rfl)) | (apply Ok1.assign; exact rfl) | (apply Ok1.extract; exact rfl; exact rfl) | (apply Ok1.pick_t; exact rfl; exact rfl) | (apply Ok1.not_t; exact rfl)) | (apply R.box; (iterate 3 exact rfl); intro)) | (apply R.isG; (apply R.guard_not; (iterate 3 exact rfl))) | apply R.nil | (apply T.is; first | apply T.seq | apply T.region | apply T.block | apply T.ret | (apply T.cond_t; exact rfl) | (apply T.cond_f; exact rfl)))
    (apply RetOk.t; exact rfl)
    exact ⟨[], by (focus ((repeat' (exact Keep.nil _)); done)), rfl, rfl⟩
  by_cases h2 : 96 < n
  · rw [if_pos (.inr h2)]
    refine enterK (tb := tb) Tryz.func66 rfl Tryz.ntmps66 rfl ?_
    simp only [ntC]
    repeat' (first | (apply R.is1; first | (apply R.isBin; (apply R.pure; exact rfl; first | (apply Ok1.lss_f; exact rfl; exact rfl; omega) | (apply Ok1.gtr_t; exact rfl; exact rfl; omega))) | (apply R.isCall; first | (apply R.callE (vs := [.int .i64 o, .int .i64 r, .int .i64 v]); (iterate 3 exact rfl); exact Ext.none _; intro w1 hw1; exact hh w1; rintro x Lo ⟨ov9, hov9, rfl, rfl⟩) | (apply R.pure; exact rfl; (apply Ok1.lenS; (iterate 3 exact rfl)))) | (apply R.pure; exact rfl; first | (apply Ok1.move; exact rfl) | (apply Ok1.fieldAddr; (iterate 5 exact rfl)) | (apply Ok1.load; exact rfl; (apply Ld.own1; exact rfl; exact rfl; (focus ((repeat' (first | exact At.head | apply At.right)); done)); exact rfl)) | (apply Ok1.assign; exact rfl) | (apply Ok1.extract; exact rfl; exact rfl) | (apply Ok1.pick_f; exact rfl; exact rfl) | (apply Ok1.not_t; exact rfl)) | (apply R.box; (iterate 3 exact rfl); intro)) | (apply R.isG; (apply R.guard_run; exact rfl; exact rfl)) | apply R.nil | (apply T.is; first | apply T.seq | apply T.region | apply T.block | apply T.ret | (apply T.cond_t; exact rfl) | (apply T.cond_f; exact rfl)))
    (apply RetOk.t; exact rfl)
    exact ⟨[], by (focus ((repeat' (exact Keep.nil _)); done)), rfl, rfl⟩
  rw [if_neg (by omega)]
  refine enterK (tb := tb) Tryz.func66 rfl Tryz.ntmps66 rfl ?_
  simp only [ntC]
  repeat' (first | (apply R.is1; first | (apply R.isBin; (apply R.pure; exact rfl; first | (apply Ok1.lss_f; exact rfl; exact rfl; omega) | (apply Ok1.gtr_f; exact rfl; exact rfl; omega))) | (apply R.isCall; first | (apply R.callE (vs := [.int .i64 o, .int .i64 r, .int .i64 v]); (iterate 3 exact rfl); exact Ext.none _; intro w1 hw1; exact hh w1; rintro x Lo ⟨ov9, hov9, rfl, rfl⟩) | (apply R.pure; exact rfl; (apply Ok1.lenS; (iterate 3 exact rfl)))) | (apply R.pure; exact rfl; first | (apply Ok1.move; exact rfl) | (apply Ok1.fieldAddr; (iterate 5 exact rfl)) | (apply Ok1.load; exact rfl; (apply Ld.own1; exact rfl; exact rfl; (focus ((repeat' (first | exact At.head | apply At.right)); done)); exact rfl)) | (apply Ok1.assign; exact rfl) | (apply Ok1.extract; exact rfl; exact rfl) | (apply Ok1.pick_f; exact rfl; exact rfl) | (apply Ok1.not_t; exact rfl)) | (apply R.box; (iterate 3 exact rfl); intro)) | (apply R.isG; (apply R.guard_run; exact rfl; exact rfl)) | apply R.nil | (apply T.is; first | apply T.seq | apply T.region | apply T.block | apply T.skip | apply T.ret | (apply T.cond_f; exact rfl)))
  (apply RetOk.t; exact rfl)
  exact ⟨[], by (focus ((repeat' (exact Keep.nil _)); done)), rfl, rfl⟩
end Go.Proofs.YtligngjcnlbgmaaGreat
set_option linter.unusedSimpArgs false
set_option linter.unusedVariables false
namespace Go.Proofs.YtligngjcnlbgmaaGreat
open Go.ChangeShapes Go.WideShapes Go.ChangeAt Go.RowKit
theorem ownY : ownKnob Tryz.prog.godebug = none := by kernel_rfl
theorem laidY : laidOutB Tryz.prog = true := by kernel_rfl
section
variable {H : Type} {enc : TypeId × Value → H} {P : Program} {w : World} {base : Nat} {spare : Nat → Bool} {held : Bool}
end
theorem int1_dec {cs : List Value} (h : allW [.int .i64] cs) : ∃ a : Int, cs = [.int .i64 a] := by
  match cs, h with
  | [.int k1 a], h =>
    obtain ⟨⟨rfl, _⟩, _⟩ := h
    exact ⟨a, rfl⟩
end Go.Proofs.YtligngjcnlbgmaaGreat
set_option linter.unusedSimpArgs false
set_option linter.unusedVariables false
namespace Go.Proofs.YtligngjcnlbgmaaGreat
open Go.RowKit Go.Shelf
set_option maxRecDepth 100000
theorem nseal_nil (o r v : Int) (p : Option Addr) (n cap : Nat) (w : World) : CallM Tryz.prog 10 [.pointer none, .agg ⟨ntC o r v p n cap⟩] [] w fun x L => x = .tuple #[.agg ⟨ntC 0 0 0 none 0 0⟩, .int .i64 1] ∧ L = [] := by
  by_cases h : HRt o r v
  · have hh := fun w1 => head_ok o r v h w1
    refine enterK (tb := tb) Tryz.func10 rfl Tryz.ntmps10 rfl ?_
    simp only [ntC]
    repeat' (first | (apply R.is1; first | (apply R.isBin; (apply R.pure; exact rfl; (apply Ok1.eqlP; (iterate 5 exact rfl)))) | (apply R.isCall; (apply R.callE (vs := [.int .i64 o, .int .i64 r, .int .i64 v]); (iterate 3 exact rfl); exact Ext.none _; intro w1 hw1; exact hh w1; rintro x Lo ⟨ov7, hov7, rfl, rfl⟩; rw [slV_eq hov7])) | (apply R.pure; exact rfl; first | (apply Ok1.move; exact rfl) | (apply Ok1.fieldAddr; (iterate 5 exact rfl)) | (apply Ok1.load; exact rfl; (apply Ld.own1; exact rfl; exact rfl; (focus ((repeat' (first | exact At.head | apply At.tail)); done)); exact rfl)) | (apply Ok1.assign; exact rfl) | (apply Ok1.build; (iterate 5 exact rfl)) | (apply Ok1.extract; exact rfl; exact rfl)) | (apply R.box; (iterate 3 exact rfl); intro) | (apply R.alloc; (iterate 3 exact rfl); intro)) | (apply R.is0; (apply R.store; (iterate 6 exact rfl); (focus ((repeat' (first | exact Upd.head | apply Upd.right)); done)); exact rfl)) | apply R.nil | (apply T.is; first | apply T.seq | apply T.region | apply T.block | apply T.ret | (apply T.cond_t; exact rfl)))
    (apply RetOk.ct; exact rfl; ((apply Ld.ownk; exact rfl; exact rfl; (focus ((repeat' (first | exact At.head | apply At.right)); done)); exact rfl)); exact rfl)
    exact ⟨[], by (focus ((repeat' (exact Keep.nil _)); done)), rfl, rfl⟩
  · have hb := head_bad o r v h
    refine enterK (tb := tb) Tryz.func10 rfl Tryz.ntmps10 rfl ?_
    simp only [ntC]
    repeat' (first | (apply R.is1; first | (apply R.isBin; (apply R.pure; exact rfl; (apply Ok1.eqlP; (iterate 5 exact rfl)))) | (apply R.isCall; apply R.callP rfl rfl rfl hb) | (apply R.pure; exact rfl; first | (apply Ok1.move; exact rfl) | (apply Ok1.fieldAddr; (iterate 5 exact rfl)) | (apply Ok1.load; exact rfl; (apply Ld.own1; exact rfl; exact rfl; (focus ((repeat' (first | exact At.head | apply At.tail)); done)); exact rfl)) | (apply Ok1.assign; exact rfl) | (apply Ok1.build; (iterate 5 exact rfl)) | (apply Ok1.extract; exact rfl; exact rfl)) | (apply R.box; (iterate 3 exact rfl); intro) | (apply R.alloc; (iterate 3 exact rfl); intro)) | (apply R.is0; (apply R.store; (iterate 6 exact rfl); exact Upd.head; exact rfl)) | apply R.nil | (apply T.is; first | apply T.seq | apply T.region | apply T.block | apply T.ret | (apply T.cond_t; exact rfl)))
    (apply RetOk.ct; exact rfl; ((apply Ld.ownk; exact rfl; exact rfl; exact At.head; exact rfl)); exact rfl)
    exact ⟨[], by (focus ((repeat' (exact Keep.nil _)); done)), rfl, rfl⟩
def nsE (o r v : Int) (n : Nat) : Int := if ¬ HRt o r v then 10 else if 64 < n then 2 else 0
theorem nseal_bad (bk : Nat) (o r v : Int) (p : Option Addr) (n cap : Nat) (hne : nsE o r v n ≠ 0) (w : World) : CallM Tryz.prog 10 [.pointer (some ⟨bk, 0, none⟩), .agg ⟨ntC o r v p n cap⟩] [] w fun x L => x = .tuple #[.agg ⟨ntC 0 0 0 none 0 0⟩, .int .i64 (nsE o r v n)] ∧ L = [] := by
  by_cases h : HRt o r v
  · have hh := fun w1 => head_ok o r v h w1
    have h64 : 64 < n := by
      unfold nsE at hne
      rw [if_neg (fun g => g h)] at hne
      by_cases g : 64 < n
      · exact g
      · rw [if_neg g] at hne; exact absurd rfl hne
    have he : nsE o r v n = 2 := by unfold nsE; rw [if_neg (fun g => g h), if_pos h64]
    rw [he]
    refine enterK (tb := tb) Tryz.func10 rfl Tryz.ntmps10 rfl ?_
    simp only [ntC]
    repeat' (first | (apply R.is1; first | (apply R.isBin; (apply R.pure; exact rfl; first | (apply Ok1.eqlP; (iterate 5 exact rfl)) | (apply Ok1.gtr_t; exact rfl; exact rfl; omega))) | (apply R.isCall; first | (apply R.callE (vs := [.int .i64 o, .int .i64 r, .int .i64 v]); (iterate 3 exact rfl); exact Ext.none _; intro w1 hw1; exact hh w1; rintro x Lo ⟨ov7, hov7, rfl, rfl⟩; rw [slV_eq hov7]) | (apply R.pure; exact rfl; (apply Ok1.lenS; (iterate 3 exact rfl)))) | (apply R.pure; exact rfl; first | (apply Ok1.move; exact rfl) | (apply Ok1.fieldAddr; (iterate 5 exact rfl)) | (apply Ok1.load; exact rfl; (apply Ld.own1; exact rfl; exact rfl; (focus ((repeat' (first | exact At.head | apply At.tail | apply At.right)); done)); exact rfl)) | (apply Ok1.assign; exact rfl) | (apply Ok1.build; (iterate 5 exact rfl)) | (apply Ok1.extract; exact rfl; exact rfl) | (apply Ok1.not_t; exact rfl)) | (apply R.box; (iterate 3 exact rfl); intro) | (apply R.alloc; (iterate 3 exact rfl); intro)) | (apply R.is0; (apply R.store; (iterate 6 exact rfl); (focus ((repeat' (first | exact Upd.head | apply Upd.right)); done)); exact rfl)) | apply R.nil | (apply T.is; first | apply T.seq | apply T.region | apply T.block | apply T.ret | (apply T.cond_t; exact rfl) | (apply T.cond_f; exact rfl)))
    (apply RetOk.ct; exact rfl; ((apply Ld.ownk; exact rfl; exact rfl; (focus ((repeat' (first | exact At.head | apply At.right)); done)); exact rfl)); exact rfl)
    exact ⟨[], by (focus ((repeat' (exact Keep.nil _)); done)), rfl, rfl⟩
  · have hb := head_bad o r v h
    have he : nsE o r v n = 10 := by unfold nsE; rw [if_pos h]
    rw [he]
    refine enterK (tb := tb) Tryz.func10 rfl Tryz.ntmps10 rfl ?_
    simp only [ntC]
    repeat' (first | (apply R.is1; first | (apply R.isBin; (apply R.pure; exact rfl; (apply Ok1.eqlP; (iterate 5 exact rfl)))) | (apply R.isCall; apply R.callP rfl rfl rfl hb) | (apply R.pure; exact rfl; first | (apply Ok1.move; exact rfl) | (apply Ok1.fieldAddr; (iterate 5 exact rfl)) | (apply Ok1.load; exact rfl; (apply Ld.own1; exact rfl; exact rfl; (focus ((repeat' (first | exact At.head | apply At.tail)); done)); exact rfl)) | (apply Ok1.assign; exact rfl) | (apply Ok1.build; (iterate 5 exact rfl)) | (apply Ok1.extract; exact rfl; exact rfl) | (apply Ok1.not_f; exact rfl)) | (apply R.box; (iterate 3 exact rfl); intro) | (apply R.alloc; (iterate 3 exact rfl); intro)) | (apply R.is0; (apply R.store; (iterate 6 exact rfl); exact Upd.head; exact rfl)) | apply R.nil | (apply T.is; first | apply T.seq | apply T.region | apply T.block | apply T.ret | (apply T.cond_t; exact rfl) | (apply T.cond_f; exact rfl)))
    (apply RetOk.ct; exact rfl; ((apply Ld.ownk; exact rfl; exact rfl; exact At.head; exact rfl)); exact rfl)
    exact ⟨[], by (focus ((repeat' (exact Keep.nil _)); done)), rfl, rfl⟩
/-- A note's bytes, sealed. -/
def nsI (k : List Int) (o r v : Int) (xs : List Int) : List Int := sealI k (headI o r v) (headI o r v) xs
theorem nseal_ok (bk : Nat) (k : List Int) (hkl : k.length ≤ 999999000) (hkb : Byt k) (o r v : Int) (p : Option Addr) (n cap : Nat) (xs : List Int) (hn : n = xs.length) (hby : Byt xs) (h : HRt o r v) (h64 : n ≤ 64) (w : World) (hk : KeyR w bk k) (hp : RdSl w p u8V xs) : CallM Tryz.prog 10 [.pointer (some ⟨bk, 0, none⟩), .agg ⟨ntC o r v p n cap⟩] [] w fun x L => ∃ ov, OvOk 1 ov (n + 32) (u8s (nsI k o r v xs)) ∧ x = .tuple #[.agg ⟨ntC o r v (ovp ov) (n + 32) (ovc ov (n + 32))⟩, .int .i64 0] ∧ L = blkL 5 ov (u8s (nsI k o r v xs)) := by
  have hh := fun w1 => head_ok o r v h w1
  have hhl := headI_len o r v
  have hhb := headI_byt o r v
  have hss : nsI k o r v xs = sealI k (headI o r v) (headI o r v) xs := rfl
  have hse := fun q c w1 (hc : Chg [] w w1) h1 => sseal_ok bk k hkl hkb q 7 c (headI o r v) hhl.symm (by decide) hhb q 7 c (headI o r v) hhl.symm (by decide) hhb p n cap xs hn (by omega) hby w1 (hk.chg hc) h1 h1 (hp.chg' hc (fun _ => Off.nil _))
  rw [← hss] at hse
  generalize nsI k o r v xs = SS at *
  generalize headI o r v = H at *
  refine enterK (tb := tb) Tryz.func10 rfl Tryz.ntmps10 rfl ?_
  simp only [ntC]
  repeat' (first | (apply R.is1; first | (apply R.isBin; (apply R.pure; exact rfl; first | (apply Ok1.eqlP; (iterate 5 exact rfl)) | (apply Ok1.gtr_f; exact rfl; exact rfl; omega))) | (apply R.isCall; first | (apply R.callE (vs := [.int .i64 o, .int .i64 r, .int .i64 v]); (iterate 3 exact rfl); exact Ext.none _; intro w1 hw1; exact hh w1; rintro x Lo ⟨ov7, hov7, rfl, rfl⟩; rw [slV_eq hov7]) | (apply R.callE (vs := [.pointer (some ⟨bk, 0, none⟩), .slice (ovp ov7) 7 (ovc ov7 7), .slice (ovp ov7) 7 (ovc ov7 7), .slice p n cap]); (iterate 3 exact rfl); exact Ext.none _; intro w1 hw1; exact hse _ _ w1 hw1.chg (rdown (by rw [hhl]; exact hov7) hw1 (Ext.mem (by (focus ((repeat' (exact Ext.here _ _)); done))))); rintro x Lo ⟨ov9, hov9, rfl, rfl⟩; rw [slV_eq hov9]) | (apply R.pure; exact rfl; (apply Ok1.lenS; (iterate 3 exact rfl)))) | (apply R.pure; exact rfl; first | (apply Ok1.move; exact rfl) | (apply Ok1.fieldAddr; (iterate 5 exact rfl)) | (apply Ok1.load; exact rfl; (apply Ld.own1; exact rfl; exact rfl; (focus ((repeat' (first | exact At.head | apply At.tail | apply At.right)); done)); exact rfl)) | (apply Ok1.assign; exact rfl) | (apply Ok1.build; (iterate 5 exact rfl)) | (apply Ok1.extract; exact rfl; exact rfl) | (apply Ok1.not_t; exact rfl)) | (apply R.box; (iterate 3 exact rfl); intro) | (apply R.alloc; (iterate 3 exact rfl); intro)) | (apply R.is0; (apply R.store; (iterate 6 exact rfl); (focus ((repeat' (first | exact Upd.head | apply Upd.right)); done)); exact rfl)) | apply R.nil | (apply T.is; first | apply T.seq | apply T.region | apply T.block | apply T.skip | apply T.ret | (apply T.cond_f; exact rfl)))
  (apply RetOk.ct; exact rfl; ((apply Ld.ownk; exact rfl; exact rfl; (focus ((repeat' (first | exact At.head | apply At.right)); done)); exact rfl)); exact rfl)
  exact ⟨_, by (focus ((repeat' (first | exact Ext.here _ _ | apply Keep.last)); done)), ov9, hov9, rfl, rfl⟩
def noE (k : List Int) (o r v : Int) (s : List Int) : Int := if ¬ HRt o r v then 10 else if 96 < s.length then 2 else sopE k (headI o r v) (headI o r v) s
def noI (k : List Int) (o r v : Int) (s : List Int) : List Int := sopI k (headI o r v) s
theorem nopen_ok (bk : Nat) (k : List Int) (hkl : k.length ≤ 999999000) (hkb : Byt k) (o r v : Int) (p : Option Addr) (n cap : Nat) (s : List Int) (hn : n = s.length) (hcap : n ≤ cap) (hby : Byt s) (w : World) (hk : KeyR w bk k) (hp : RdSl w p u8V s) :
    CallM Tryz.prog 13 [.pointer (some ⟨bk, 0, none⟩), .agg ⟨ntC o r v p n cap⟩] [] w fun x L => if noE k o r v s = 0 then ∃ ov, OvOk 1 ov (noI k o r v s).length (u8s (noI k o r v s)) ∧ x = .tuple #[.agg ⟨ntC o r v (ovp ov) (noI k o r v s).length (ovc ov (noI k o r v s).length)⟩, .int .i64 0] ∧ L = blkL 5 ov (u8s (noI k o r v s)) else x = .tuple #[.agg ⟨ntC 0 0 0 none 0 0⟩, .int .i64 (noE k o r v s)] ∧ L = [] := by
  by_cases h : HRt o r v
  case neg =>
    have he : noE k o r v s = 10 := by unfold noE; rw [if_pos h]
    rw [he]
    have hz : ¬ (10 : Int) = 0 := by decide
    simp only [if_neg hz]
    have hb := head_bad o r v h
    refine enterK (tb := tb) Tryz.func13 rfl Tryz.ntmps13 rfl ?_
    simp only [ntC]
    repeat' (first | (apply R.is1; first | (apply R.isBin; (apply R.pure; exact rfl; (apply Ok1.eqlP; (iterate 5 exact rfl)))) | (apply R.isCall; apply R.callP rfl rfl rfl hb) | (apply R.pure; exact rfl; first | (apply Ok1.move; exact rfl) | (apply Ok1.fieldAddr; (iterate 5 exact rfl)) | (apply Ok1.load; exact rfl; (apply Ld.own1; exact rfl; exact rfl; (focus ((repeat' (first | exact At.head | apply At.tail)); done)); exact rfl)) | (apply Ok1.assign; exact rfl) | (apply Ok1.build; (iterate 5 exact rfl)) | (apply Ok1.extract; exact rfl; exact rfl) | (apply Ok1.not_f; exact rfl)) | (apply R.box; (iterate 3 exact rfl); intro) | (apply R.alloc; (iterate 3 exact rfl); intro)) | (apply R.is0; (apply R.store; (iterate 6 exact rfl); exact Upd.head; exact rfl)) | apply R.nil | (apply T.is; first | apply T.seq | apply T.region | apply T.block | apply T.ret | (apply T.cond_t; exact rfl) | (apply T.cond_f; exact rfl)))
    (apply RetOk.ct; exact rfl; ((apply Ld.ownk; exact rfl; exact rfl; exact At.head; exact rfl)); exact rfl)
    exact ⟨[], by (focus ((repeat' (exact Keep.nil _)); done)), rfl, rfl⟩
  have hh := fun w1 => head_ok o r v h w1
  by_cases h96 : 96 < n
  · have he : noE k o r v s = 2 := by unfold noE; rw [if_neg (fun g => g h), if_pos (by omega)]
    rw [he]
    have hz : ¬ (2 : Int) = 0 := by decide
    simp only [if_neg hz]
    refine enterK (tb := tb) Tryz.func13 rfl Tryz.ntmps13 rfl ?_
    simp only [ntC]
    repeat' (first | (apply R.is1; first | (apply R.isBin; (apply R.pure; exact rfl; first | (apply Ok1.eqlP; (iterate 5 exact rfl)) | (apply Ok1.gtr_t; exact rfl; exact rfl; omega))) | (apply R.isCall; first | (apply R.callE (vs := [.int .i64 o, .int .i64 r, .int .i64 v]); (iterate 3 exact rfl); exact Ext.none _; intro w1 hw1; exact hh w1; rintro x Lo ⟨ov7, hov7, rfl, rfl⟩; rw [slV_eq hov7]) | (apply R.pure; exact rfl; (apply Ok1.lenS; (iterate 3 exact rfl)))) | (apply R.pure; exact rfl; first | (apply Ok1.move; exact rfl) | (apply Ok1.fieldAddr; (iterate 5 exact rfl)) | (apply Ok1.load; exact rfl; (apply Ld.own1; exact rfl; exact rfl; (focus ((repeat' (first | exact At.head | apply At.tail | apply At.right)); done)); exact rfl)) | (apply Ok1.assign; exact rfl) | (apply Ok1.build; (iterate 5 exact rfl)) | (apply Ok1.extract; exact rfl; exact rfl) | (apply Ok1.not_t; exact rfl)) | (apply R.box; (iterate 3 exact rfl); intro) | (apply R.alloc; (iterate 3 exact rfl); intro)) | (apply R.is0; (apply R.store; (iterate 6 exact rfl); (focus ((repeat' (first | exact Upd.head | apply Upd.right)); done)); exact rfl)) | apply R.nil | (apply T.is; first | apply T.seq | apply T.region | apply T.block | apply T.ret | (apply T.cond_t; exact rfl) | (apply T.cond_f; exact rfl)))
    (apply RetOk.ct; exact rfl; ((apply Ld.ownk; exact rfl; exact rfl; (focus ((repeat' (first | exact At.head | apply At.right)); done)); exact rfl)); exact rfl)
    exact ⟨[], by (focus ((repeat' (exact Keep.nil _)); done)), rfl, rfl⟩
  have hhl := headI_len o r v
  have hhb := headI_byt o r v
  have he : noE k o r v s = sopE k (headI o r v) (headI o r v) s := by unfold noE; rw [if_neg (fun g => g h), if_neg (by omega)]
  have hi : noI k o r v s = sopI k (headI o r v) s := rfl
  have hop := fun q c w1 (hc : Chg [] w w1) h1 => sopen_ok bk k hkl hkb q 7 c (headI o r v) hhl.symm (by decide) hhb q 7 c (headI o r v) hhl.symm (by decide) hhb p n cap s hn hcap (by omega) hby w1 (hk.chg hc) h1 h1 (hp.chg' hc (fun _ => Off.nil _))
  have hN : sopN k (headI o r v) (headI o r v) s = if noE k o r v s = 0 then noI k o r v s else [] := by unfold sopN; rw [he, hi]
  rw [← he] at hop
  generalize sopN k (headI o r v) (headI o r v) s = N at *
  generalize noI k o r v s = I9 at *
  generalize noE k o r v s = E9 at *
  generalize headI o r v = H at *
  by_cases hE : E9 = 0
  · simp only [if_pos hE]
    rw [if_pos hE] at hN
    subst hN hE
    refine enterK (tb := tb) Tryz.func13 rfl Tryz.ntmps13 rfl ?_
    simp only [ntC]
    repeat' (first | (apply R.is1; first | (apply R.isBin; (apply R.pure; exact rfl; first | (apply Ok1.eqlP; (iterate 5 exact rfl)) | (apply Ok1.gtr_f; exact rfl; exact rfl; omega) | (apply Ok1.neq_f; exact rfl; exact rfl; omega))) | (apply R.isCall; first | (apply R.callE (vs := [.int .i64 o, .int .i64 r, .int .i64 v]); (iterate 3 exact rfl); exact Ext.none _; intro w1 hw1; exact hh w1; rintro x Lo ⟨ov7, hov7, rfl, rfl⟩; rw [slV_eq hov7]) | (apply R.callE (vs := [.pointer (some ⟨bk, 0, none⟩), .slice (ovp ov7) 7 (ovc ov7 7), .slice (ovp ov7) 7 (ovc ov7 7), .slice p n cap]); (iterate 3 exact rfl); exact Ext.none _; intro w1 hw1; exact hop _ _ w1 hw1.chg (rdown (by rw [hhl]; exact hov7) hw1 (Ext.mem (by (focus ((repeat' (exact Ext.here _ _)); done))))); rintro x Lo ⟨ov9, hov9, rfl, rfl⟩; rw [slV_eq hov9]) | (apply R.pure; exact rfl; (apply Ok1.lenS; (iterate 3 exact rfl)))) | (apply R.pure; exact rfl; first | (apply Ok1.move; exact rfl) | (apply Ok1.fieldAddr; (iterate 5 exact rfl)) | (apply Ok1.load; exact rfl; (apply Ld.own1; exact rfl; exact rfl; (focus ((repeat' (first | exact At.head | apply At.tail | apply At.right)); done)); exact rfl)) | (apply Ok1.assign; exact rfl) | (apply Ok1.build; (iterate 5 exact rfl)) | (apply Ok1.extract; exact rfl; exact rfl) | (apply Ok1.not_t; exact rfl)) | (apply R.box; (iterate 3 exact rfl); intro) | (apply R.alloc; (iterate 3 exact rfl); intro)) | (apply R.is0; (apply R.store; (iterate 6 exact rfl); (focus ((repeat' (first | exact Upd.head | apply Upd.right)); done)); exact rfl)) | apply R.nil | (apply T.is; first | apply T.seq | apply T.region | apply T.block | apply T.skip | apply T.ret | (apply T.cond_f; exact rfl)))
    (apply RetOk.ct; exact rfl; ((apply Ld.ownk; exact rfl; exact rfl; (focus ((repeat' (first | exact At.head | apply At.right)); done)); exact rfl)); exact rfl)
    exact ⟨_, by (focus ((repeat' (first | exact Ext.here _ _ | apply Keep.last)); done)), ov9, hov9, rfl, rfl⟩
  · simp only [if_neg hE]
    rw [if_neg hE] at hN
    subst hN
    refine enterK (tb := tb) Tryz.func13 rfl Tryz.ntmps13 rfl ?_
    simp only [ntC]
    repeat' (first | (apply R.is1; first | (apply R.isBin; (apply R.pure; exact rfl; first | (apply Ok1.eqlP; (iterate 5 exact rfl)) | (apply Ok1.gtr_f; exact rfl; exact rfl; omega) | (apply Ok1.neq_t; exact rfl; exact rfl; omega))) | (apply R.isCall; first | (apply R.callE (vs := [.int .i64 o, .int .i64 r, .int .i64 v]); (iterate 3 exact rfl); exact Ext.none _; intro w1 hw1; exact hh w1; rintro x Lo ⟨ov7, hov7, rfl, rfl⟩; rw [slV_eq hov7]) | (apply R.callE (vs := [.pointer (some ⟨bk, 0, none⟩), .slice (ovp ov7) 7 (ovc ov7 7), .slice (ovp ov7) 7 (ovc ov7 7), .slice p n cap]); (iterate 3 exact rfl); exact Ext.none _; intro w1 hw1; exact hop _ _ w1 hw1.chg (rdown (by rw [hhl]; exact hov7) hw1 (Ext.mem (by (focus ((repeat' (exact Ext.here _ _)); done))))); rintro x Lo ⟨ov9, hov9, rfl, rfl⟩; rw [slV_eq hov9]) | (apply R.pure; exact rfl; (apply Ok1.lenS; (iterate 3 exact rfl)))) | (apply R.pure; exact rfl; first | (apply Ok1.move; exact rfl) | (apply Ok1.fieldAddr; (iterate 5 exact rfl)) | (apply Ok1.load; exact rfl; (apply Ld.own1; exact rfl; exact rfl; (focus ((repeat' (first | exact At.head | apply At.tail | apply At.right)); done)); exact rfl)) | (apply Ok1.assign; exact rfl) | (apply Ok1.build; (iterate 5 exact rfl)) | (apply Ok1.extract; exact rfl; exact rfl) | (apply Ok1.not_t; exact rfl)) | (apply R.box; (iterate 3 exact rfl); intro) | (apply R.alloc; (iterate 3 exact rfl); intro)) | (apply R.is0; (apply R.store; (iterate 6 exact rfl); (focus ((repeat' (first | exact Upd.head | apply Upd.right)); done)); exact rfl)) | apply R.nil | (apply T.is; first | apply T.seq | apply T.region | apply T.block | apply T.skip | apply T.ret | (apply T.cond_t; exact rfl) | (apply T.cond_f; exact rfl)))
    (apply RetOk.ct; exact rfl; ((apply Ld.ownk; exact rfl; exact rfl; (focus ((repeat' (first | exact At.head | apply At.right)); done)); exact rfl)); exact rfl)
    exact ⟨[], by (focus ((repeat' (exact Keep.nil _)); done)), rfl, rfl⟩
end Go.Proofs.YtligngjcnlbgmaaGreat
set_option linter.unusedSimpArgs false
set_option linter.unusedVariables false
namespace Go.Proofs.YtligngjcnlbgmaaGreat
open Go.RowKit Go.Shelf
theorem KeyT.flatA {P : Program} (tb : Tb P) {t : Nat} {r : TRow} {ks : List TK} {κ : Type} (enc : κ → List Value) (ht : tb.row t = some r) {n e : Nat} (hk : r.k = .arr n e) (hf : flatE tb 8 t = some ks) (ho : ∀ k, allOk ks (enc k) = true) (hi : ∀ a b, enc a = enc b → a = b) :
    KeyT P t (fun k => .agg ⟨enc k⟩) := by
  refine ⟨fun w a b => ?_, fun w e9 a => ?_, fun a => ?_, ?_⟩
  · obtain ⟨b', r1, r2⟩ := Op_equal_flat tb ht (by rw [hk]; rfl) hf (ho a) (ho b) w
    exact ⟨b', r1, r2.trans ⟨hi a b, fun e => by rw [e]⟩⟩
  · obtain ⟨ag, a1, a2, a3⟩ := chkFlat tb e9 8 t ks hf
    have : ag = true := by
      have e1 := a1 w
      rw [(tb.get ht).agg (b := true) (by rw [hk]; rfl) w] at e1
      injection e1 with e1 _
      exact e1.symm
    subst this
    simpa [valOf] using a3 10000 (by omega) w _ (ho a)
  · have h := sameBits_flat (ho a)
    show (((Array.mk (enc a)).size == (Array.mk (enc a)).size) && ((Array.mk (enc a)).toList.zip (Array.mk (enc a)).toList).all fun (x, y) => Instr.sameBits 9999 x y) = true
    simp only [beq_self_eq_true, Bool.true_and]
    exact h
  · have his := (tb.get ht).is
    rw [hk] at his
    exact ⟨_, his, .inl fun a b => rfl⟩
/-- The blocks of the second list are taken out of the first, one by one. -/
def Rem9 : Lst → Lst → Lst → Prop
  | L, [], L2 => L = L2
  | L, x :: s, L2 => ∃ P Q, L = P ++ x :: Q ∧ Rem9 (P ++ Q) s L2
theorem Rem9.ext : ∀ (s L L2 : Lst), Rem9 L s L2 → Ext L s L2
  | [], L, L2, h => by
    have h' : L = L2 := h
    subst h'
    exact .none L
  | x :: s, L, L2, h => by
    obtain ⟨P, Q, rfl, h⟩ := h
    exact .two x (.app P (.one x Q)) (Rem9.ext s _ _ h)
theorem Rem9.cons (y : Nat × Obj) : ∀ (s L L2 : Lst), Rem9 L s L2 → Rem9 (y :: L) s (y :: L2)
  | [], L, L2, h => by
    have h' : L = L2 := h
    subst h'
    exact rfl
  | x :: s, L, L2, h => by
    obtain ⟨P, Q, rfl, h⟩ := h
    exact ⟨y :: P, Q, rfl, Rem9.cons y s _ _ h⟩
theorem Rem9.app (B : Lst) {s L L2 : Lst} (h : Rem9 L s L2) : Rem9 (B ++ L) s (B ++ L2) := by
  induction B with
  | nil => exact h
  | cons y B ih => exact Rem9.cons y _ _ _ ih
theorem Rem9.cat : ∀ (C L L1 s L2 : Lst), Rem9 L C L1 → Rem9 L1 s L2 → Rem9 L (C ++ s) L2
  | [], L, L1, s, L2, h, h2 => by
    have h' : L = L1 := h
    subst h'
    exact h2
  | x :: C, L, L1, s, L2, h, h2 => by
    obtain ⟨P, Q, rfl, h⟩ := h
    exact ⟨P, Q, rfl, Rem9.cat C _ _ _ _ h h2⟩
theorem Rem9.here : ∀ (C B : Lst), Rem9 (C ++ B) C B
  | [], B => rfl
  | x :: C, B => ⟨[], C ++ B, rfl, Rem9.here C B⟩
theorem Ext.rem9 {L s L1 : Lst} (h : Ext L s L1) : Rem9 L s L1 := by
  induction h with
  | none L => exact rfl
  | all L => have := Rem9.here L []; rwa [List.append_nil] at this
  | here C B => exact Rem9.here C B
  | one x L => exact ⟨[], L, rfl, rfl⟩
  | cons x _ ih => exact Rem9.cons x _ _ _ ih
  | app C _ ih => exact Rem9.app C ih
  | two x _ _ ih1 ih2 =>
    obtain ⟨P, Q, h1, h2⟩ := ih1
    have h2' : P ++ Q = _ := h2
    exact ⟨P, Q, h1, h2' ▸ ih2⟩
/-- A part that lies in two pieces. -/
theorem Ext.cat9 {L C L1 s L2 : Lst} (h1 : Ext L C L1) (h2 : Ext L1 s L2) : Ext L (C ++ s) L2 := Rem9.ext _ _ _ (Rem9.cat _ _ _ _ _ h1.rem9 h2.rem9)
end Go.Proofs.YtligngjcnlbgmaaGreat
set_option linter.unusedSimpArgs false
set_option linter.unusedVariables false
namespace Go.Proofs.YtligngjcnlbgmaaGreat
open Go.RowKit Go.Shelf
set_option maxRecDepth 100000
def kv2 (k : Int × Int) : Value := .agg ⟨[.int .i64 k.1, .int .i64 k.2]⟩
theorem kt2 : KeyT Tryz.prog 145 kv2 := KeyT.flatA tb (fun k : Int × Int => [.int .i64 k.1, .int .i64 k.2]) rfl rfl rfl (fun _ => rfl) fun a b h => by
  simp only [List.cons.injEq, Value.int.injEq, true_and, and_true] at h
  exact Prod.ext h.1 h.2
/-- An entry of a store. -/
structure SE where
  o : Int
  r : Int
  ver : Int
  bov : Ov
  body : List Int
  vov : Ov
  val : List Int
  op : Bool
def SE.v (e : SE) : List Value := [.int .i64 e.o, .int .i64 e.r, .int .i64 e.ver, slV e.bov e.body.length, slV e.vov e.val.length, .bool e.op]
def SE.L (e : SE) : Lst := blkL 5 e.bov (u8s e.body) ++ blkL 5 e.vov (u8s e.val)
def evS (e : SE) : Value := .agg ⟨[.int .i64 e.o, .int .i64 e.r, .int .i64 e.ver, slV e.bov e.body.length, slV e.vov e.val.length, .bool e.op]⟩
abbrev SMs := Ms (Int × Int) SE
def SX (ms : SMs) : Lst := ms.flatMap fun x => x.2.1.L
def SL (bs bm : Nat) (ms : SMs) (clk : Nat) : Lst := (bs, .cells ⟨[.map (some bm)]⟩ 139 (0, 0)) :: (bm, mobj kv2 evS ms clk) :: SX ms
theorem stnew_ok (w : World) : CallM Tryz.prog 32 [] [] w fun v L => ∃ bs bm, v = .pointer (some ⟨bs, 0, none⟩) ∧ L = SL bs bm [] 0 := by
  refine enterK (tb := tb) Tryz.func32 rfl Tryz.ntmps32 rfl ?_
  repeat' (first | (apply R.is1; first | (apply R.makeMap kv2 evS; exact rfl; intro bm) | (apply R.pure; exact rfl; first | (apply Ok1.assign; exact rfl) | (apply Ok1.build; (iterate 5 exact rfl))) | (apply R.box; (iterate 3 exact rfl); intro)) | apply R.nil | (apply T.is; first | apply T.seq | apply T.region | apply T.ret))
  (apply RetOk.t; exact rfl)
  exact ⟨_, by (focus ((repeat' (first | exact Keep.nil _ | exact Ext.one _ _ | apply Keep.cons)); done)), _, bm, rfl, rfl⟩
def verI (ms : SMs) (k : Int × Int) : Int := match mget k ms with | some e => e.ver | none => 0
theorem stver_ok (bs bm : Nat) (ms : SMs) (clk : Nat) (o r : Int) (w : World) : CallM Tryz.prog 40 [.pointer (some ⟨bs, 0, none⟩), .int .i64 o, .int .i64 r] (SL bs bm ms clk) w fun v L => v = .int .i64 (verI ms (o, r)) ∧ L = SL bs bm ms clk := by
  cases hm : mget (o, r) ms with
  | some e =>
    have hv : verI ms (o, r) = e.ver := by unfold verI; rw [hm]
    rw [hv]
    refine enterK (tb := tb) Tryz.func40 rfl Tryz.ntmps40 rfl ?_
    simp only [SL]
    generalize SX ms = X
    repeat' (first | (apply R.is1; first | (apply R.isBin; (apply R.pure; exact rfl; (apply Ok1.eqlP; (iterate 5 exact rfl)))) | (apply R.pure; exact rfl; first | (apply Ok1.lookup_some (kv := kv2) (vv := evS) (o, r) kt2; (iterate 6 exact rfl); (focus ((repeat' (first | exact At.head | apply At.tail)); done)); assumption; (exact (if_neg Bool.false_ne_true).symm)) | (apply Ok1.move; exact rfl) | (apply Ok1.fieldAddr; (iterate 5 exact rfl)) | (apply Ok1.load; exact rfl; (apply Ld.own1; exact rfl; exact rfl; exact At.head; exact rfl)) | (apply Ok1.assign; exact rfl) | (apply Ok1.nilCheck; exact rfl) | (apply Ok1.buildA; (iterate 6 exact rfl)) | (apply Ok1.field1; (iterate 7 exact rfl)) | (apply Ok1.fieldk; (iterate 7 exact rfl)))) | apply R.nil | (apply T.is; first | apply T.seq | apply T.region | apply T.skip | apply T.ret | (apply T.cond_f; exact rfl)))
    (apply RetOk.t; exact rfl)
    exact ⟨_, by (focus ((repeat' (first | exact Ext.one _ _ | exact Ext.all _ | apply Keep.cons | apply Keep.last)); done)), rfl, rfl⟩
  | none =>
    have hv : verI ms (o, r) = 0 := by unfold verI; rw [hm]
    rw [hv]
    refine enterK (tb := tb) Tryz.func40 rfl Tryz.ntmps40 rfl ?_
    simp only [SL]
    generalize SX ms = X
    repeat' (first | (apply R.is1; first | (apply R.isBin; (apply R.pure; exact rfl; (apply Ok1.eqlP; (iterate 5 exact rfl)))) | (apply R.pure; exact rfl; first | (apply Ok1.lookup_none (kv := kv2) (vv := evS) (o, r) kt2; (iterate 6 exact rfl); (focus ((repeat' (first | exact At.head | apply At.tail)); done)); assumption; (exact (if_neg Bool.false_ne_true).symm)) | (apply Ok1.move; exact rfl) | (apply Ok1.fieldAddr; (iterate 5 exact rfl)) | (apply Ok1.load; exact rfl; (apply Ld.own1; exact rfl; exact rfl; exact At.head; exact rfl)) | (apply Ok1.assign; exact rfl) | (apply Ok1.nilCheck; exact rfl) | (apply Ok1.buildA; (iterate 6 exact rfl)) | (apply Ok1.field1; (iterate 7 exact rfl)) | (apply Ok1.fieldk; (iterate 7 exact rfl)))) | apply R.nil | (apply T.is; first | apply T.seq | apply T.region | apply T.skip | apply T.ret | (apply T.cond_f; exact rfl)))
    (apply RetOk.t; exact rfl)
    exact ⟨_, by (focus ((repeat' (first | exact Ext.one _ _ | exact Ext.all _ | apply Keep.cons | apply Keep.last)); done)), rfl, rfl⟩
theorem stlen_ok (bs bm : Nat) (ms : SMs) (clk : Nat) (w : World) : CallM Tryz.prog 39 [.pointer (some ⟨bs, 0, none⟩)] (SL bs bm ms clk) w fun v L => v = .int .i64 ms.length ∧ L = SL bs bm ms clk := by
  refine enterK (tb := tb) Tryz.func39 rfl Tryz.ntmps39 rfl ?_
  simp only [SL]
  generalize SX ms = X
  repeat' (first | (apply R.is1; first | (apply R.isBin; (apply R.pure; exact rfl; (apply Ok1.eqlP; (iterate 5 exact rfl)))) | (apply R.isCall; (apply R.pure; exact rfl; (apply Ok1.lenMm; (iterate 3 exact rfl); (focus ((repeat' (first | exact At.head | apply At.tail)); done))))) | (apply R.pure; exact rfl; first | (apply Ok1.move; exact rfl) | (apply Ok1.fieldAddr; (iterate 5 exact rfl)) | (apply Ok1.load; exact rfl; (apply Ld.own1; exact rfl; exact rfl; exact At.head; exact rfl)) | (apply Ok1.assign; exact rfl) | (apply Ok1.nilCheck; exact rfl))) | apply R.nil | (apply T.is; first | apply T.seq | apply T.region | apply T.skip | apply T.ret | (apply T.cond_f; exact rfl)))
  (apply RetOk.t; exact rfl)
  exact ⟨_, by (focus ((repeat' (first | exact Ext.one _ _ | exact Ext.all _ | apply Keep.cons | apply Keep.last)); done)), rfl, rfl⟩
theorem SX_app (a b : SMs) : SX (a ++ b) = SX a ++ SX b := List.flatMap_append
theorem SX_cons (x : (Int × Int) × SE × Nat) (b : SMs) : SX (x :: b) = x.2.1.L ++ SX b := List.flatMap_cons
theorem mset_split9 {κ α : Type} [DecidableEq κ] {k : κ} {a e : α} : ∀ {ms : Ms κ α}, mget k ms = some a → ∃ A c B, ms = A ++ (k, a, c) :: B ∧ mset k e ms = A ++ (k, e, c) :: B
  | [], h => by simp [mget] at h
  | x :: r, h => by
    simp only [mget] at h
    simp only [mset]
    by_cases hx : x.1 = k
    · rw [if_pos hx] at h ⊢
      cases h
      exact ⟨[], x.2.2, r, by rw [← hx]; rfl, by simp [hx]⟩
    · rw [if_neg hx] at h ⊢
      obtain ⟨A, c, B, h1, h2⟩ := mset_split9 (e := e) h
      exact ⟨x :: A, c, B, by rw [h1]; rfl, by rw [h2]; rfl⟩
def putE (ms : SMs) (k : Int × Int) : Int := match mget k ms with | some _ => 0 | none => if ms.length = 64 then 6 else 0
def putM (ms : SMs) (clk : Nat) (k : Int × Int) (e : SE) : SMs × Nat := match mget k ms with | some _ => (mset k e ms, clk) | none => if ms.length = 64 then (ms, clk) else (ms ++ [(k, e, clk)], clk + 1)
theorem stput_ok (bs bm : Nat) (ms : SMs) (clk : Nat) (hver : ∀ k a, mget k ms = some a → a.ver ≠ 0) (e : SE) (w : World) : CallM Tryz.prog 65 [.pointer (some ⟨bs, 0, none⟩), evS e] (SL bs bm ms clk ++ e.L) w fun v L => v = .int .i64 (putE ms (e.o, e.r)) ∧ L = SL bs bm (putM ms clk (e.o, e.r) e).1 (putM ms clk (e.o, e.r) e).2 := by
  generalize hEL : e.L = EL
  cases hm : mget (e.o, e.r) ms with
  | some a =>
    have h1 : putE ms (e.o, e.r) = 0 := by unfold putE; rw [hm]
    have h2 : putM ms clk (e.o, e.r) e = (mset (e.o, e.r) e ms, clk) := by unfold putM; rw [hm]
    have hva := hver _ _ hm
    obtain ⟨MA, c, MB, hA, hB⟩ := mset_split9 (e := e) hm
    have hX : SX ms = SX MA ++ (a.L ++ SX MB) := by rw [hA, SX_app, SX_cons]
    have hX2 : SX (mset (e.o, e.r) e ms) = SX MA ++ (EL ++ SX MB) := by rw [hB, SX_app, SX_cons, hEL]
    rw [h1, h2]
    refine enterK (tb := tb) Tryz.func65 rfl Tryz.ntmps65 rfl ?_
    simp only [SL, evS, hX, hX2]
    generalize SX MA = XA
    generalize SX MB = XB
    generalize a.L = AL
    repeat' (first | (apply R.is1; first | (apply R.pure; exact rfl; first | (apply Ok1.fieldAddr; (iterate 5 exact rfl)) | (apply Ok1.load; exact rfl; (apply Ld.own1; exact rfl; exact rfl; exact At.head; exact rfl)) | (apply Ok1.assign; exact rfl) | (apply Ok1.buildA; (iterate 6 exact rfl))) | (apply R.box; (iterate 3 exact rfl); intro) | (apply R.alloc; (iterate 3 exact rfl); intro)) | (apply R.is0; (apply R.store; (iterate 6 exact rfl); exact Upd.head; exact rfl)) | apply R.nil | (apply T.is; first | (apply T.drawC (id := 2) [0,2,3] (by decide); ((apply A.take 0; exact rfl; exact rfl; kernel_rfl; kernel_rfl; kernel_rfl; (apply Ok1.move; exact rfl)) <;> (apply A.take 1; exact rfl; exact rfl; kernel_rfl; kernel_rfl; kernel_rfl; (apply Ok1.nilCheck; exact rfl)) <;> (apply A.take 2; exact rfl; exact rfl; kernel_rfl; kernel_rfl; kernel_rfl; (apply Ok1.fieldAddr; (iterate 5 exact rfl))) <;> (apply A.take 3; exact rfl; exact rfl; kernel_rfl; kernel_rfl; kernel_rfl; (apply Ok1.load; exact rfl; (apply Ld.own1; exact rfl; exact rfl; (focus ((repeat' (first | exact At.head | apply At.tail)); done)); exact rfl))) <;> (apply A.take 4; exact rfl; exact rfl; kernel_rfl; kernel_rfl; kernel_rfl; (apply Ok1.load; exact rfl; (apply Ld.ownk; exact rfl; exact rfl; exact At.head; exact rfl))) <;> (apply A.take 5; exact rfl; exact rfl; kernel_rfl; kernel_rfl; kernel_rfl; (apply Ok1.lookup_some (kv := kv2) (vv := evS) (e.o, e.r) kt2; (iterate 6 exact rfl); (focus ((repeat' (first | exact At.head | apply At.tail)); done)); assumption; (exact (if_neg Bool.false_ne_true).symm))) <;> (apply A.take 6; exact rfl; exact rfl; kernel_rfl; kernel_rfl; kernel_rfl; (apply Ok1.fieldk; (iterate 7 exact rfl))) <;> (apply A.take 7; exact rfl; exact rfl; kernel_rfl; kernel_rfl; kernel_rfl; (apply Ok1.field1; (iterate 7 exact rfl))) <;> ((apply A.take 8; exact rfl; exact rfl; kernel_rfl; kernel_rfl; kernel_rfl; (apply Ok1.eql_f; exact rfl; exact rfl; omega))) <;> (apply A.take 9; exact rfl; exact rfl; kernel_rfl; kernel_rfl; kernel_rfl; (apply Ok1.move; exact rfl)) <;> ((apply A.skipG 10; exact rfl; exact rfl; rotate_left 3; exact rfl; exact rfl; rotate_right 3; kernel_rfl; kernel_rfl; kernel_rfl)) <;> ((apply A.skipG 11; exact rfl; exact rfl; rotate_left 3; exact rfl; exact rfl; rotate_right 3; kernel_rfl; kernel_rfl; kernel_rfl)) <;> ((apply A.skipG 12; exact rfl; exact rfl; rotate_left 3; exact rfl; exact rfl; rotate_right 3; kernel_rfl; kernel_rfl; kernel_rfl)) <;> ((apply A.skipG 13; exact rfl; exact rfl; rotate_left 3; exact rfl; exact rfl; rotate_right 3; kernel_rfl; kernel_rfl; kernel_rfl)) <;> ((apply A.skipG 14; exact rfl; exact rfl; rotate_left 3; exact rfl; exact rfl; rotate_right 3; kernel_rfl; kernel_rfl; kernel_rfl)) <;> ((apply A.skipG 15; exact rfl; exact rfl; rotate_left 3; exact rfl; exact rfl; rotate_right 3; kernel_rfl; kernel_rfl; kernel_rfl)) <;> (apply A.take 16; exact rfl; exact rfl; kernel_rfl; kernel_rfl; kernel_rfl; (apply Ok1.pick_f; exact rfl; exact rfl)) <;> (apply A.done; kernel_rfl))) | (apply T.drawC (id := 4) [0,1,2] (by decide); ((apply A.take 0; exact rfl; exact rfl; kernel_rfl; kernel_rfl; kernel_rfl; (apply Ok1.move; exact rfl)) <;> (apply A.take 1; exact rfl; exact rfl; kernel_rfl; kernel_rfl; kernel_rfl; (apply Ok1.nilCheck; exact rfl)) <;> (apply A.take 2; exact rfl; exact rfl; kernel_rfl; kernel_rfl; kernel_rfl; (apply Ok1.fieldAddr; (iterate 5 exact rfl))) <;> (apply A.take 3; exact rfl; exact rfl; kernel_rfl; kernel_rfl; kernel_rfl; (apply Ok1.load; exact rfl; (apply Ld.own1; exact rfl; exact rfl; (focus ((repeat' (first | exact At.head | apply At.tail)); done)); exact rfl))) <;> (apply A.take 4; exact rfl; exact rfl; kernel_rfl; kernel_rfl; kernel_rfl; (apply Ok1.load; exact rfl; (apply Ld.ownk; exact rfl; exact rfl; exact At.head; exact rfl))) <;> (apply A.take 5; exact rfl; exact rfl; kernel_rfl; kernel_rfl; kernel_rfl; (apply Ok1.load; exact rfl; (apply Ld.ownk; exact rfl; exact rfl; (focus ((repeat' (first | exact At.head | apply At.tail)); done)); exact rfl))) <;> (apply A.one 6; kernel_rfl; exact rfl; (((apply R.mapSet_old (kv := kv2) (vv := evS) (a := e) (e.o, e.r) kt2; (iterate 7 exact rfl); (focus ((repeat' (first | exact Upd.head | apply Upd.tail)); done)); exact hm))); apply R.nil; refine ⟨?_, ?_⟩; (focus ((repeat' (first | exact trivial | (refine ⟨?_, ?_⟩; (focus ((repeat' (first | exact At.head | apply At.tail)); done)))))))) <;> (apply A.done; kernel_rfl))) | apply T.seq | apply T.region | apply T.skip | apply T.ret | (apply T.cond_f; exact rfl)))
    (apply RetOk.t; exact rfl)
    refine ⟨_, ?_, rfl, rfl⟩
    simp only [List.append_eq, List.append_assoc, List.cons_append]
    (focus ((repeat' (first | exact Ext.one _ _ | exact Ext.here _ _ | exact Ext.all _ | apply Keep.cons | apply Keep.app | apply Keep.last | apply Ext.cons | apply Ext.app)); done))
  | none =>
    by_cases h64 : ms.length = 64
    · have h1 : putE ms (e.o, e.r) = 6 := by unfold putE; rw [hm]; exact if_pos h64
      have h2 : putM ms clk (e.o, e.r) e = (ms, clk) := by unfold putM; rw [hm]; exact if_pos h64
      have h6 : ((ms.length : Nat) : Int) = 64 := by omega
      rw [h1, h2]
      refine enterK (tb := tb) Tryz.func65 rfl Tryz.ntmps65 rfl ?_
      simp only [SL, evS]
      generalize SX ms = X9
      repeat' (first | (apply R.is1; first | (apply R.pure; exact rfl; first | (apply Ok1.fieldAddr; (iterate 5 exact rfl)) | (apply Ok1.load; exact rfl; (apply Ld.own1; exact rfl; exact rfl; exact At.head; exact rfl)) | (apply Ok1.assign; exact rfl) | (apply Ok1.buildA; (iterate 6 exact rfl))) | (apply R.box; (iterate 3 exact rfl); intro) | (apply R.alloc; (iterate 3 exact rfl); intro)) | (apply R.is0; (apply R.store; (iterate 6 exact rfl); exact Upd.head; exact rfl)) | apply R.nil | (apply T.is; first | (apply T.drawC (id := 2) [0,2,3] (by decide); ((apply A.take 0; exact rfl; exact rfl; kernel_rfl; kernel_rfl; kernel_rfl; (apply Ok1.move; exact rfl)) <;> (apply A.take 1; exact rfl; exact rfl; kernel_rfl; kernel_rfl; kernel_rfl; (apply Ok1.nilCheck; exact rfl)) <;> (apply A.take 2; exact rfl; exact rfl; kernel_rfl; kernel_rfl; kernel_rfl; (apply Ok1.fieldAddr; (iterate 5 exact rfl))) <;> (apply A.take 3; exact rfl; exact rfl; kernel_rfl; kernel_rfl; kernel_rfl; (apply Ok1.load; exact rfl; (apply Ld.own1; exact rfl; exact rfl; (focus ((repeat' (first | exact At.head | apply At.tail)); done)); exact rfl))) <;> (apply A.take 4; exact rfl; exact rfl; kernel_rfl; kernel_rfl; kernel_rfl; (apply Ok1.load; exact rfl; (apply Ld.ownk; exact rfl; exact rfl; exact At.head; exact rfl))) <;> (apply A.take 5; exact rfl; exact rfl; kernel_rfl; kernel_rfl; kernel_rfl; (apply Ok1.lookup_none (kv := kv2) (vv := evS) (e.o, e.r) kt2; (iterate 6 exact rfl); (focus ((repeat' (first | exact At.head | apply At.tail)); done)); assumption; (exact (if_neg Bool.false_ne_true).symm))) <;> (apply A.take 6; exact rfl; exact rfl; kernel_rfl; kernel_rfl; kernel_rfl; (apply Ok1.fieldk; (iterate 7 exact rfl))) <;> (apply A.take 7; exact rfl; exact rfl; kernel_rfl; kernel_rfl; kernel_rfl; (apply Ok1.field1; (iterate 7 exact rfl))) <;> ((apply A.take 8; exact rfl; exact rfl; kernel_rfl; kernel_rfl; kernel_rfl; (apply Ok1.eql_t; exact rfl; exact rfl; omega))) <;> (apply A.take 9; exact rfl; exact rfl; kernel_rfl; kernel_rfl; kernel_rfl; (apply Ok1.move; exact rfl)) <;> ((apply A.takeG 10; exact rfl; exact rfl; rotate_left 3; exact rfl; exact rfl; rotate_right 3; kernel_rfl; kernel_rfl; kernel_rfl; (apply Ok1.move; exact rfl))) <;> ((apply A.takeG 11; exact rfl; exact rfl; rotate_left 3; exact rfl; exact rfl; rotate_right 3; kernel_rfl; kernel_rfl; kernel_rfl; (apply Ok1.nilCheck; exact rfl))) <;> ((apply A.takeG 12; exact rfl; exact rfl; rotate_left 3; exact rfl; exact rfl; rotate_right 3; kernel_rfl; kernel_rfl; kernel_rfl; (apply Ok1.fieldAddr; (iterate 5 exact rfl)))) <;> ((apply A.takeG 13; exact rfl; exact rfl; rotate_left 3; exact rfl; exact rfl; rotate_right 3; kernel_rfl; kernel_rfl; kernel_rfl; (apply Ok1.load; exact rfl; (apply Ld.own1; exact rfl; exact rfl; (focus ((repeat' (first | exact At.head | apply At.tail)); done)); exact rfl)))) <;> ((apply A.takeG 14; exact rfl; exact rfl; rotate_left 3; exact rfl; exact rfl; rotate_right 3; kernel_rfl; kernel_rfl; kernel_rfl; (apply Ok1.lenMm; (iterate 3 exact rfl); (focus ((repeat' (first | exact At.head | apply At.tail)); done))))) <;> ((apply A.takeG 15; exact rfl; exact rfl; rotate_left 3; exact rfl; exact rfl; rotate_right 3; kernel_rfl; kernel_rfl; kernel_rfl; (apply Ok1.eql_t; exact rfl; exact rfl; omega))) <;> (apply A.take 16; exact rfl; exact rfl; kernel_rfl; kernel_rfl; kernel_rfl; (apply Ok1.pick_t; exact rfl; exact rfl)) <;> (apply A.done; kernel_rfl))) | apply T.seq | apply T.region | apply T.ret | (apply T.cond_t; exact rfl)))
      (apply RetOk.t; exact rfl)
      refine ⟨_, ?_, rfl, rfl⟩
      simp only [List.append_eq, List.append_assoc, List.cons_append]
      (focus ((repeat' (first | exact Ext.one _ _ | exact Ext.here _ _ | apply Keep.cons | apply Keep.last | apply Ext.cons)); done))
    · have h1 : putE ms (e.o, e.r) = 0 := by unfold putE; rw [hm]; exact if_neg h64
      have h2 : putM ms clk (e.o, e.r) e = (ms ++ [((e.o, e.r), e, clk)], clk + 1) := by unfold putM; rw [hm]; exact if_neg h64
      have h6 : ¬ ((ms.length : Nat) : Int) = 64 := by omega
      have hX2 : SX (ms ++ [((e.o, e.r), e, clk)]) = SX ms ++ EL := by rw [SX_app, SX_cons, hEL]; simp [SX]
      rw [h1, h2]
      refine enterK (tb := tb) Tryz.func65 rfl Tryz.ntmps65 rfl ?_
      simp only [SL, evS, hX2]
      generalize SX ms = X9
      repeat' (first | (apply R.is1; first | (apply R.pure; exact rfl; first | (apply Ok1.fieldAddr; (iterate 5 exact rfl)) | (apply Ok1.load; exact rfl; (apply Ld.own1; exact rfl; exact rfl; exact At.head; exact rfl)) | (apply Ok1.assign; exact rfl) | (apply Ok1.buildA; (iterate 6 exact rfl))) | (apply R.box; (iterate 3 exact rfl); intro) | (apply R.alloc; (iterate 3 exact rfl); intro)) | (apply R.is0; (apply R.store; (iterate 6 exact rfl); exact Upd.head; exact rfl)) | apply R.nil | (apply T.is; first | (apply T.drawC (id := 2) [0,2,3] (by decide); ((apply A.take 0; exact rfl; exact rfl; kernel_rfl; kernel_rfl; kernel_rfl; (apply Ok1.move; exact rfl)) <;> (apply A.take 1; exact rfl; exact rfl; kernel_rfl; kernel_rfl; kernel_rfl; (apply Ok1.nilCheck; exact rfl)) <;> (apply A.take 2; exact rfl; exact rfl; kernel_rfl; kernel_rfl; kernel_rfl; (apply Ok1.fieldAddr; (iterate 5 exact rfl))) <;> (apply A.take 3; exact rfl; exact rfl; kernel_rfl; kernel_rfl; kernel_rfl; (apply Ok1.load; exact rfl; (apply Ld.own1; exact rfl; exact rfl; (focus ((repeat' (first | exact At.head | apply At.tail)); done)); exact rfl))) <;> (apply A.take 4; exact rfl; exact rfl; kernel_rfl; kernel_rfl; kernel_rfl; (apply Ok1.load; exact rfl; (apply Ld.ownk; exact rfl; exact rfl; exact At.head; exact rfl))) <;> (apply A.take 5; exact rfl; exact rfl; kernel_rfl; kernel_rfl; kernel_rfl; (apply Ok1.lookup_none (kv := kv2) (vv := evS) (e.o, e.r) kt2; (iterate 6 exact rfl); (focus ((repeat' (first | exact At.head | apply At.tail)); done)); assumption; (exact (if_neg Bool.false_ne_true).symm))) <;> (apply A.take 6; exact rfl; exact rfl; kernel_rfl; kernel_rfl; kernel_rfl; (apply Ok1.fieldk; (iterate 7 exact rfl))) <;> (apply A.take 7; exact rfl; exact rfl; kernel_rfl; kernel_rfl; kernel_rfl; (apply Ok1.field1; (iterate 7 exact rfl))) <;> ((apply A.take 8; exact rfl; exact rfl; kernel_rfl; kernel_rfl; kernel_rfl; (apply Ok1.eql_t; exact rfl; exact rfl; omega))) <;> (apply A.take 9; exact rfl; exact rfl; kernel_rfl; kernel_rfl; kernel_rfl; (apply Ok1.move; exact rfl)) <;> ((apply A.takeG 10; exact rfl; exact rfl; rotate_left 3; exact rfl; exact rfl; rotate_right 3; kernel_rfl; kernel_rfl; kernel_rfl; (apply Ok1.move; exact rfl))) <;> ((apply A.takeG 11; exact rfl; exact rfl; rotate_left 3; exact rfl; exact rfl; rotate_right 3; kernel_rfl; kernel_rfl; kernel_rfl; (apply Ok1.nilCheck; exact rfl))) <;> ((apply A.takeG 12; exact rfl; exact rfl; rotate_left 3; exact rfl; exact rfl; rotate_right 3; kernel_rfl; kernel_rfl; kernel_rfl; (apply Ok1.fieldAddr; (iterate 5 exact rfl)))) <;> ((apply A.takeG 13; exact rfl; exact rfl; rotate_left 3; exact rfl; exact rfl; rotate_right 3; kernel_rfl; kernel_rfl; kernel_rfl; (apply Ok1.load; exact rfl; (apply Ld.own1; exact rfl; exact rfl; (focus ((repeat' (first | exact At.head | apply At.tail)); done)); exact rfl)))) <;> ((apply A.takeG 14; exact rfl; exact rfl; rotate_left 3; exact rfl; exact rfl; rotate_right 3; kernel_rfl; kernel_rfl; kernel_rfl; (apply Ok1.lenMm; (iterate 3 exact rfl); (focus ((repeat' (first | exact At.head | apply At.tail)); done))))) <;> ((apply A.takeG 15; exact rfl; exact rfl; rotate_left 3; exact rfl; exact rfl; rotate_right 3; kernel_rfl; kernel_rfl; kernel_rfl; (apply Ok1.eql_f; exact rfl; exact rfl; omega))) <;> (apply A.take 16; exact rfl; exact rfl; kernel_rfl; kernel_rfl; kernel_rfl; (apply Ok1.pick_t; exact rfl; exact rfl)) <;> (apply A.done; kernel_rfl))) | (apply T.drawC (id := 4) [0,1,2] (by decide); ((apply A.take 0; exact rfl; exact rfl; kernel_rfl; kernel_rfl; kernel_rfl; (apply Ok1.move; exact rfl)) <;> (apply A.take 1; exact rfl; exact rfl; kernel_rfl; kernel_rfl; kernel_rfl; (apply Ok1.nilCheck; exact rfl)) <;> (apply A.take 2; exact rfl; exact rfl; kernel_rfl; kernel_rfl; kernel_rfl; (apply Ok1.fieldAddr; (iterate 5 exact rfl))) <;> (apply A.take 3; exact rfl; exact rfl; kernel_rfl; kernel_rfl; kernel_rfl; (apply Ok1.load; exact rfl; (apply Ld.own1; exact rfl; exact rfl; (focus ((repeat' (first | exact At.head | apply At.tail)); done)); exact rfl))) <;> (apply A.take 4; exact rfl; exact rfl; kernel_rfl; kernel_rfl; kernel_rfl; (apply Ok1.load; exact rfl; (apply Ld.ownk; exact rfl; exact rfl; exact At.head; exact rfl))) <;> (apply A.take 5; exact rfl; exact rfl; kernel_rfl; kernel_rfl; kernel_rfl; (apply Ok1.load; exact rfl; (apply Ld.ownk; exact rfl; exact rfl; (focus ((repeat' (first | exact At.head | apply At.tail)); done)); exact rfl))) <;> (apply A.one 6; kernel_rfl; exact rfl; (((apply R.mapSet_new (kv := kv2) (vv := evS) (a := e) (e.o, e.r) kt2; (iterate 7 exact rfl); (focus ((repeat' (first | exact Upd.head | apply Upd.tail)); done)); exact hm))); apply R.nil; refine ⟨?_, ?_⟩; (focus ((repeat' (first | exact trivial | (refine ⟨?_, ?_⟩; (focus ((repeat' (first | exact At.head | apply At.tail)); done)))))))) <;> (apply A.done; kernel_rfl))) | apply T.seq | apply T.region | apply T.skip | apply T.ret | (apply T.cond_f; exact rfl)))
      (apply RetOk.t; exact rfl)
      refine ⟨_, ?_, rfl, rfl⟩
      simp only [List.append_eq, List.append_assoc, List.cons_append]
      (focus ((repeat' (first | exact Ext.one _ _ | exact Ext.here _ _ | exact Ext.all _ | apply Keep.cons | apply Keep.app | apply Keep.last | apply Ext.cons)); done))
end Go.Proofs.YtligngjcnlbgmaaGreat
set_option linter.unusedSimpArgs false
set_option linter.unusedVariables false
namespace Go.Proofs.YtligngjcnlbgmaaGreat
open Go.RowKit Go.Shelf
set_option maxRecDepth 100000
theorem KeyR.keep {ov : Ov} {bk : Nat} {xs : List Int} (hov : OvOk 1 ov xs.length (u8s xs)) {w0 w1 w2 : World} {S : List Nat} {L Li Lr : Lst} (hw : Hp w0 S L w1) (he : Ext L Li Lr) (hin : ∀ z ∈ KL bk ov xs, z ∈ Lr) (hc : Chg (blks Li) w1 w2) : KeyR w2 bk xs := by
  have hm : ∀ z ∈ KL bk ov xs, w2.heap[z.1]? = some z.2 := fun z hz => hc.heap (hw.get z.1 z.2 (he.perm.subset (List.mem_append_right _ (hin z hz)))) (RdSl.off hw he (hin z hz))
  refine ⟨ovp ov, ovc ov xs.length, ?_, ?_⟩
  · rw [← slV_eq hov]
    exact hm _ List.mem_cons_self
  · cases ov with
    | none =>
      have h0 : xs = [] := List.eq_nil_of_length_eq_zero hov.2
      rw [h0]
      exact .inl rfl
    | some q =>
      obtain ⟨b, j, junk⟩ := q
      exact RdSl.heap (junk := junk) (e := 5) (fz := (0, 0)) (by rw [fl_u8]; exact hm (b, _) (List.mem_cons_of_mem _ (by simp [blkL])))
theorem stset_bad (bs bm : Nat) (ms : SMs) (clk : Nat) (bk : Nat) (o r : Int) (p : Option Addr) (n cap : Nat) (hb : nsE o r (verI ms (o, r) + 1) n ≠ 0) (hv : 0 ≤ verI ms (o, r) ∧ verI ms (o, r) ≤ 2147483647) (w : World) :
    CallM Tryz.prog 35 [.pointer (some ⟨bs, 0, none⟩), .pointer (some ⟨bk, 0, none⟩), .int .i64 o, .int .i64 r, .slice p n cap] (SL bs bm ms clk) w fun v L => v = .int .i64 (nsE o r (verI ms (o, r) + 1) n) ∧ L = SL bs bm ms clk := by
  have hve := fun w1 => stver_ok bs bm ms clk o r w1
  have hns := fun w1 => nseal_bad bk o r (verI ms (o, r) + 1) p n cap hb w1
  generalize verI ms (o, r) = vv at *
  generalize nsE o r (vv + 1) n = E9 at *
  generalize SL bs bm ms clk = LS at *
  simp only [ntC] at hns
  refine enterK (tb := tb) Tryz.func35 rfl Tryz.ntmps35 rfl ?_
  repeat' (first | (apply R.is1; first | (apply R.isBin; (apply R.pure; exact rfl; first | (apply Ok1.eqlP; (iterate 5 exact rfl)) | (apply Ok1.add64; exact rfl; exact rfl; omega; omega) | (apply Ok1.neq_t; exact rfl; exact rfl; omega))) | (apply R.isCall; first | (apply R.callE (Li := LS) (vs := [.pointer (some ⟨bs, 0, none⟩), .int .i64 o, .int .i64 r]); (iterate 3 exact rfl); (focus ((repeat' (exact Ext.all _)); done)); intro w1 hw1; exact hve w1; rintro v Lo ⟨rfl, hq⟩; rw [hq]; clear hq) | (apply R.callE (vs := [.pointer (some ⟨bk, 0, none⟩), .agg ⟨[.int .i64 o, .int .i64 r, .int .i64 (vv + 1), .slice p n cap]⟩]); (iterate 3 exact rfl); exact Ext.none _; intro w1 hw1; exact hns w1; rintro v Lo ⟨rfl, rfl⟩)) | (apply R.pure; exact rfl; first | (apply Ok1.move; exact rfl) | (apply Ok1.assign; exact rfl) | (apply Ok1.build; (iterate 5 exact rfl)) | (apply Ok1.extract; exact rfl; exact rfl)) | (apply R.alloc; (iterate 3 exact rfl); intro)) | (apply R.is0; (apply R.store; (iterate 6 exact rfl); exact Upd.head; exact rfl)) | apply R.nil | (apply T.is; first | apply T.seq | apply T.region | apply T.skip | apply T.ret | (apply T.cond_t; exact rfl) | (apply T.cond_f; exact rfl)))
  (apply RetOk.t; exact rfl)
  exact ⟨LS, by (focus ((repeat' (first | exact Ext.here _ _ | apply Keep.last | apply Ext.cons | apply Ext.app)); done)), rfl, rfl⟩
theorem stset_ok (bs bm : Nat) (ms : SMs) (clk : Nat) (hver : ∀ k a, mget k ms = some a → a.ver ≠ 0) (bk : Nat) (k : List Int) (hkl : k.length ≤ 999999000) (hkb : Byt k) (o r : Int) (p : Option Addr) (n cap : Nat) (xs : List Int) (hn : n = xs.length) (hby : Byt xs) (h64 : n ≤ 64) (hrt : HRt o r (verI ms (o, r) + 1)) (w : World) (hk : ∀ w1, Chg (blks (SL bs bm ms clk)) w w1 → KeyR w1 bk k) (hp : ∀ w1, Chg (blks (SL bs bm ms clk)) w w1 → RdSl w1 p u8V xs) :
    CallM Tryz.prog 35 [.pointer (some ⟨bs, 0, none⟩), .pointer (some ⟨bk, 0, none⟩), .int .i64 o, .int .i64 r, .slice p n cap] (SL bs bm ms clk) w fun v L => v = .int .i64 (putE ms (o, r)) ∧ ∃ bov vov, OvOk 1 bov (n + 32) (u8s (nsI k o r (verI ms (o, r) + 1) xs)) ∧ OvOk 1 vov n (u8s xs) ∧ L = SL bs bm (putM ms clk (o, r) ⟨o, r, verI ms (o, r) + 1, bov, nsI k o r (verI ms (o, r) + 1) xs, vov, xs, true⟩).1 (putM ms clk (o, r) ⟨o, r, verI ms (o, r) + 1, bov, nsI k o r (verI ms (o, r) + 1) xs, vov, xs, true⟩).2 := by
  have hve := fun w1 => stver_ok bs bm ms clk o r w1
  have hvr : 0 ≤ verI ms (o, r) ∧ verI ms (o, r) ≤ 2147483647 := by unfold HRt at hrt; omega
  have hpt := fun e w1 => stput_ok bs bm ms clk hver e w1
  have hIl : (nsI k o r (verI ms (o, r) + 1) xs).length = n + 32 := by unfold nsI; rw [sealI_len, hn]
  have hns := fun w1 h1 h2 => nseal_ok bk k hkl hkb o r (verI ms (o, r) + 1) p n cap xs hn hby hrt h64 w1 h1 h2
  have hcl := fun w1 h1 => clone_ok p n cap xs hn (by omega) w1 h1
  generalize verI ms (o, r) = vv at *
  generalize nsI k o r (vv + 1) xs = I9 at *
  generalize SL bs bm ms clk = LS at *
  simp only [ntC] at hns
  refine enterK (tb := tb) Tryz.func35 rfl Tryz.ntmps35 rfl ?_
  repeat' (first | (apply R.is1; first | (apply R.isBin; (apply R.pure; exact rfl; first | (apply Ok1.eqlP; (iterate 5 exact rfl)) | (apply Ok1.add64; exact rfl; exact rfl; omega; omega) | (apply Ok1.neq_f; exact rfl; exact rfl; omega))) | (apply R.isCall; first | (apply R.callE (Li := LS) (vs := [.pointer (some ⟨bs, 0, none⟩), .int .i64 o, .int .i64 r]); (iterate 3 exact rfl); (focus ((repeat' (exact Ext.all _)); done)); intro w1 hw1; exact hve w1; rintro v Lo ⟨rfl, hq⟩; rw [hq]; clear hq) | (apply R.callE (vs := [.pointer (some ⟨bk, 0, none⟩), .agg ⟨[.int .i64 o, .int .i64 r, .int .i64 (vv + 1), .slice p n cap]⟩]); (iterate 3 exact rfl); exact Ext.none _; intro w1 hw1; exact hns w1 (hk w1 hw1.chg) (hp w1 hw1.chg); rintro v Lo ⟨bov, hbov, rfl, rfl⟩)) | (apply R.pure; exact rfl; first | (apply Ok1.move; exact rfl) | (apply Ok1.assign; exact rfl) | (apply Ok1.build; (iterate 5 exact rfl)) | (apply Ok1.extract; exact rfl; exact rfl)) | (apply R.alloc; (iterate 3 exact rfl); intro)) | (apply R.is0; (apply R.store; (iterate 6 exact rfl); exact Upd.head; exact rfl)) | apply R.nil | (apply T.is; first | apply T.seq | apply T.region | apply T.skip | (apply T.cond_f; exact rfl)))
  have hpt2 : ∀ vov w1, OvOk 1 vov n (u8s xs) → CallM Tryz.prog 65 [.pointer (some ⟨bs, 0, none⟩), .agg ⟨[.int .i64 o, .int .i64 r, .int .i64 (vv + 1), .slice (ovp bov) (n + 32) (ovc bov (n + 32)), (.slice (ovp vov) n (ovc vov n)), .bool true]⟩] (LS ++ (blkL 5 bov (u8s I9) ++ blkL 5 vov (u8s xs))) w1 fun v L => v = .int .i64 (putE ms (o, r)) ∧ L = SL bs bm (putM ms clk (o, r) ⟨o, r, vv + 1, bov, I9, vov, xs, true⟩).1 (putM ms clk (o, r) ⟨o, r, vv + 1, bov, I9, vov, xs, true⟩).2 := by
    intro vov w1 hvov
    have g := hpt ⟨o, r, vv + 1, bov, I9, vov, xs, true⟩ w1
    simp only [evS, SE.L, hIl, ← hn] at g
    rw [slV_eq hbov, slV_eq hvov] at g
    exact g
  repeat' ((apply T.is; first | (apply T.drawC (id := 6) [0] (by decide); ((apply A.take 0; exact rfl; exact rfl; kernel_rfl; kernel_rfl; kernel_rfl; (apply Ok1.move; exact rfl)) <;> (apply A.take 1; exact rfl; exact rfl; kernel_rfl; kernel_rfl; kernel_rfl; (apply Ok1.load; exact rfl; (apply Ld.ownk; exact rfl; exact rfl; exact At.head; exact rfl))) <;> (apply A.take 2; exact rfl; exact rfl; kernel_rfl; kernel_rfl; kernel_rfl; (apply Ok1.move; exact rfl)) <;> (apply A.one 3; kernel_rfl; exact rfl; (((apply R.callE (vs := [.slice p n cap]); (iterate 3 exact rfl); exact Ext.none _; intro w1 hw1; exact hcl w1 (hp w1 hw1.chg); rintro v Lo ⟨vov, hvov, hsome, rfl, rfl⟩; rw [slV_eq hvov]))); apply R.nil; refine ⟨?_, ?_⟩; (focus ((repeat' (first | exact trivial | (refine ⟨?_, ?_⟩; (focus ((repeat' (first | exact At.head | apply At.right)); done)))))))) <;> (apply A.take 4; exact rfl; exact rfl; kernel_rfl; kernel_rfl; kernel_rfl; (apply Ok1.build; (iterate 5 exact rfl))) <;> (apply A.one 5; kernel_rfl; exact rfl; (((apply R.callE (Li := LS ++ (blkL 5 bov (u8s I9) ++ blkL 5 vov (u8s xs))) (vs := [.pointer (some ⟨bs, 0, none⟩), .agg ⟨[.int .i64 o, .int .i64 r, .int .i64 (vv + 1), .slice (ovp bov) (n + 32) (ovc bov (n + 32)), (.slice (ovp vov) n (ovc vov n)), .bool true]⟩]); (iterate 3 exact rfl); (apply Ext.cat9; (focus ((repeat' (first | exact Ext.here _ _ | apply Ext.cons | apply Ext.app)); done)); apply Ext.cat9; (focus ((repeat' (first | exact Ext.here _ _ | apply Ext.cons | apply Ext.app)); done)); (focus ((repeat' (exact Ext.here _ _)); done))); intro w1 hw1; exact hpt2 vov w1 hvov; rintro v Lo ⟨rfl, rfl⟩))); apply R.nil; refine ⟨?_, ?_⟩; (focus ((repeat' (first | exact trivial | (refine ⟨?_, ?_⟩; (focus ((repeat' (first | exact At.head | apply At.tail | apply At.right)); done)))))))) <;> (apply A.take 6; exact rfl; exact rfl; kernel_rfl; kernel_rfl; kernel_rfl; (apply Ok1.assign; exact rfl)) <;> (apply A.done; kernel_rfl))) | apply T.ret))
  all_goals (apply RetOk.t; exact rfl)
  all_goals exact ⟨_, by (focus ((repeat' (first | exact Ext.one _ _ | exact Ext.here _ _ | apply Keep.cons | apply Keep.last)); done)), rfl, bov, vov, hbov, hvov, rfl⟩
end Go.Proofs.YtligngjcnlbgmaaGreat
set_option linter.unusedSimpArgs false
set_option linter.unusedVariables false
namespace Go.Proofs.YtligngjcnlbgmaaGreat
open Go.RowKit Go.Shelf Go.Sort
set_option maxRecDepth 100000
theorem insS_nil (p : Option Addr) (cap : Nat) (f : Value) : CallP Tryz.prog 150 [.slice p 0 cap, .int .i64 0, .int .i64 0, f] (.tuple #[]) := by
  refine enterP (tb := tb) Tryz.func150 rfl Tryz.ntmps150 rfl fun w => ?_
  repeat' (first | (apply R.is1; first | (apply R.isBin; (apply R.pure; exact rfl; first | (apply Ok1.add64; exact rfl; exact rfl; omega; omega) | (apply Ok1.lss_f; exact rfl; exact rfl; omega))) | (apply R.pure; exact rfl; first | (apply Ok1.move; exact rfl) | (apply Ok1.assign; exact rfl))) | apply R.nil | (apply T.is; first | apply T.rounds 2 | apply T.seq | apply T.region | apply T.block | apply T.exit | (apply T.cond_f; exact rfl)))
  all_goals (apply RetOk.n)
  all_goals rfl
theorem pdqS_nil (p : Option Addr) (cap : Nat) (l : Int) (f : Value) : CallP Tryz.prog 130 [.slice p 0 cap, .int .i64 0, .int .i64 0, .int .i64 l, f] (.tuple #[]) := by
  refine enterP (tb := tb) Tryz.func130 rfl Tryz.ntmps130 rfl fun w => ?_
  repeat' (first | (apply R.is1; first | (apply R.isBin; (apply R.pure; exact rfl; first | (apply Ok1.sub64; exact rfl; exact rfl; omega; omega) | (apply Ok1.leq_t; exact rfl; exact rfl; omega))) | (apply R.isCall; apply R.callP rfl rfl rfl (insS_nil _ _ _)) | (apply R.pure; exact rfl; first | (apply Ok1.move; exact rfl) | (apply Ok1.assign; exact rfl))) | apply R.nil | (apply T.is; first | apply T.rounds 2 | apply T.seq | apply T.region | apply T.block | apply T.ret | (apply T.cond_t; exact rfl)))
  all_goals (apply RetOk.n)
  all_goals rfl
theorem sortS_nil (p : Option Addr) (cap : Nat) (f : Value) : CallP Tryz.prog 106 [.slice p 0 cap, f] (.tuple #[]) := by
  refine enterP (tb := tb) Tryz.func106 rfl Tryz.ntmps106 rfl fun w => ?_
  repeat' (first | (apply R.is1; first | (apply R.isCall; first | apply R.callP rfl rfl rfl (len_ok _ (by omega) (by omega)) | apply R.callP rfl rfl rfl (pdqS_nil _ _ _ _) | (apply R.pure; exact rfl; (apply Ok1.lenS; (iterate 3 exact rfl)))) | (apply R.pure; exact rfl; first | (apply Ok1.move; exact rfl) | (apply Ok1.assign; exact rfl) | (apply Ok1.convU64; (iterate 5 exact rfl); omega; omega))) | apply R.nil | (apply T.is; first | apply T.seq | apply T.region))
  all_goals (apply RetOk.n)
  all_goals rfl
/-- The order of entries: by owner, by role. -/
def cfS (x y : SE) : Int := or2 (cmpI x.o y.o) (cmpI x.r y.r)
theorem cfS_neg (x y : SE) : cfS x y < 0 ↔ x.o < y.o ∨ x.o = y.o ∧ x.r < y.r := by
  have h1 := cmpI_neg x.o y.o
  have h2 := cmpI_zero x.o y.o
  have h3 := cmpI_neg x.r y.r
  unfold cfS or2
  split <;> omega
theorem swoS : SWO (ltOf cfS) where
  irrefl := fun x => by simp only [ltOf, decide_eq_false_iff_not, cfS_neg]; omega
  trans := fun x y z => by simp only [ltOf, decide_eq_true_eq, cfS_neg]; omega
  ntrans := fun x y z => by simp only [ltOf, decide_eq_false_iff_not, cfS_neg]; omega
instance : Inhabited SE := ⟨⟨0, 0, 0, none, [], none, [], false⟩⟩
theorem SE.v_len (e : SE) : e.v.length = 6 := rfl
theorem slV_one9 (ov : Ov) (n : Nat) : (slV ov n).oneCell' = true := by cases ov <;> rfl
theorem SE.v_one (e : SE) : ∀ v ∈ e.v, v.oneCell' = true := by
  intro v hv
  simp only [SE.v, List.mem_cons, List.not_mem_nil, or_false] at hv
  rcases hv with rfl | rfl | rfl | rfl | rfl | rfl
  · rfl
  · rfl
  · rfl
  · exact slV_one9 _ _
  · exact slV_one9 _ _
  · rfl
theorem ssort1_ok (x y : SE) : CallP Tryz.prog 107 [.agg ⟨x.v⟩, .agg ⟨y.v⟩] (.int .i64 (cfS x y)) := by
  refine enterP (tb := tb) Tryz.func107 rfl Tryz.ntmps107 rfl fun w => ?_
  simp only [SE.v]
  repeat' (first | (apply R.is1; first | (apply R.pure; exact rfl; (apply Ok1.assign; exact rfl)) | (apply R.box; (iterate 3 exact rfl); intro)) | apply R.nil | (apply T.is; first | (apply T.drawC (id := 1) [0,1] (by decide); ((apply A.take 0; exact rfl; exact rfl; kernel_rfl; kernel_rfl; kernel_rfl; (apply Ok1.fieldAddr; (iterate 5 exact rfl))) <;> (apply A.take 1; exact rfl; exact rfl; kernel_rfl; kernel_rfl; kernel_rfl; (apply Ok1.fieldAddr; (iterate 5 exact rfl))) <;> (apply A.take 2; exact rfl; exact rfl; kernel_rfl; kernel_rfl; kernel_rfl; (apply Ok1.load; exact rfl; (apply Ld.own1; exact rfl; exact rfl; (focus ((repeat' (first | exact At.head | apply At.tail)); done)); exact rfl))) <;> (apply A.take 3; exact rfl; exact rfl; kernel_rfl; kernel_rfl; kernel_rfl; (apply Ok1.fieldAddr; (iterate 5 exact rfl))) <;> (apply A.take 4; exact rfl; exact rfl; kernel_rfl; kernel_rfl; kernel_rfl; (apply Ok1.fieldAddr; (iterate 5 exact rfl))) <;> (apply A.take 5; exact rfl; exact rfl; kernel_rfl; kernel_rfl; kernel_rfl; (apply Ok1.load; exact rfl; (apply Ld.own1; exact rfl; exact rfl; exact At.head; exact rfl))) <;> (apply A.take 7; exact rfl; exact rfl; kernel_rfl; kernel_rfl; kernel_rfl; (apply Ok1.fieldAddr; (iterate 5 exact rfl))) <;> (apply A.take 8; exact rfl; exact rfl; kernel_rfl; kernel_rfl; kernel_rfl; (apply Ok1.fieldAddr; (iterate 5 exact rfl))) <;> (apply A.take 9; exact rfl; exact rfl; kernel_rfl; kernel_rfl; kernel_rfl; (apply Ok1.load; exact rfl; (apply Ld.own1; exact rfl; exact rfl; (focus ((repeat' (first | exact At.head | apply At.tail)); done)); exact rfl))) <;> (apply A.take 10; exact rfl; exact rfl; kernel_rfl; kernel_rfl; kernel_rfl; (apply Ok1.fieldAddr; (iterate 5 exact rfl))) <;> (apply A.take 11; exact rfl; exact rfl; kernel_rfl; kernel_rfl; kernel_rfl; (apply Ok1.fieldAddr; (iterate 5 exact rfl))) <;> (apply A.take 12; exact rfl; exact rfl; kernel_rfl; kernel_rfl; kernel_rfl; (apply Ok1.load; exact rfl; (apply Ld.own1; exact rfl; exact rfl; exact At.head; exact rfl))) <;> (apply A.one 6; kernel_rfl; exact rfl; ((apply R.callP rfl rfl rfl (cmp_ok x.o y.o))); apply R.nil; refine ⟨?_, ?_⟩; (focus ((repeat' (first | exact trivial | (refine ⟨?_, ?_⟩; (focus ((repeat' (first | exact At.head | apply At.tail)); done)))))))) <;> (apply A.one 13; kernel_rfl; exact rfl; ((apply R.callP rfl rfl rfl (cmp_ok x.r y.r))); apply R.nil; refine ⟨?_, ?_⟩; (focus ((repeat' (first | exact trivial | (refine ⟨?_, ?_⟩; (focus ((repeat' (first | exact At.head | apply At.tail)); done)))))))) <;> (apply A.one 14; kernel_rfl; exact rfl; (((apply R.buildSlice; (iterate 12 exact rfl); intro))); apply R.nil; refine ⟨?_, ?_⟩; (focus ((repeat' (first | exact trivial | (refine ⟨?_, ?_⟩; (focus ((repeat' (first | exact At.head | apply At.tail)); done)))))))) <;> (apply A.one 15; kernel_rfl; exact rfl; (((apply R.callV; (iterate 3 exact rfl); (intro w1 hw1; exact or2_ok _ _ _ _ _ (hw1.get _ _ (At.mem (by exact At.head))))))); apply R.nil; refine ⟨?_, ?_⟩; (focus ((repeat' (first | exact trivial | (refine ⟨?_, ?_⟩; (focus ((repeat' (first | exact At.head | apply At.tail)); done)))))))) <;> (apply A.take 16; exact rfl; exact rfl; kernel_rfl; kernel_rfl; kernel_rfl; (apply Ok1.assign; exact rfl)) <;> (apply A.done; kernel_rfl))) | apply T.seq | apply T.region | apply T.ret))
  all_goals (apply RetOk.t; exact rfl)
  all_goals rfl
theorem sortS_ok (rs : List SE) (hlen : rs.length ≤ 1000) (ov : Ov) (hov : OvOk 6 ov rs.length (fl SE.v rs)) (w : World) :
    CallM Tryz.prog 106 [slV ov rs.length, .func (.func 107) #[] #[]] (blkL 142 ov (fl SE.v rs)) w fun v L => v = .tuple #[] ∧ ∃ rs', rs'.Perm rs ∧ Asc cfS rs' ∧ L = blkL 142 ov (fl SE.v rs') := by
  cases ov with
  | none =>
    have h0 : rs.length = 0 := hov.2
    have : rs = [] := by cases rs; rfl; simp at h0
    subst this
    exact ⟨fun hw => ((sortS_nil none 0 _).run w).mono fun e' w' ⟨h1, h2⟩ => ⟨_, _, h1, ⟨rfl, [], .refl _, .nil, rfl⟩, hw.step h2⟩⟩
  | some x =>
    obtain ⟨b, j, junk⟩ := x
    exact sort_ok Tryz.sortS (fun w => (tb.get (t := 142) rfl).agg rfl w) (tb.get (t := 142) rfl).size SE.v_len SE.v_one _ swoS 107 [] rfl b _ rs junk _ w (tb.ent rfl) (by omega)
      (fun W hW x y => (ssort1_ok x y).at W)
/-- A store as it must be. -/
structure SOk (ms : SMs) (clk : Nat) : Prop where
  wf : MWf (ms, clk)
  key : ∀ e ∈ ms, e.1 = (e.2.1.o, e.2.1.r)
  hrt : ∀ e ∈ ms, HRt e.2.1.o e.2.1.r e.2.1.ver
  bok : ∀ e ∈ ms, OvOk 1 e.2.1.bov e.2.1.body.length (u8s e.2.1.body)
  vok : ∀ e ∈ ms, OvOk 1 e.2.1.vov e.2.1.val.length (u8s e.2.1.val)
  blen : ∀ e ∈ ms, e.2.1.body.length ≤ 96
  vlen : ∀ e ∈ ms, e.2.1.val.length ≤ 96
  few : ms.length ≤ 64
theorem SE.v_all (e : SE) : e.v.all Value.oneCell' = true := List.all_eq_true.2 fun v hv => e.v_one v hv
theorem fl1_all (e : SE) : (fl SE.v [e]).all Value.oneCell' = true := by
  rw [show fl SE.v [e] = e.v from by simp [fl]]
  exact e.v_all
theorem SE.set9 (e : SE) (cs : List Value) (h : cs.length = 6) : setE cs 0 e.v = some e.v := setE_all (by rw [SE.v_len, h])
theorem SE.sub9 (e : SE) : subE e.v 0 6 = some e.v := subE_all e.v_len
theorem ssorted_ok (bs bm : Nat) (ms : SMs) (clk : Nat) (hwf : MWf (ms, clk)) (hlen : ms.length ≤ 64) (w : World) : CallM Tryz.prog 67 [.pointer (some ⟨bs, 0, none⟩)] (SL bs bm ms clk) w fun v L => ∃ ov rs, rs.Perm (ms.map (·.2.1)) ∧ Asc cfS rs ∧ OvOk 6 ov rs.length (fl SE.v rs) ∧ v = slV ov rs.length ∧ L = blkL 142 ov (fl SE.v rs) ++ SL bs bm ms clk := by
  refine enterK (tb := tb) Tryz.func67 rfl Tryz.ntmps67 rfl ?_
  simp only [SL]
  generalize SX ms = X9
  repeat' (first | (apply R.is1; first | (apply R.range (kv := kv2) (vv := evS) (ms := ms) (clk := clk); (iterate 4 exact rfl); (focus ((repeat' (first | exact At.head | apply At.tail)); done)); intro c) | (apply R.isBin; (apply R.pure; exact rfl; (apply Ok1.eqlP; (iterate 5 exact rfl)))) | (apply R.pure; exact rfl; first | (apply Ok1.move; exact rfl) | (apply Ok1.fieldAddr; (iterate 5 exact rfl)) | (apply Ok1.load; exact rfl; (apply Ld.own1; exact rfl; exact rfl; exact At.head; exact rfl)) | (apply Ok1.assign; exact rfl) | (apply Ok1.nilCheck; exact rfl))) | apply R.nil | (apply T.is; first | apply T.seq | apply T.region | apply T.block | apply T.skip | (apply T.cond_f; exact rfl)))
  apply T.loopK (α := SMs × Ov) (I := fun x => Met ms x.1 ∧ OvOk 6 x.2 x.1.length (fl SE.v (x.1.map (·.2.1)))) (σi := fun x => [(0, .pointer (some ⟨bs, 0, none⟩)), (3, slV x.2 x.1.length), (12, .pointer (some ⟨c, 0, none⟩))])
    (Li := fun x => (c, .mapIter (some bm) clk ⟨x.1.map (·.2.2)⟩ clk) :: (bs, .cells ⟨[.map (some bm)]⟩ 139 (0, 0)) :: (bm, mobj kv2 evS ms clk) :: (blkL 142 x.2 (fl SE.v (x.1.map (·.2.1))) ++ X9)) (μ := fun x => ms.length - x.1.length) (i0 := ([], none))
  · exact ⟨Met.start _, OvOk.start 6⟩
  · exact ⟨rfl, rfl, rfl, trivial⟩
  · simp only [blkL, List.nil_append]
    (focus ((repeat' (first | exact Ext.one _ _ | exact Ext.all _ | apply Keep.cons | apply Keep.last)); done))
  · rintro ⟨vis, ov⟩ ⟨hmet, hov⟩
    simp only at hmet hov ⊢
    have hvl : vis.length ≤ ms.length := by
      classical
      exact nodup_sub_len (nodup_map_born hmet.nd) hmet.sub
    repeat' (first | (apply R.is1; first | (apply R.next (kv := kv2) (vv := evS) (ms := ms); exact rfl; exact rfl; (focus ((repeat' (first | exact At.head | apply At.tail)); done)); exact At.head; exact hwf.bnd; intro hall; rotate_left 1; intro e he hne; apply Exists.intro; apply And.intro; exact Upd.head) | (apply R.isCall; (apply R.appendRd (xs := [e.2.1]) (v := SE.v) (sz := 6) (ov := ov) (n := vis.length) (old := fl SE.v (vis.map (·.2.1))); (iterate 12 exact rfl); exact hov; (focus ((repeat' (first | exact Ext.here _ _ | apply Ext.cons)); done)); exact rfl; exact SE.v_len; exact rfl; (intro w1 hw1; exact RdSl.of (junk := []) hw1 (by exact At.head) (by simp [fl, SE.v])); (exact fl1_all _); omega; intro ov1 hov1 hsome)) | (apply R.pure; exact rfl; first | (apply Ok1.entry; exact rfl; exact At.head; (focus ((repeat' (first | exact At.head | apply At.tail)); done)); assumption; exact hwf.nd) | (apply Ok1.load; exact rfl; (apply Ld.ownk; exact rfl; exact rfl; exact At.head; exact SE.sub9 _)) | (apply Ok1.move; exact rfl) | (apply Ok1.assign; exact rfl) | (apply Ok1.extract; exact rfl; exact rfl)) | (apply R.alloc; (iterate 3 exact rfl); intro) | (apply R.buildSlice; (iterate 12 exact rfl); intro)) | (apply R.is0; (apply R.store; (iterate 3 exact rfl); (exact (rfl : cellsE (evS e.2.1) = some e.2.1.v)); exact SE.v_len _; exact SE.v_all _; exact Upd.head; exact SE.set9 _ _ rfl)) | apply R.nil | (apply T.is; first | apply T.seq | apply T.region | apply T.block | apply T.skip | apply T.exit | (apply T.cond_t; exact rfl) | (apply T.cond_f; exact rfl)))
    · rw [show fl SE.v [e.2.1] = e.2.1.v from by simp [fl]] at hov1 ⊢
      have hls : (vis ++ [e]).length = vis.length + 1 := by simp
      have hms : fl SE.v ((vis ++ [e]).map (·.2.1)) = fl SE.v (vis.map (·.2.1)) ++ e.2.1.v := by simp only [List.map_append, List.map_cons, List.map_nil, fl_snoc]
      refine ⟨(vis ++ [e], ov1), ⟨hmet.step he hne, ?_⟩, ?_, ?_, ?_⟩
      · simp only [hls, hms]
        exact hov1
      · have := hmet.le hwf.nd he hne
        simp only [hls]
        omega
      · simp only [hls]
        exact ⟨rfl, rfl, rfl, trivial⟩
      · simp only [hms]
        simp only [List.map_append, List.map_cons, List.map_nil]
        (focus ((repeat' (first | exact Ext.one _ _ | exact Ext.here _ _ | exact Ext.all _ | apply Keep.cons | apply Keep.app | apply Keep.last | apply Ext.cons | apply Ext.app)); done))
    · have hperm : vis.Perm ms := hmet.perm hwf.nd hall
      have hsort := fun w1 => sortS_ok (vis.map (·.2.1)) (by rw [List.length_map]; omega) ov (by rw [List.length_map]; exact hov) w1
      simp only [List.length_map] at hsort
      generalize hLB : blkL 142 ov (fl SE.v (vis.map (·.2.1))) = LB at *
      repeat' (first | (apply R.is1; first | (apply R.isCall; (apply R.callE (Li := LB) (vs := [slV ov vis.length, .func (.func 107) #[] #[]]); (iterate 3 exact rfl); (focus ((repeat' (first | exact Ext.here _ _ | apply Ext.cons)); done)); intro w1 hw1; exact hsort w1; rintro v Lo ⟨rfl, rs, hp, hasc, rfl⟩)) | (apply R.pure; exact rfl; first | (apply Ok1.move; exact rfl) | (apply Ok1.assign; exact rfl))) | apply R.nil | (apply T.is; first | apply T.seq | apply T.region | apply T.ret))
      (apply RetOk.t; exact rfl)
      have hrl : rs.length = vis.length := by rw [hp.length_eq, List.length_map]
      refine ⟨_, ?_, ov, rs, hp.trans (hperm.map _), hasc, ⟨fl_len SE.v_len rs, by rw [hrl]; exact hov.2⟩, by rw [hrl], rfl⟩
      (focus ((repeat' (first | exact Ext.one _ _ | exact Ext.here _ _ | exact Ext.all _ | apply Keep.cons | apply Keep.app | apply Keep.last | apply Ext.cons)); done))
end Go.Proofs.YtligngjcnlbgmaaGreat
set_option linter.unusedSimpArgs false
set_option linter.unusedVariables false
namespace Go.Proofs.YtligngjcnlbgmaaGreat
open Go.RowKit Go.Shelf
set_option maxRecDepth 100000
def iV9 (z : Int) : List Value := [.int .i64 z]
theorem iV9_len (z : Int) : (iV9 z).length = 1 := rfl
end Go.Proofs.YtligngjcnlbgmaaGreat
set_option linter.unusedSimpArgs false
set_option linter.unusedVariables false
namespace Go.Proofs.YtligngjcnlbgmaaGreat
open Go.RowKit Go.Shelf Go.Sort
set_option maxRecDepth 100000
/-- Is a role in a mask? -/
def inM (mask r : Int) : Bool := decide (andI .i64 (mask / (pw r.toNat)) 1 = 1)
/-- A note in memory of its own. -/
structure NE where
  o : Int
  r : Int
  ver : Int
  ov : Ov
  xs : List Int
instance : Inhabited NE := ⟨⟨0, 0, 0, none, []⟩⟩
def NE.v (e : NE) : List Value := [.int .i64 e.o, .int .i64 e.r, .int .i64 e.ver, slV e.ov e.xs.length]
theorem NE.v_len (e : NE) : e.v.length = 4 := rfl
def NX (ns : List NE) : Lst := ns.flatMap fun x => blkL 5 x.ov (u8s x.xs)
theorem NX_app (a b : List NE) : NX (a ++ b) = NX a ++ NX b := List.flatMap_append
/-- What a note says. -/
def NE.say (e : NE) : Int × Int × Int × List Int := (e.o, e.r, e.ver, e.xs)
def rdN (mask : Int) (rs : List SE) : List (Int × Int × Int × List Int) := (rs.filter fun x => x.op && inM mask x.r).map fun x => (x.o, x.r, x.ver, x.val)
theorem rdN_snoc (mask : Int) {rs : List SE} {i : Nat} {x : SE} (hx : rs[i]? = some x) : rdN mask (rs.take (i + 1)) = if (x.op && inM mask x.r) = true then rdN mask (rs.take i) ++ [(x.o, x.r, x.ver, x.val)] else rdN mask (rs.take i) := by
  unfold rdN
  rw [List.take_add_one, hx, Option.toList_some, List.filter_append, List.map_append]
  by_cases h : (x.op && inM mask x.r) = true
  · rw [if_pos h]; simp [h]
  · rw [if_neg h]; simp [h]
theorem NE.v_all (e : NE) : e.v.all Value.oneCell' = true := by
  rw [List.all_eq_true]
  intro v hv
  simp only [NE.v, List.mem_cons, List.not_mem_nil, or_false] at hv
  rcases hv with rfl | rfl | rfl | rfl
  · rfl
  · rfl
  · rfl
  · exact slV_one9 _ _
theorem fl1N (e : NE) : fl NE.v [e] = e.v := by simp [fl]
theorem fl1N_all (e : NE) : (fl NE.v [e]).all Value.oneCell' = true := by rw [fl1N]; exact e.v_all
theorem stread_ok (bs bm : Nat) (ms : SMs) (clk : Nat) (hs : SOk ms clk) (mask : Int) (w : World) : CallM Tryz.prog 42 [.pointer (some ⟨bs, 0, none⟩), .int .i64 mask] (SL bs bm ms clk) w fun v L => ∃ rs ov ns, rs.Perm (ms.map (·.2.1)) ∧ Asc cfS rs ∧ OvOk 4 ov ns.length (fl NE.v ns) ∧ (∀ x ∈ ns, OvOk 1 x.ov x.xs.length (u8s x.xs)) ∧ ns.map NE.say = rdN mask rs ∧ v = slV ov ns.length ∧ L = blkL 36 ov (fl NE.v ns) ++ (NX ns ++ SL bs bm ms clk) := by
  have hso := fun w1 => ssorted_ok bs bm ms clk hs.wf hs.few w1
  have hSm : ∀ (L : Lst) w1, Hp w (blks (SL bs bm ms clk)) L w1 → (∀ z ∈ SL bs bm ms clk, z ∈ L) → ∀ e ∈ ms, RdSl w1 (ovp e.2.1.vov) u8V e.2.1.val := by
    intro L w1 h1 h2 e he
    exact rdown (hs.vok e he) h1 fun z hz => h2 z (List.mem_cons_of_mem _ (List.mem_cons_of_mem _ (List.mem_flatMap.2 ⟨e, he, List.mem_append_right _ hz⟩)))
  generalize hSL : SL bs bm ms clk = LS at *
  refine enterK (tb := tb) Tryz.func42 rfl Tryz.ntmps42 rfl ?_
  repeat' (first | (apply R.is1; first | (apply R.isCall; first | (apply R.callE (Li := LS) (vs := [.pointer (some ⟨bs, 0, none⟩)]); (iterate 3 exact rfl); (focus ((repeat' (exact Ext.all _)); done)); intro w1 hw1; exact hso w1; rintro v Lo ⟨ovs, rs, hp, hasc, hovs, rfl, rfl⟩; rw [List.append_assoc]) | (apply R.pure; exact rfl; apply Ok1.lenOv; (iterate 3 exact rfl); exact hovs)) | (apply R.pure; exact rfl; first | (apply Ok1.move; exact rfl) | (apply Ok1.assign; exact rfl))) | apply R.nil | (apply T.is; first | apply T.seq | apply T.region | apply T.block))
  have hmem : ∀ (i : Nat) (x : SE), rs[i]? = some x → ∃ e ∈ ms, e.2.1 = x := fun i x hx => by
    have := hp.subset (List.mem_of_getElem? hx)
    obtain ⟨e, he, h⟩ := List.mem_map.1 this
    exact ⟨e, he, h⟩
  have hrl : rs.length ≤ 64 := by rw [hp.length_eq, List.length_map]; exact hs.few
  cases ovs with
  | none =>
    have h00 : rs = [] := List.eq_nil_of_length_eq_zero hovs.2
    subst h00
    simp only [slV, blkL, List.length_nil, List.nil_append]
    repeat' (first | (apply R.is1; first | (apply R.isBin; (apply R.pure; exact rfl; (apply Ok1.lss_f; exact rfl; exact rfl; omega))) | (apply R.pure; exact rfl; first | (apply Ok1.move; exact rfl) | (apply Ok1.assign; exact rfl))) | apply R.nil | (apply T.is; first | apply T.rounds 1 | apply T.seq | apply T.region | apply T.exit | apply T.ret | (apply T.cond_f; exact rfl)))
    (apply RetOk.t; exact rfl)
    exact ⟨LS, by (focus ((repeat' (first | exact Ext.here _ _ | apply Keep.last)); done)), [], none, [], hp, hasc, OvOk.start 4, (by simp), rfl, rfl, rfl⟩
  | some q =>
    obtain ⟨bq, j, junk⟩ := q
    simp only [slV, blkL]
    apply T.loopK (α := Nat × Ov × List NE) (I := fun y => y.1 ≤ rs.length ∧ OvOk 4 y.2.1 y.2.2.length (fl NE.v y.2.2) ∧ (∀ x ∈ y.2.2, OvOk 1 x.ov x.xs.length (u8s x.xs)) ∧ y.2.2.map NE.say = rdN mask (rs.take y.1)) (σi := fun y => [(1, .int .i64 mask), (5, slV y.2.1 y.2.2.length), (9, .slice (some ⟨bq, 0, none⟩) rs.length (rs.length + j)), (10, .int .i64 rs.length), (11, .int .i64 y.1)]) (Li := fun y => (bq, .cells ⟨fl SE.v rs ++ junk⟩ 142 (0, 0)) :: (blkL 36 y.2.1 (fl NE.v y.2.2) ++ (NX y.2.2 ++ LS))) (μ := fun y => rs.length - y.1) (i0 := (0, none, []))
    · exact ⟨Nat.zero_le _, OvOk.start 4, (by simp), rfl⟩
    · exact ⟨rfl, rfl, rfl, rfl, rfl, trivial⟩
    · simp only [blkL, NX, List.flatMap_nil, List.nil_append, List.cons_append, List.append_nil]
      (focus ((repeat' (first | exact Ext.one _ _ | exact Ext.all _ | apply Keep.cons | apply Keep.last)); done))
    · rintro ⟨i, ov, ns⟩ ⟨hi, hov, hns, hsay⟩
      simp only at hi hov hns hsay ⊢
      have hnl : ns.length ≤ i := by
        have h1 := congrArg List.length hsay
        rw [List.length_map] at h1
        rw [h1]
        unfold rdN
        rw [List.length_map]
        have := List.length_filter_le (fun x => x.op && inM mask x.r) (rs.take i)
        rw [List.length_take] at this
        omega
      rcases Nat.lt_or_ge i rs.length with hlt | hge
      · obtain ⟨x, hx⟩ : ∃ x, rs[i]? = some x := ⟨_, List.getElem?_eq_getElem (by omega)⟩
        obtain ⟨e, he, hex⟩ := hmem i x hx
        have hrt := hs.hrt e he
        have hr8 : 0 ≤ x.r ∧ x.r < 8 := by rw [hex] at hrt; unfold HRt at hrt; omega
        have hvok := hs.vok e he
        have hvln := hs.vlen e he
        have hSm1 := fun L w1 h1 h2 => hSm L w1 h1 h2 e he
        rw [hex] at hvok hvln hSm1
        have hsn := rdN_snoc mask hx
        generalize hNX : NX ns = LN at *
        cases hop : x.op with
        | false =>
          rw [hop, Bool.false_and, if_neg (by simp)] at hsn
          have hov5 : x.v[5]? = some (.bool false) := by rw [← hop]; rfl
          repeat' (first | (apply R.is1; first | (apply R.isBin; (apply R.pure; exact rfl; first | (apply Ok1.add64; exact rfl; exact rfl; omega; omega) | (apply Ok1.lss_t; exact rfl; exact rfl; omega))) | (apply R.pure; exact rfl; first | (apply Ok1.load; exact rfl; first | (apply Ld.ownrowk (f := 0) (us := x.v); (focus ((repeat' (first | exact At.head | apply At.tail | apply At.right)); done)); exact SE.v_len; exact hx; (focus ((simp; done))); exact rfl; exact rfl; exact SE.sub9 _) | (apply Ld.own1; exact rfl; exact rfl; exact At.head; exact hov5)) | (apply Ok1.move; exact rfl) | (apply Ok1.fieldAddr; (iterate 5 exact rfl)) | (apply Ok1.indexAddr; (iterate 5 exact rfl); omega; omega) | (apply Ok1.pick_f; exact rfl; exact rfl)) | (apply R.alloc; (iterate 3 exact rfl); intro)) | (apply R.is0; (apply R.store; (iterate 3 exact rfl); (exact (rfl : cellsE (.agg ⟨x.v⟩) = some x.v)); exact SE.v_len _; exact SE.v_all _; exact Upd.head; exact SE.set9 _ _ rfl)) | (apply R.isG; (apply R.guard_not; (iterate 3 exact rfl))) | apply R.nil | (apply T.is; first | apply T.seq | apply T.region | apply T.block | apply T.skip | (apply T.cond_t; exact rfl) | (apply T.cond_f; exact rfl)))
          refine ⟨(i + 1, ov, ns), ⟨by simp only; omega, hov, hns, by rw [hsn]; exact hsay⟩, by simp only; omega, ⟨rfl, rfl, rfl, rfl, rfl, trivial⟩, ?_⟩
          simp only [hNX]
          (focus ((repeat' (first | exact Ext.one _ _ | exact Ext.here _ _ | exact Ext.all _ | apply Keep.cons | apply Keep.app | apply Keep.last | apply Ext.cons)); done))
        | true =>
          rw [hop, Bool.true_and] at hsn
          have hov5 : x.v[5]? = some (.bool true) := by rw [← hop]; rfl
          have hv0 : x.v[0]? = some (.int .i64 x.o) := rfl
          have hv1 : x.v[1]? = some (.int .i64 x.r) := rfl
          have hv2 : x.v[2]? = some (.int .i64 x.ver) := rfl
          have hv4 : x.v[4]? = some (.slice (ovp x.vov) x.val.length (ovc x.vov x.val.length)) := by rw [← slV_eq hvok]; rfl
          by_cases hA : andI .i64 (mask / (pw x.r.toNat)) 1 = 1
          · have hin : inM mask x.r = true := decide_eq_true hA
            rw [hin, if_pos rfl] at hsn
            have hcl := fun w1 h1 => clone_ok (ovp x.vov) x.val.length (ovc x.vov x.val.length) x.val rfl (by omega) w1 h1
            repeat' (first | (apply R.is1; first | (apply R.isBin; (apply R.pure; exact rfl; first | (apply Ok1.shr; exact rfl; exact rfl; omega; (focus (show _ ≤ 64; omega)); exact rfl) | (apply Ok1.andK; exact rfl; exact rfl) | (apply Ok1.add64; exact rfl; exact rfl; omega; omega) | (apply Ok1.lss_t; exact rfl; exact rfl; omega) | (apply Ok1.eql_t; exact rfl; exact rfl; omega))) | (apply R.pure; exact rfl; first | (apply Ok1.load; exact rfl; first | (apply Ld.ownrowk (f := 0) (us := x.v); (focus ((repeat' (first | exact At.head | apply At.tail | apply At.right)); done)); exact SE.v_len; exact hx; (focus ((simp; done))); exact rfl; exact rfl; exact SE.sub9 _) | (apply Ld.own1; exact rfl; exact rfl; exact At.head; first | exact hov5 | exact hv1)) | (apply Ok1.move; exact rfl) | (apply Ok1.fieldAddr; (iterate 5 exact rfl)) | (apply Ok1.indexAddr; (iterate 5 exact rfl); omega; omega) | (apply Ok1.pick_t; exact rfl; exact rfl)) | (apply R.alloc; (iterate 3 exact rfl); intro)) | (apply R.is0; (apply R.store; (iterate 3 exact rfl); (exact (rfl : cellsE (.agg ⟨x.v⟩) = some x.v)); exact SE.v_len _; exact SE.v_all _; exact Upd.head; exact SE.set9 _ _ rfl)) | (apply R.isG; (apply R.guard_run; exact rfl; exact rfl)) | apply R.nil | (apply T.is; first | (apply T.drawC (id := 6) [0] (by decide); ((apply A.take 0; exact rfl; exact rfl; kernel_rfl; kernel_rfl; kernel_rfl; (apply Ok1.move; exact rfl)) <;> (apply A.take 1; exact rfl; exact rfl; kernel_rfl; kernel_rfl; kernel_rfl; (apply Ok1.fieldAddr; (iterate 5 exact rfl))) <;> (apply A.take 2; exact rfl; exact rfl; kernel_rfl; kernel_rfl; kernel_rfl; (apply Ok1.fieldAddr; (iterate 5 exact rfl))) <;> (apply A.take 3; exact rfl; exact rfl; kernel_rfl; kernel_rfl; kernel_rfl; (apply Ok1.load; exact rfl; (apply Ld.own1; exact rfl; exact rfl; exact At.head; exact hv0))) <;> (apply A.take 4; exact rfl; exact rfl; kernel_rfl; kernel_rfl; kernel_rfl; (apply Ok1.fieldAddr; (iterate 5 exact rfl))) <;> (apply A.take 5; exact rfl; exact rfl; kernel_rfl; kernel_rfl; kernel_rfl; (apply Ok1.fieldAddr; (iterate 5 exact rfl))) <;> (apply A.take 6; exact rfl; exact rfl; kernel_rfl; kernel_rfl; kernel_rfl; (apply Ok1.load; exact rfl; (apply Ld.own1; exact rfl; exact rfl; exact At.head; exact hv1))) <;> (apply A.take 7; exact rfl; exact rfl; kernel_rfl; kernel_rfl; kernel_rfl; (apply Ok1.fieldAddr; (iterate 5 exact rfl))) <;> (apply A.take 8; exact rfl; exact rfl; kernel_rfl; kernel_rfl; kernel_rfl; (apply Ok1.fieldAddr; (iterate 5 exact rfl))) <;> (apply A.take 9; exact rfl; exact rfl; kernel_rfl; kernel_rfl; kernel_rfl; (apply Ok1.load; exact rfl; (apply Ld.own1; exact rfl; exact rfl; exact At.head; exact hv2))) <;> (apply A.take 10; exact rfl; exact rfl; kernel_rfl; kernel_rfl; kernel_rfl; (apply Ok1.fieldAddr; (iterate 5 exact rfl))) <;> (apply A.take 11; exact rfl; exact rfl; kernel_rfl; kernel_rfl; kernel_rfl; (apply Ok1.load; exact rfl; (apply Ld.own1; exact rfl; exact rfl; exact At.head; exact hv4))) <;> (apply A.one 12; kernel_rfl; exact rfl; (((apply R.callE (vs := [.slice (ovp x.vov) x.val.length (ovc x.vov x.val.length)]); (iterate 3 exact rfl); exact Ext.none _; intro w1 hw1; exact hcl w1 (hSm1 _ w1 hw1 (Ext.mem (by (focus ((repeat' (first | exact Ext.all _ | apply Ext.cons | apply Ext.app)); done))))); rintro v Lo ⟨ov8, hov8, hsome, rfl, rfl⟩; rw [slV_eq hov8]))); apply R.nil; refine ⟨?_, ?_⟩; (focus ((repeat' (first | exact trivial | (refine ⟨?_, ?_⟩; (focus ((repeat' (first | exact At.head | apply At.right)); done)))))))) <;> (apply A.take 13; exact rfl; exact rfl; kernel_rfl; kernel_rfl; kernel_rfl; (apply Ok1.build; (iterate 5 exact rfl))) <;> (apply A.one 14; kernel_rfl; exact rfl; (((apply R.buildSlice; (iterate 12 exact rfl); intro))); apply R.nil; refine ⟨?_, ?_⟩; (focus ((repeat' (first | exact trivial | (refine ⟨?_, ?_⟩; (focus ((repeat' (first | exact At.head | apply At.tail | apply At.right)); done)))))))) <;> (apply A.one 15; kernel_rfl; exact rfl; (((apply R.appendRd (xs := [⟨x.o, x.r, x.ver, ov8, x.val⟩]) (v := NE.v) (sz := 4) (ov := ov) (n := ns.length) (old := fl NE.v ns); (iterate 12 exact rfl); exact hov; (focus ((repeat' (first | exact Ext.here _ _ | apply Ext.cons | apply Ext.app)); done)); exact rfl; exact NE.v_len; exact rfl; (intro w1 hw1; exact RdSl.of (junk := []) hw1 (by exact At.head) (by simp [fl, NE.v, slV_eq hov8])); (exact fl1N_all _); omega; intro ov1 hov1 hsome1))); apply R.nil; refine ⟨?_, ?_⟩; (focus ((repeat' (first | exact trivial | (refine ⟨?_, ?_⟩; (focus ((repeat' (first | exact At.head | apply At.tail | apply At.right)); done)))))))) <;> (apply A.take 16; exact rfl; exact rfl; kernel_rfl; kernel_rfl; kernel_rfl; (apply Ok1.assign; exact rfl)) <;> (apply A.done; kernel_rfl))) | apply T.seq | apply T.region | apply T.block | apply T.skip | (apply T.cond_t; exact rfl)))
            have hls : (ns ++ [(⟨x.o, x.r, x.ver, ov8, x.val⟩ : NE)]).length = ns.length + 1 := by simp
            have hfl : fl NE.v (ns ++ [(⟨x.o, x.r, x.ver, ov8, x.val⟩ : NE)]) = fl NE.v ns ++ fl NE.v [(⟨x.o, x.r, x.ver, ov8, x.val⟩ : NE)] := fl_app _ _ _
            have hnx : NX (ns ++ [(⟨x.o, x.r, x.ver, ov8, x.val⟩ : NE)]) = LN ++ blkL 5 ov8 (u8s x.val) := by rw [NX_app, hNX]; simp [NX]
            refine ⟨(i + 1, ov1, ns ++ [⟨x.o, x.r, x.ver, ov8, x.val⟩]), ?_⟩
            simp only [hls, hfl, hnx]
            refine ⟨⟨by omega, hov1, ?_, ?_⟩, by omega, ⟨rfl, rfl, rfl, rfl, rfl, trivial⟩, ?_⟩
            · intro y hy
              rcases List.mem_append.1 hy with h9 | h9
              · exact hns y h9
              · rw [List.mem_singleton.1 h9]
                exact hov8
            · rw [List.map_append, hsay, hsn]
              rfl
            · simp only [List.append_assoc]
              (focus ((repeat' (first | exact Ext.one _ _ | exact Ext.here _ _ | exact Ext.all _ | apply Keep.cons | apply Keep.app | apply Keep.last | apply Ext.cons | apply Ext.app)); done))
          · have hin : inM mask x.r = false := decide_eq_false hA
            rw [hin, if_neg (by simp)] at hsn
            repeat' (first | (apply R.is1; first | (apply R.isBin; (apply R.pure; exact rfl; first | (apply Ok1.shr; exact rfl; exact rfl; omega; (focus (show _ ≤ 64; omega)); exact rfl) | (apply Ok1.andK; exact rfl; exact rfl) | (apply Ok1.add64; exact rfl; exact rfl; omega; omega) | (apply Ok1.lss_t; exact rfl; exact rfl; omega) | (apply Ok1.eql_f; exact rfl; exact rfl; omega))) | (apply R.pure; exact rfl; first | (apply Ok1.load; exact rfl; first | (apply Ld.ownrowk (f := 0) (us := x.v); (focus ((repeat' (first | exact At.head | apply At.tail | apply At.right)); done)); exact SE.v_len; exact hx; (focus ((simp; done))); exact rfl; exact rfl; exact SE.sub9 _) | (apply Ld.own1; exact rfl; exact rfl; exact At.head; first | exact hov5 | exact hv1)) | (apply Ok1.move; exact rfl) | (apply Ok1.fieldAddr; (iterate 5 exact rfl)) | (apply Ok1.indexAddr; (iterate 5 exact rfl); omega; omega) | (apply Ok1.pick_t; exact rfl; exact rfl)) | (apply R.alloc; (iterate 3 exact rfl); intro)) | (apply R.is0; (apply R.store; (iterate 3 exact rfl); (exact (rfl : cellsE (.agg ⟨x.v⟩) = some x.v)); exact SE.v_len _; exact SE.v_all _; exact Upd.head; exact SE.set9 _ _ rfl)) | (apply R.isG; (apply R.guard_run; exact rfl; exact rfl)) | apply R.nil | (apply T.is; first | apply T.seq | apply T.region | apply T.block | apply T.skip | (apply T.cond_t; exact rfl) | (apply T.cond_f; exact rfl)))
            refine ⟨(i + 1, ov, ns), ⟨by simp only; omega, hov, hns, by rw [hsn]; exact hsay⟩, by simp only; omega, ⟨rfl, rfl, rfl, rfl, rfl, trivial⟩, ?_⟩
            simp only [hNX]
            (focus ((repeat' (first | exact Ext.one _ _ | exact Ext.here _ _ | exact Ext.all _ | apply Keep.cons | apply Keep.app | apply Keep.last | apply Ext.cons)); done))
      · have him : i = rs.length := by omega
        subst him
        rw [List.take_length] at hsay
        repeat' (first | (apply R.is1; first | (apply R.isBin; (apply R.pure; exact rfl; (apply Ok1.lss_f; exact rfl; exact rfl; omega))) | (apply R.pure; exact rfl; first | (apply Ok1.move; exact rfl) | (apply Ok1.assign; exact rfl))) | apply R.nil | (apply T.is; first | apply T.seq | apply T.region | apply T.exit | apply T.ret | (apply T.cond_f; exact rfl)))
        (apply RetOk.t; exact rfl)
        refine ⟨_, ?_, rs, ov, ns, hp, hasc, hov, hns, hsay, rfl, rfl⟩
        (focus ((repeat' (first | exact Ext.here _ _ | exact Ext.all _ | apply Keep.app | apply Keep.last | apply Ext.cons)); done))
end Go.Proofs.YtligngjcnlbgmaaGreat
