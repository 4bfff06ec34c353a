/- Texts of the proof: Ch13, Ch14, Ch15, Cn1, Lcj. -/
import Derived.Test.YtidjnjlejhoalaaGreatL16nb4
import Derived.JoinedOf
set_option linter.unusedSimpArgs false
set_option linter.unusedVariables false
namespace Go.Proofs.YtidjnjlejhoalaaGreat
open Go.RowKit Go.Shelf
set_option maxRecDepth 100000
/-- A reader's object. -/
def Rs.O (s : Rs) : Obj := .cells ⟨[.slice s.q s.xs.length s.cap, .int .i64 s.e]⟩ 249 (0, 0)
theorem Rs.L_O (s : Rs) (br : Nat) : s.L br = [(br, s.O)] := rfl
def Rs.s1 (s : Rs) : Rs := (s.num 1).2.2
def Rs.s2 (s : Rs) : Rs := (s.s1.raws 9).2
def Rs.s3 (s : Rs) : Rs := (s.s2.num 2).2.2
def Rs.s4 (s : Rs) : Rs := (s.s3.num 2).2.2
def Rs.s5 (s : Rs) : Rs := (s.s4.num 4).2.2
def Rs.s6 (s : Rs) : Rs := s.s5.gb.2
def Rs.s7 (s : Rs) : Rs := (s.s6.raws 32).2
/-- The parts that are read of a packet, and what is wrong with them; sc: what the claims' bytes are read by. -/
def Rs.pk (s : Rs) : Int := (s.num 1).1
def Rs.pc (s : Rs) : List Int := (s.s1.raws 9).1
def Rs.pto (s : Rs) : Int := (s.s2.num 2).1
def Rs.pa (s : Rs) : Int := (s.s3.num 2).1
def Rs.pb (s : Rs) : Int := (s.s4.num 4).1
def Rs.pbd (s : Rs) : List Int := s.s5.gb.1
def Rs.ptg (s : Rs) : List Int := (s.s6.raws 32).1
def Rs.pE (s sc : Rs) : Int := if s.s7.e ≠ 0 then s.s7.e else if ¬ (0 < s.pk ∧ s.pk < 15) then 13 else if (prC sc).2 ≠ 0 then 3 else if 0 < s.s7.xs.length then 3 else if pckE s.pk (prC sc).1 s.pto s.pa s.pb s.pbd.length s.ptg ≠ 0 then 3 else 0
theorem RsO.raws {s : Rs} {M : Lst} (h : RsO s M) (n : Nat) : RsO (s.raws n).2 M := by
  induction n with
  | zero => exact h
  | succ n ih => exact ih.num 1
theorem RsO.raws_byt {s : Rs} {M : Lst} (h : RsO s M) (n : Nat) : Byt (s.raws n).1 := by
  induction n with
  | zero => intro y hy; cases hy
  | succ n ih =>
    intro y hy
    simp only [Rs.raws, List.mem_append, List.mem_singleton] at hy
    rcases hy with hy | rfl
    · exact ih y hy
    · have := Rs.num1_range9 (h.raws n).byt; omega
theorem RsO.gb {s : Rs} {M : Lst} (h : RsO s M) : RsO s.gb.2 M := by
  have h2 := h.num 2
  unfold Rs.gb
  split
  · exact h2
  split
  · exact h2.fail 3
  split
  · exact h2.fail 4
  · exact h2.drop (by omega)
def ParsePost (n : Nat) (xs : List Int) (v : Value) (L : Lst) : Prop := ∃ s sc : Rs, s.xs = (if n ≤ 1024 then xs else []) ∧ s.e = (if n ≤ 1024 then 0 else 2) ∧ sc.xs = s.pc ∧ sc.e = 0 ∧ ((s.pE sc ≠ 0 ∧ v = .tuple #[.agg ⟨pkC 0 cl0 0 0 0 none 0 0 (zI 32)⟩, .int .i64 (s.pE sc)] ∧ L = []) ∨ (s.pE sc = 0 ∧ ∃ ov, OvOk 1 ov s.pbd.length (u8s s.pbd) ∧ v = .tuple #[.agg ⟨pkC s.pk (prC sc).1 s.pto s.pa s.pb (ovp ov) s.pbd.length (ovc ov s.pbd.length) s.ptg⟩, .int .i64 0] ∧ L = blkL 5 ov (u8s s.pbd)))
theorem pkparse_ok (p : Option Addr) (n cap : Nat) (xs : List Int) (hn : n = xs.length) (hbig : n ≤ 1000000000) (hb : Byt xs) (w : World) (hp : RdSl w p u8V xs) :
    CallM Tryz.prog 88 [.slice p n cap] [] w (ParsePost n xs) := by
  have hnew := fun w1 (hc : Chg [] w w1) => rnewr_ok p n cap xs hn hbig hb w1 (hp.chg' hc (fun _ => Off.nil _))
  refine enterK (tb := tb) Tryz.func88 rfl Tryz.ntmps88 rfl ?_
  repeat' (first | (apply R.is1; first | (apply R.isCall; (apply R.callE (vs := [.slice p n cap]); (iterate 3 exact rfl); exact Ext.none _; intro w1 hw1; exact hnew w1 hw1.chg; rintro v Lo ⟨br, s, M, rfl, hs1, hs2, hso, rfl⟩; rw [List.append_assoc])) | (apply R.pure; exact rfl; first | (apply Ok1.move; exact rfl) | (apply Ok1.fieldAddr; (iterate 5 exact rfl)) | (apply Ok1.load; exact rfl; (apply Ld.own1; exact rfl; exact rfl; exact At.head; exact rfl)) | (apply Ok1.assign; exact rfl) | (apply Ok1.build; (iterate 5 exact rfl))) | (apply R.alloc; (iterate 3 exact rfl); intro)) | (apply R.is0; (apply R.store; (iterate 6 exact rfl); exact Upd.head; exact rfl)) | apply R.nil | (apply T.is; first | apply T.seq | apply T.region))
  have o1 : RsO s.s1 M := hso.num 1
  have o2 : RsO s.s2 M := o1.raws 9
  have o3 : RsO s.s3 M := o2.num 2
  have o4 : RsO s.s4 M := o3.num 2
  have o5 : RsO s.s5 M := o4.num 4
  have o6 : RsO s.s6 M := o5.gb
  have o7 : RsO s.s7 M := o6.raws 32
  have k0 := hso.okB br
  have k1 := o1.okB br
  have k2 := o2.okB br
  have k3 := o3.okB br
  have k4 := o4.okB br
  have k5 := o5.okB br
  have k6 := o6.okB br
  have h1 : ∀ w1, s.ok br w1 → CallM Tryz.prog 112 [.pointer (some ⟨br, 0, none⟩), .int .i64 0] (s.L br) w1 fun v L => v = .int .i64 s.pk ∧ L = s.s1.L br := fun w1 h => rnum_ok br s 0 1 (by decide) rfl w1 h
  have h2 : ∀ w1, s.s1.ok br w1 → CallM Tryz.prog 176 [.agg ⟨[.pointer (some ⟨br, 0, none⟩)]⟩, .int .i64 9] (s.s1.L br) w1 fun v L => ∃ ov, OvOk 1 ov 9 (u8s s.pc) ∧ v = slV ov 9 ∧ L = s.s2.L br ++ blkL 5 ov (u8s s.pc) := fun w1 h => raw_ok br s.s1 9 (by decide) w1 h
  have h3 : ∀ w1, s.s2.ok br w1 → CallM Tryz.prog 112 [.pointer (some ⟨br, 0, none⟩), .int .i64 1] (s.s2.L br) w1 fun v L => v = .int .i64 s.pto ∧ L = s.s3.L br := fun w1 h => rnum_ok br s.s2 1 2 (by decide) rfl w1 h
  have h4 : ∀ w1, s.s3.ok br w1 → CallM Tryz.prog 112 [.pointer (some ⟨br, 0, none⟩), .int .i64 1] (s.s3.L br) w1 fun v L => v = .int .i64 s.pa ∧ L = s.s4.L br := fun w1 h => rnum_ok br s.s3 1 2 (by decide) rfl w1 h
  have h5 : ∀ w1, s.s4.ok br w1 → CallM Tryz.prog 112 [.pointer (some ⟨br, 0, none⟩), .int .i64 2] (s.s4.L br) w1 fun v L => v = .int .i64 s.pb ∧ L = s.s5.L br := fun w1 h => rnum_ok br s.s4 2 4 (by decide) rfl w1 h
  have h6 : ∀ w1, s.s5.ok br w1 → CallM Tryz.prog 177 [.pointer (some ⟨br, 0, none⟩), .int .i64 512] (s.s5.L br) w1 fun v L => ∃ ov, OvOk 1 ov s.pbd.length (u8s s.pbd) ∧ v = .slice (ovp ov) s.pbd.length (ovc ov s.pbd.length) ∧ L = s.s6.L br ++ blkL 5 ov (u8s s.pbd) := fun w1 h => rbytes_ok br s.s5 w1 h
  have h7 : ∀ w1, s.s6.ok br w1 → CallM Tryz.prog 176 [.agg ⟨[.pointer (some ⟨br, 0, none⟩)]⟩, .int .i64 32] (s.s6.L br) w1 fun v L => ∃ ov, OvOk 1 ov 32 (u8s s.ptg) ∧ v = slV ov 32 ∧ L = s.s7.L br ++ blkL 5 ov (u8s s.ptg) := fun w1 h => raw_ok br s.s6 32 (by decide) w1 h
  have hre := fun w1 h => rerr_ok br s.s7 w1 h
  have hrl := fun w1 h => rleft_ok br s.s7 w1 h
  have hcpb : Byt s.pc := o1.raws_byt 9
  have hcb : s.pc.length = 9 := Rs.raws_len _ _
  have htl : s.ptg.length = 32 := Rs.raws_len _ _
  have hO7 : s.s7.O = .cells ⟨[.slice s.s7.q s.s7.xs.length s.s7.cap, .int .i64 s.s7.e]⟩ 249 (0, 0) := rfl
  rw [← hO7] at hre hrl
  simp only [Rs.L_O] at *
  have hpost : ∀ (sc : Rs) (v : Value) (L : Lst), sc.xs = s.pc → sc.e = 0 → ((s.pE sc ≠ 0 ∧ v = .tuple #[.agg ⟨pkC 0 cl0 0 0 0 none 0 0 (zI 32)⟩, .int .i64 (s.pE sc)] ∧ L = []) ∨ (s.pE sc = 0 ∧ ∃ ov, OvOk 1 ov s.pbd.length (u8s s.pbd) ∧ v = .tuple #[.agg ⟨pkC s.pk (prC sc).1 s.pto s.pa s.pb (ovp ov) s.pbd.length (ovc ov s.pbd.length) s.ptg⟩, .int .i64 0] ∧ L = blkL 5 ov (u8s s.pbd))) → ParsePost n xs v L := fun sc v L a1 a2 a3 => ⟨s, sc, hs1, hs2, a1, a2, a3⟩
  have hpE : ∀ sc, s.pE sc = if s.s7.e ≠ 0 then s.s7.e else if ¬ (0 < s.pk ∧ s.pk < 15) then 13 else if (prC sc).2 ≠ 0 then 3 else if 0 < s.s7.xs.length then 3 else if pckE s.pk (prC sc).1 s.pto s.pa s.pb s.pbd.length s.ptg ≠ 0 then 3 else 0 := fun sc => rfl
  obtain ⟨PE, hPE⟩ : ∃ f : Rs → Int, f = fun sc => s.pE sc := ⟨_, rfl⟩
  have hPE2 : ∀ sc, s.pE sc = PE sc := fun sc => by rw [hPE]
  simp only [hPE2] at hpE hpost
  clear hPE hPE2 hnew hO7
  generalize s.pk = xk at *
  generalize s.pc = xc at *
  generalize s.pto = xto at *
  generalize s.pa = xa at *
  generalize s.pb = xb at *
  generalize s.pbd = xbd at *
  generalize s.ptg = xt at *
  generalize s.s7.e = e7 at *
  generalize s.s7.xs.length = l7 at *
  generalize s.s7.O = O7 at *
  generalize s.s6.O = O6 at *
  generalize s.s5.O = O5 at *
  generalize s.s4.O = O4 at *
  generalize s.s3.O = O3 at *
  generalize s.s2.O = O2 at *
  generalize s.s1.O = O1 at *
  generalize s.O = O0 at *
  repeat' (first | (apply R.is1; first | (apply R.isCall; first | (apply R.callE (Li := [(br, O0)]) (vs := [.pointer (some ⟨br, 0, none⟩), .int .i64 0]); (iterate 3 exact rfl); (focus ((repeat' (first | exact Ext.one _ _ | apply Ext.cons)); done)); intro w1 hw1; exact h1 w1 (k0 _ _ _ _ _ hw1 (by (focus ((repeat' (first | exact Ext.one _ _ | apply Ext.cons)); done))) (Ext.mem (by (focus ((repeat' (first | exact Ext.here _ _ | apply Ext.cons | apply Ext.app)); done))))); rintro v Lo ⟨rfl, rfl⟩) | (apply R.callE (Li := [(br, O1)]) (vs := [.agg ⟨[.pointer (some ⟨br, 0, none⟩)]⟩, .int .i64 9]); (iterate 3 exact rfl); (focus ((repeat' (first | exact Ext.one _ _ | apply Ext.cons)); done)); intro w1 hw1; exact h2 w1 (k1 _ _ _ _ _ hw1 (by (focus ((repeat' (first | exact Ext.one _ _ | apply Ext.cons)); done))) (Ext.mem (by (focus ((repeat' (first | exact Ext.here _ _ | apply Ext.cons | apply Ext.app)); done))))); rintro v Lo ⟨ovc9, hovc9, rfl, rfl⟩; rw [slV_eq hovc9, List.append_assoc]) | (apply R.callE (Li := [(br, O2)]) (vs := [.pointer (some ⟨br, 0, none⟩), .int .i64 1]); (iterate 3 exact rfl); (focus ((repeat' (exact Ext.one _ _)); done)); intro w1 hw1; exact h3 w1 (k2 _ _ _ _ _ hw1 (by (focus ((repeat' (exact Ext.one _ _)); done))) (Ext.mem (by (focus ((repeat' (first | exact Ext.here _ _ | apply Ext.cons | apply Ext.app)); done))))); rintro v Lo ⟨rfl, rfl⟩)) | (apply R.pure; exact rfl; first | (apply Ok1.fieldAddr; (iterate 5 exact rfl)) | (apply Ok1.load; exact rfl; first | (apply Ld.own1; exact rfl; exact rfl; (focus ((repeat' (first | exact At.head | apply At.tail | apply At.right)); done)); exact rfl) | (apply Ld.ownk; exact rfl; exact rfl; (focus ((repeat' (first | exact At.head | apply At.tail)); done)); exact rfl)) | (apply Ok1.assign; exact rfl) | (apply Ok1.build; (iterate 5 exact rfl))) | (apply R.alloc; (iterate 3 exact rfl); intro)) | (apply R.is0; (apply R.store; (iterate 6 exact rfl); (focus ((repeat' (first | exact Upd.head | apply Upd.tail | apply Upd.right)); done)); exact rfl)) | apply R.nil | (apply T.is; first | apply T.seq | apply T.region))
  rename_i b2 b4 b5
  refine T.weakK (σ' := [(2, .pointer (some ⟨b2, 0, none⟩)), (3, .int .i64 0), (4, .pointer (some ⟨b4, 0, none⟩)), (5, .pointer (some ⟨b5, 0, none⟩)), (6, .slice (ovp ovc9) 9 (ovc ovc9 9))]) (L' := (b4, .cells ⟨[.pointer (some ⟨br, 0, none⟩)]⟩ 321 (0, 0)) :: (b5, .cells ⟨pkC xk cl0 xto 0 0 none 0 0 (zI 32)⟩ 144 (0, 0)) :: (br, O3) :: (b2, .cells ⟨pkC 0 cl0 0 0 0 none 0 0 (zI 32)⟩ 144 (0, 0)) :: (blkL 5 ovc9 (u8s xc) ++ M)) ?_ (by (focus ((repeat' (first | exact Ext.one _ _ | exact Ext.here _ _ | apply Keep.cons | apply Keep.app | apply Keep.last | apply Ext.cons | apply Ext.app)); done))) ⟨rfl, rfl, rfl, rfl, rfl, trivial⟩
  repeat' (first | (apply R.is1; first | (apply R.isCall; (apply R.callE (Li := [(br, O5)]) (vs := [.pointer (some ⟨br, 0, none⟩), .int .i64 512]); (iterate 3 exact rfl); (focus ((repeat' (exact Ext.one _ _)); done)); intro w1 hw1; exact h6 w1 (k5 _ _ _ _ _ hw1 (by (focus ((repeat' (exact Ext.one _ _)); done))) (Ext.mem (by (focus ((repeat' (first | exact Ext.all _ | apply Ext.cons | apply Ext.app)); done))))); rintro v Lo ⟨ovb, hovb, rfl, rfl⟩; rw [List.append_assoc])) | (apply R.pure; exact rfl; first | (apply Ok1.fieldAddr; (iterate 5 exact rfl)) | (apply Ok1.load; exact rfl; (apply Ld.own1; exact rfl; exact rfl; (focus ((repeat' (first | exact At.head | apply At.tail)); done)); exact rfl)))) | (apply R.is0; (apply R.store; (iterate 6 exact rfl); (focus ((repeat' (first | exact Upd.head | apply Upd.tail | apply Upd.right)); done)); exact rfl)) | apply R.nil | (apply T.is; first | (apply T.drawC (id := 5) [0] (by decide); ((apply A.take 0; exact rfl; exact rfl; kernel_rfl; kernel_rfl; kernel_rfl; (apply Ok1.fieldAddr; (iterate 5 exact rfl))) <;> (apply A.take 1; exact rfl; exact rfl; kernel_rfl; kernel_rfl; kernel_rfl; (apply Ok1.load; exact rfl; (apply Ld.own1; exact rfl; exact rfl; exact At.head; exact rfl))) <;> (apply A.take 3; exact rfl; exact rfl; kernel_rfl; kernel_rfl; kernel_rfl; (apply Ok1.fieldAddr; (iterate 5 exact rfl))) <;> (apply A.take 4; exact rfl; exact rfl; kernel_rfl; kernel_rfl; kernel_rfl; (apply Ok1.load; exact rfl; (apply Ld.own1; exact rfl; exact rfl; exact At.head; exact rfl))) <;> (apply A.one 2; kernel_rfl; exact rfl; (((apply R.callE (Li := [(br, O3)]) (vs := [.pointer (some ⟨br, 0, none⟩), .int .i64 1]); (iterate 3 exact rfl); (focus ((repeat' (first | exact Ext.one _ _ | apply Ext.cons)); done)); intro w1 hw1; exact h4 w1 (k3 _ _ _ _ _ hw1 (by (focus ((repeat' (first | exact Ext.one _ _ | apply Ext.cons)); done))) (Ext.mem (by (focus ((repeat' (first | exact Ext.all _ | apply Ext.cons | apply Ext.app)); done))))); rintro v Lo ⟨rfl, rfl⟩))); apply R.nil; refine ⟨?_, ?_⟩; (focus ((repeat' (first | exact trivial | (refine ⟨?_, ?_⟩; (focus ((repeat' (first | exact At.head | apply At.tail)); done)))))))) <;> (apply A.one 5; kernel_rfl; exact rfl; (((apply R.callE (Li := [(br, O4)]) (vs := [.pointer (some ⟨br, 0, none⟩), .int .i64 2]); (iterate 3 exact rfl); (focus ((repeat' (exact Ext.one _ _)); done)); intro w1 hw1; exact h5 w1 (k4 _ _ _ _ _ hw1 (by (focus ((repeat' (exact Ext.one _ _)); done))) (Ext.mem (by (focus ((repeat' (first | exact Ext.all _ | apply Ext.cons | apply Ext.app)); done))))); rintro v Lo ⟨rfl, rfl⟩))); apply R.nil; refine ⟨?_, ?_⟩; (focus ((repeat' (first | exact trivial | (refine ⟨?_, ?_⟩; (focus ((repeat' (first | exact At.head | apply At.tail)); done)))))))) <;> (apply A.take 6; exact rfl; exact rfl; kernel_rfl; kernel_rfl; kernel_rfl; (apply Ok1.build; (iterate 5 exact rfl))) <;> (apply A.take 7; exact rfl; exact rfl; kernel_rfl; kernel_rfl; kernel_rfl; (apply Ok1.fieldAddr; (iterate 5 exact rfl))) <;> (apply A.one 8; kernel_rfl; exact rfl; (((apply R.store; (iterate 6 exact rfl); (focus ((repeat' (first | exact Upd.head | apply Upd.tail)); done)); exact rfl))); apply R.nil; refine ⟨?_, ?_⟩; (focus ((repeat' (first | exact trivial | (refine ⟨?_, ?_⟩; (focus ((repeat' (first | exact At.head | apply At.tail)); done)))))))) <;> (apply A.done; kernel_rfl))) | apply T.seq | apply T.region))
  refine T.weakK (σ' := [(2, .pointer (some ⟨b2, 0, none⟩)), (3, .int .i64 0), (4, .pointer (some ⟨b4, 0, none⟩)), (5, .pointer (some ⟨b5, 0, none⟩)), (6, .slice (ovp ovc9) 9 (ovc ovc9 9))]) (L' := (b4, .cells ⟨[.pointer (some ⟨br, 0, none⟩)]⟩ 321 (0, 0)) :: (b5, .cells ⟨pkC xk cl0 xto xa xb (ovp ovb) xbd.length (ovc ovb xbd.length) (zI 32)⟩ 144 (0, 0)) :: (br, O6) :: (b2, .cells ⟨pkC 0 cl0 0 0 0 none 0 0 (zI 32)⟩ 144 (0, 0)) :: (blkL 5 ovc9 (u8s xc) ++ (blkL 5 ovb (u8s xbd) ++ M))) ?_ (by (focus ((repeat' (first | exact Ext.one _ _ | exact Ext.here _ _ | exact Ext.all _ | apply Keep.cons | apply Keep.app | apply Keep.last | apply Ext.cons | apply Ext.app)); done))) ⟨rfl, rfl, rfl, rfl, rfl, trivial⟩
  repeat' (first | (apply R.is1; (apply R.pure; exact rfl; first | (apply Ok1.fieldAddr; (iterate 5 exact rfl)) | (apply Ok1.load; exact rfl; (apply Ld.own1; exact rfl; exact rfl; (focus ((repeat' (first | exact At.head | apply At.tail | apply At.right)); done)); exact rfl)))) | (apply T.is; first | (apply T.drawC (id := 7) [0] (by decide); ((apply A.take 0; exact rfl; exact rfl; kernel_rfl; kernel_rfl; kernel_rfl; (apply Ok1.fieldAddr; (iterate 5 exact rfl))) <;> (apply A.take 1; exact rfl; exact rfl; kernel_rfl; kernel_rfl; kernel_rfl; (apply Ok1.sliceArr; (iterate 4 exact rfl))) <;> (apply A.take 2; exact rfl; exact rfl; kernel_rfl; kernel_rfl; kernel_rfl; (apply Ok1.load; exact rfl; (apply Ld.ownk; exact rfl; exact rfl; exact At.head; exact rfl))) <;> (apply A.one 3; kernel_rfl; exact rfl; (((apply R.callE (Li := [(br, O6)]) (vs := [.agg ⟨[.pointer (some ⟨br, 0, none⟩)]⟩, .int .i64 32]); (iterate 3 exact rfl); (focus ((repeat' (first | exact Ext.one _ _ | apply Ext.cons)); done)); intro w1 hw1; exact h7 w1 (k6 _ _ _ _ _ hw1 (by (focus ((repeat' (first | exact Ext.one _ _ | apply Ext.cons)); done))) (Ext.mem (by (focus ((repeat' (first | exact Ext.all _ | apply Ext.cons | apply Ext.app)); done))))); rintro v Lo ⟨ovt, hovt, rfl, rfl⟩; rw [slV_eq hovt, List.append_assoc]))); apply R.nil; refine ⟨?_, ?_⟩; (focus ((repeat' (first | exact trivial | (refine ⟨?_, ?_⟩; (focus ((repeat' (first | exact At.head | apply At.tail | apply At.right)); done)))))))) <;> (apply A.one 4; kernel_rfl; exact rfl; (((apply R.copyAll (xs := xt) (v := u8V) (o' := 9); (iterate 7 exact rfl); exact htl.symm; exact u8V_len; (intro w1 hw1; exact RdSl.own' hw1 (Ext.mem (by rw [fl_u8]; (focus ((repeat' (first | exact Ext.here _ _ | apply Ext.cons | apply Ext.app)); done)))) (by rw [fl_u8, htl]; exact hovt) u8V_len); (rw [fl_u8]; exact u8s_one _); (rw [htl]; omega); exact rfl; (focus ((repeat' (first | exact Upd.head | apply Upd.tail | apply Upd.right)); done)); (rw [fl_u8]; exact pk_set _ _ _ _ _ _ _ _ rfl htl)))); apply R.nil; refine ⟨?_, ?_⟩; (focus ((repeat' (first | exact trivial | (refine ⟨?_, ?_⟩; (focus ((repeat' (first | exact At.head | apply At.tail | apply At.right)); done)))))))) <;> (apply A.done; kernel_rfl))) | apply T.seq | apply T.region))
  by_cases he : e7 = 0
  case neg =>
    have hD := hpE ⟨none, 0, xc, 0⟩
    rw [if_pos he] at hD
    repeat' (first | (apply R.is1; first | (apply R.isBin; (apply R.pure; exact rfl; (apply Ok1.neq_t; exact rfl; exact rfl; omega))) | (apply R.isCall; (apply R.callV (vs := [.pointer (some ⟨br, 0, none⟩)]); (iterate 3 exact rfl); intro w1 hw1; exact hre w1 (hw1.get _ _ (At.mem (by exact At.head))))) | (apply R.pure; exact rfl; first | (apply Ok1.move; exact rfl) | (apply Ok1.assign; exact rfl) | (apply Ok1.build; (iterate 5 exact rfl)))) | (apply R.is0; (apply R.store; (iterate 6 exact rfl); (focus ((repeat' (first | exact Upd.head | apply Upd.tail | apply Upd.right)); done)); exact rfl)) | apply R.nil | (apply T.is; first | apply T.seq | apply T.region | apply T.ret | (apply T.cond_t; exact rfl)))
    all_goals (apply RetOk.ct; exact rfl; (apply Ld.ownk; exact rfl; exact rfl; (focus ((repeat' (first | exact At.head | apply At.tail | apply At.right)); done)); exact rfl); exact rfl)
    all_goals exact ⟨_, by (focus ((repeat' (exact Keep.nil _)); done)), hpost ⟨none, 0, xc, 0⟩ _ _ rfl rfl (.inl ⟨by rw [hD]; exact he, by rw [hD]; rfl, rfl⟩)⟩
  subst he
  have hcp := fun w1 h => clparse_ok (ovp ovc9) 9 (ovc ovc9 9) xc hcb.symm (by decide) hcpb w1 h
  repeat' (first | (apply R.is1; first | (apply R.isBin; (apply R.pure; exact rfl; (apply Ok1.neq_f; exact rfl; exact rfl; omega))) | (apply R.isCall; first | (apply R.callV (vs := [.pointer (some ⟨br, 0, none⟩)]); (iterate 3 exact rfl); intro w1 hw1; exact hre w1 (hw1.get _ _ (At.mem (by exact At.head)))) | (apply R.callE (vs := [.slice (ovp ovc9) 9 (ovc ovc9 9)]); (iterate 3 exact rfl); exact Ext.none _; intro w1 hw1; exact hcp w1 (RdSl.own' hw1 (Ext.mem (by rw [fl_u8]; (focus ((repeat' (first | exact Ext.here _ _ | apply Ext.cons | apply Ext.app)); done)))) (by rw [fl_u8, hcb]; exact hovc9) u8V_len); rintro v Lo ⟨sc, hsc1, hsc2, rfl, rfl⟩; simp only [kvC])) | (apply R.pure; exact rfl; first | (apply Ok1.move; exact rfl) | (apply Ok1.fieldAddr; (iterate 5 exact rfl)) | (apply Ok1.assign; exact rfl) | (apply Ok1.extract; exact rfl; exact rfl))) | (apply R.is0; (apply R.store; (iterate 6 exact rfl); (focus ((repeat' (first | exact Upd.head | apply Upd.tail | apply Upd.right)); done)); exact rfl)) | apply R.nil | (apply T.is; first | (apply T.stop1 13) | apply T.seq | apply T.region | apply T.skip | (apply T.cond_f; exact rfl)))
  refine ⟨?_⟩
  have hD := hpE sc
  rw [if_neg (fun h => h rfl)] at hD
  rw [if_pos (by decide)] at hsc1 hsc2
  generalize hpr : prC sc = pr at *
  obtain ⟨cl, ec⟩ := pr
  simp only at hD
  refine T.weakK (σ' := [(2, .pointer (some ⟨b2, 0, none⟩)), (3, .int .i64 0), (4, .pointer (some ⟨b4, 0, none⟩)), (5, .pointer (some ⟨b5, 0, none⟩)), (8, .int .i64 ec)]) (L' := (b4, .cells ⟨[.pointer (some ⟨br, 0, none⟩)]⟩ 321 (0, 0)) :: (b5, .cells ⟨pkC xk cl xto xa xb (ovp ovb) xbd.length (ovc ovb xbd.length) xt⟩ 144 (0, 0)) :: (br, O7) :: (b2, .cells ⟨pkC 0 cl0 0 0 0 none 0 0 (zI 32)⟩ 144 (0, 0)) :: blkL 5 ovb (u8s xbd)) ?_ (by (focus ((repeat' (first | exact Ext.one _ _ | exact Ext.here _ _ | apply Keep.cons | apply Keep.last | apply Ext.cons | apply Ext.app)); done))) ⟨rfl, rfl, rfl, rfl, rfl, trivial⟩
  have hck := pcheck_ok xk cl xto xa xb (ovp ovb) xbd.length (ovc ovb xbd.length) xt htl
  have hkd := pkind_ok xk
  have hpl := pk_len xk cl xto xa xb (ovp ovb) xbd.length (ovc ovb xbd.length) htl
  have hpo := pk_one xk cl xto xa xb (ovp ovb) xbd.length (ovc ovb xbd.length) xt
  obtain ⟨qk, hqk⟩ : ∃ q, q = decide (0 < xk ∧ xk < 15) := ⟨_, rfl⟩
  rw [← hqk] at hkd
  have key : (qk = false ∧ PE sc = 13) ∨ (qk = true ∧ ec ≠ 0 ∧ PE sc = 3) ∨ (qk = true ∧ ec = 0 ∧ 0 < l7 ∧ PE sc = 3) ∨ (qk = true ∧ ec = 0 ∧ l7 = 0 ∧ pckE xk cl xto xa xb xbd.length xt ≠ 0 ∧ PE sc = 3) ∨ (qk = true ∧ ec = 0 ∧ l7 = 0 ∧ pckE xk cl xto xa xb xbd.length xt = 0 ∧ PE sc = 0) := by
    by_cases g1 : 0 < xk ∧ xk < 15
    case neg => rw [if_pos g1] at hD; exact .inl ⟨by rw [hqk]; exact decide_eq_false g1, hD⟩
    rw [if_neg (fun g => g g1)] at hD
    have q1 : qk = true := by rw [hqk]; exact decide_eq_true g1
    by_cases g2 : ec = 0
    case neg => rw [if_pos g2] at hD; exact .inr (.inl ⟨q1, g2, hD⟩)
    rw [if_neg (fun g => g g2)] at hD
    by_cases g3 : 0 < l7
    · rw [if_pos g3] at hD; exact .inr (.inr (.inl ⟨q1, g2, g3, hD⟩))
    rw [if_neg g3] at hD
    by_cases g4 : pckE xk cl xto xa xb xbd.length xt = 0
    · rw [if_neg (fun g => g g4)] at hD; exact .inr (.inr (.inr (.inr ⟨q1, g2, by omega, g4, hD⟩)))
    · rw [if_pos g4] at hD; exact .inr (.inr (.inr (.inl ⟨q1, g2, by omega, g4, hD⟩)))
  clear hD hqk hpE
  generalize pckE xk cl xto xa xb xbd.length xt = EE at *
  generalize hPS : PE sc = PS at *
  simp only [pkC] at hck hpl hpo ⊢
  have hfin : ∀ x : Value, True := fun _ => trivial
  rcases key with ⟨rfl, rfl⟩ | ⟨rfl, g2, rfl⟩ | ⟨rfl, rfl, g3, rfl⟩ | ⟨rfl, rfl, rfl, g4, rfl⟩ | ⟨rfl, rfl, rfl, rfl, rfl⟩
  all_goals repeat' (first | (apply R.is1; first | (apply R.isBin; first | (apply R.pure; exact rfl; first | (apply Ok1.gtr_t; exact rfl; exact rfl; omega) | (apply Ok1.gtr_f; exact rfl; exact rfl; omega) | (apply Ok1.neq_t; exact rfl; exact rfl; omega) | (apply Ok1.neq_f; exact rfl; exact rfl; omega)) | (apply R.neq rfl rfl rfl <;> intro)) | (apply R.isCall; first | apply R.callP rfl rfl rfl hkd | (apply R.callV (vs := [.pointer (some ⟨br, 0, none⟩)]); (iterate 3 exact rfl); intro w1 hw1; exact hrl w1 (hw1.get _ _ (At.mem (by (focus ((repeat' (first | exact At.head | apply At.tail)); done)))))) | apply R.callP rfl rfl rfl hck) | (apply R.pure; exact rfl; first | (apply Ok1.load; exact rfl; first | (apply Ld.own1; exact rfl; exact rfl; (focus ((repeat' (first | exact At.head | apply At.tail)); done)); exact rfl) | (apply Ld.ownk; exact rfl; exact rfl; (focus ((repeat' (first | exact At.head | apply At.tail)); done)); exact subE_all hpl)) | (apply Ok1.move; exact rfl) | (apply Ok1.fieldAddr; (iterate 5 exact rfl)) | (apply Ok1.assign; exact rfl) | (apply Ok1.build; (iterate 5 exact rfl)) | (apply Ok1.pick_t; exact rfl; exact rfl) | (apply Ok1.pick_f; exact rfl; exact rfl) | (apply Ok1.not_t; exact rfl) | (apply Ok1.not_f; exact rfl))) | (apply R.is0; first | (apply R.store; (iterate 4 exact rfl); exact hpl; exact hpo; (focus ((repeat' (first | exact Upd.head | apply Upd.tail)); done)); exact setE_all hpl) | (apply R.store; (iterate 6 exact rfl); (focus ((repeat' (first | exact Upd.head | apply Upd.tail)); done)); exact rfl)) | (apply R.isG; first | (apply R.guard_run; exact rfl; exact rfl) | (apply R.guard_not; (iterate 3 exact rfl))) | apply R.nil | (apply T.is; first | apply T.seq | apply T.region | apply T.block | apply T.skip | apply T.ret | (apply T.cond_t; exact rfl) | (apply T.cond_f; exact rfl)))
  all_goals (apply RetOk.ct; exact rfl; (first | (apply Ld.ownk; exact rfl; exact rfl; (focus ((repeat' (first | exact At.head | apply At.tail)); done)); exact rfl) | (apply Ld.ownk; exact rfl; exact rfl; (focus ((repeat' (first | exact At.head | apply At.tail)); done)); exact subE_all hpl)); exact rfl)
  all_goals first
    | exact ⟨_, by (focus ((repeat' (exact Keep.nil _)); done)), hpost sc _ _ hsc1 hsc2 (.inl ⟨by rw [hPS]; decide, by rw [hPS]; rfl, rfl⟩)⟩
    | exact ⟨_, by (focus ((repeat' (first | exact Ext.all _ | apply Keep.last | apply Ext.cons)); done)), hpost sc _ _ hsc1 hsc2 (.inr ⟨hPS, ovb, hovb, by rw [hpr]; rfl, rfl⟩)⟩
end Go.Proofs.YtidjnjlejhoalaaGreat
set_option linter.unusedSimpArgs false
set_option linter.unusedVariables false
namespace Go.Proofs.YtidjnjlejhoalaaGreat
open Go.RowKit Go.Shelf
set_option maxRecDepth 100000
theorem Rs.raws_fwd {s : Rs} {l rest : List Int} (hb : Byt l) (hs : s.xs = l ++ rest) (he : s.e = 0) : ∀ n, n ≤ l.length → (s.raws n).1 = l.take n ∧ (s.raws n).2.xs = l.drop n ++ rest ∧ (s.raws n).2.e = 0 := by
  intro n
  induction n with
  | zero => intro _; exact ⟨rfl, hs, he⟩
  | succ n ih =>
    intro hn
    obtain ⟨h1, h2, h3⟩ := ih (by omega)
    obtain ⟨x, hx⟩ : ∃ x, l[n]? = some x := ⟨_, List.getElem?_eq_getElem (by omega)⟩
    have hxb := hb x (List.mem_of_getElem? hx)
    have hd : l.drop n = x :: l.drop (n + 1) := by
      have hlt : n < l.length := by omega
      rw [List.drop_eq_getElem_cons hlt]
      rw [List.getElem?_eq_getElem hlt] at hx
      cases hx; rfl
    have hnx : numI 0 x = [x] := by show [x % 256] = [x]; congr 1; omega
    have h2' : (s.raws n).2.xs = numI 0 x ++ (l.drop (n + 1) ++ rest) := by rw [h2, hd, hnx]; rfl
    obtain ⟨a1, a2, a3⟩ := Rs.num_fwd (s := (s.raws n).2) (z := 0) (k := 1) (.inl ⟨rfl, rfl⟩) (by omega) (by omega) (by omega) (by omega) h2' h3
    refine ⟨?_, a2, a3⟩
    show (s.raws n).1 ++ [((s.raws n).2.num 1).1] = l.take (n + 1)
    rw [a1, h1, List.take_add_one, hx]; rfl
theorem Rs.gb_fwd {s : Rs} {l rest : List Int} (hl : l.length ≤ 512) (hs : s.xs = numI 1 l.length ++ (l ++ rest)) (he : s.e = 0) : s.gb.1 = l ∧ s.gb.2.xs = rest ∧ s.gb.2.e = 0 := by
  have hz : (s.num 2) = (beN (s.xs.take 2), true, s.drop 2) := by
    obtain ⟨g1, g2⟩ := be_numI (z := 1) (k := 2) (v := (l.length : Int)) (.inr (.inl ⟨rfl, rfl⟩)) (by omega) (by omega) (by omega) (by omega)
    have ht : s.xs.take 2 = numI 1 l.length := by rw [hs]; rfl
    refine Rs.num_many he (by rw [hs, List.length_append, g2]; omega) (by rw [ht, g1]; omega)
  obtain ⟨a1, a2, a3⟩ := Rs.num_fwd (s := s) (z := 1) (k := 2) (v := (l.length : Int)) (.inr (.inl ⟨rfl, rfl⟩)) (by omega) (by omega) (by omega) (by omega) hs he
  have a0 : (s.num 2).2.1 = true := by rw [hz]
  unfold Rs.gb
  rw [a0, a1, if_neg (by decide), if_neg (by omega), if_neg (by rw [a2, List.length_append]; omega), Int.toNat_natCast]
  refine ⟨by rw [a2]; exact List.take_left, ?_, a3⟩
  show ((s.num 2).2.2.xs).drop l.length = rest
  rw [a2]; exact List.drop_left
theorem prC_fwd {s : Rs} {c : Cl} (hr : c.right) (hs : s.xs = clI c) (he : s.e = 0) : prC s = (c, 0) := by
  have hs' : s.xs = clI c ++ [] := by rw [hs, List.append_nil]
  have h1 := rdC_fwd hr hs' he
  obtain ⟨_, h2, h3⟩ := Rs.c4_fwd hr hs' he
  unfold prC
  rw [h1, if_neg (fun h => h rfl)]
  have hf : s.c4.fin = 0 := by unfold Rs.fin; rw [if_neg (fun h => h h3), h2, if_neg (by decide)]
  rw [hf, if_neg (fun h => h rfl)]
theorem parse_fwd {s : Rs} {k : Int} {c : Cl} {to a b : Int} {body t : List Int} (ht : t.length = 32) (htb : Byt t) (hE : pckE k c to a b body.length t = 0) (hs : s.xs = pkB k c to a b body t) (he : s.e = 0) :
    s.pk = k ∧ s.pc = clI c ∧ s.pto = to ∧ s.pa = a ∧ s.pb = b ∧ s.pbd = body ∧ s.ptg = t ∧ s.s7.xs = [] ∧ s.s7.e = 0 := by
  obtain ⟨g1, g2, g3, g4, g5, g6⟩ := pckE_zero hE
  unfold NR at g4
  simp only [pkB, pkH, nbI, List.nil_append, List.append_assoc] at hs
  obtain ⟨a1, a2, a3⟩ := Rs.num_fwd (s := s) (z := 0) (k := 1) (.inl ⟨rfl, rfl⟩) (by omega) (by omega) (by omega) (by omega) hs he
  obtain ⟨b1, b2, b3⟩ := Rs.raws_fwd (s := s.s1) (clI_byt c) a2 a3 9 (Nat.le_refl _)
  have b2' : s.s2.xs = _ := b2
  rw [show (clI c).drop 9 = [] from rfl, List.nil_append] at b2'
  obtain ⟨c1, c2, c3⟩ := Rs.num_fwd (s := s.s2) (z := 1) (k := 2) (.inr (.inl ⟨rfl, rfl⟩)) (by omega) (by omega) (by omega) (by omega) b2' b3
  obtain ⟨d1, d2, d3⟩ := Rs.num_fwd (s := s.s3) (z := 1) (k := 2) (.inr (.inl ⟨rfl, rfl⟩)) (by omega) (by omega) (by omega) (by omega) c2 c3
  obtain ⟨e1, e2, e3⟩ := Rs.num_fwd (s := s.s4) (z := 2) (k := 4) (.inr (.inr ⟨rfl, rfl⟩)) (by omega) (by omega) (by omega) (by omega) d2 d3
  obtain ⟨f1, f2, f3⟩ := Rs.gb_fwd (s := s.s5) (l := body) g5 e2 e3
  have f2' : s.s6.xs = t ++ [] := by rw [List.append_nil]; exact f2
  obtain ⟨h1, h2, h3⟩ := Rs.raws_fwd (s := s.s6) htb f2' f3 32 (by omega)
  refine ⟨a1, ?_, c1, d1, e1, f1, ?_, ?_, h3⟩
  · exact b1
  · show (s.s6.raws 32).1 = t
    rw [h1, List.take_of_length_le (by omega)]
  · show (s.s6.raws 32).2.xs = []
    rw [h2, List.drop_of_length_le (by omega)]; rfl
theorem parse_wr (p : Option Addr) (n cap : Nat) (k : Int) (c : Cl) (to a b : Int) (body t : List Int) (ht : t.length = 32) (htb : Byt t) (hbb : Byt body) (hE : pckE k c to a b body.length t = 0) (hn : n = (pkB k c to a b body t).length) (w : World) (hp : RdSl w p u8V (pkB k c to a b body t)) :
    CallM Tryz.prog 88 [.slice p n cap] [] w fun v L => ∃ ov, OvOk 1 ov body.length (u8s body) ∧ v = .tuple #[.agg ⟨pkC k c to a b (ovp ov) body.length (ovc ov body.length) t⟩, .int .i64 0] ∧ L = blkL 5 ov (u8s body) := by
  have hz := pckE_zero hE
  have hl := pkB_len k c to a b body ht
  refine (pkparse_ok p n cap _ hn (by omega) (Byt.app (pkH_byt k c to a b hbb) htb) w hp).imp ?_
  rintro v L ⟨s, sc, h1, h2, h3, h4, h5⟩
  rw [if_pos (by omega)] at h1 h2
  obtain ⟨f1, f2, f3, f4, f5, f6, f7, f8, f9⟩ := parse_fwd ht htb hE h1 h2
  have hpr := prC_fwd hz.2.1 (by rw [h3, f2]) h4
  have hPE : s.pE sc = 0 := by
    unfold Rs.pE
    rw [if_neg (fun h => h f9), f1, if_neg (fun h => h hz.1), hpr, if_neg (fun h => h rfl), f8, if_neg (by decide), f3, f4, f5, f6, f7, if_neg (fun h => h hE)]
  rcases h5 with ⟨g, _⟩ | ⟨_, ov, hov, rfl, rfl⟩
  · exact absurd hPE g
  · rw [f6] at hov ⊢
    rw [f1, f3, f4, f5, f7, hpr]
    exact ⟨ov, hov, rfl, rfl⟩
end Go.Proofs.YtidjnjlejhoalaaGreat
set_option linter.unusedSimpArgs false
set_option linter.unusedVariables false
namespace Go.Proofs.YtidjnjlejhoalaaGreat
open Go.RowKit Go.Shelf
set_option maxRecDepth 100000
def kch : List Int := [48, 49, 50, 51, 52, 53, 54, 55, 56, 57, 97, 98, 99, 100, 101, 102]
def cch : Cl := ⟨5, 0, 0, 1⟩
theorem known16_ok : CallP Tryz.prog 25 [] (.bool true) := by
  have hkb : Byt kch := by intro x hx; simp only [kch, List.mem_cons, List.not_mem_nil, or_false] at hx; omega
  have hkl : kch.length = 16 := rfl
  have hr : cch.right := by decide
  have hsl := secret_len kch cch
  have hsb := secret_byt kch cch
  have hmk := fun bk w1 hk => make_ok cch hr bk kch (by decide) hkb w1 hk
  have hcell : u8s kch ++ [] = [.int .u8 48, .int .u8 49, .int .u8 50, .int .u8 51, .int .u8 52, .int .u8 53, .int .u8 54, .int .u8 55, .int .u8 56, .int .u8 57, .int .u8 97, .int .u8 98, .int .u8 99, .int .u8 100, .int .u8 101, .int .u8 102] := rfl
  generalize hd : secretI kch cch = d at *
  have hE0 : pckE 7 cch 6 3 (0 + 1) 0 (zI 32) = 0 := by decide
  have hnew := fun w1 => chnew_ok cch hr d hsl 3 (by unfold NR; omega) w1
  have hwr := fun bc bn br bb bd sd m1 m2 w1 a1 a2 a3 a4 => chwrite_ok bc bn br bb bd sd 275 (0, 0) cch d hsl hsb m1 m2 300 7 6 (by decide) (by decide) (by decide) 3 0 (by decide) (by decide) none 0 0 [] rfl hE0 byt_nil w1 a1 a2 a3 a4 (.inl rfl) (fun h => absurd rfl h)
  have htt : (pkT (senderI d 6) 7 cch 6 3 (0 + 1) []).length = 32 := by unfold pkT; exact hmac_len _ _
  have htb : Byt (pkT (senderI d 6) 7 cch 6 3 (0 + 1) []) := by unfold pkT; exact hmac_byt _ _
  have hE1 : pckE 7 cch 6 3 (0 + 1) ([] : List Int).length (pkT (senderI d 6) 7 cch 6 3 (0 + 1) []) = 0 := by rw [pckE_np _ (zI 32) (by decide)]; exact hE0
  have hpa := fun p n cap hn w1 h => parse_wr p n cap 7 cch 6 3 (0 + 1) [] (pkT (senderI d 6) 7 cch 6 3 (0 + 1) []) htt htb byt_nil hE1 hn w1 h
  have hl1 := fun p2 cap2 => pk_len 7 cch 6 3 (0 + 1) p2 0 cap2 htt
  have ho1 := fun p2 cap2 => pk_one 7 cch 6 3 (0 + 1) p2 0 cap2 (pkT (senderI d 6) 7 cch 6 3 (0 + 1) [])
  unfold wrI at hwr
  generalize pkT (senderI d 6) 7 cch 6 3 (0 + 1) [] = TG at *
  generalize pkB 7 cch 6 3 (0 + 1) [] TG = PB at *
  have htl := tk_len (c := cch) hsl
  have hto := tk_one cch d
  refine enterP (tb := tb) Tryz.func25 rfl Tryz.ntmps25 rfl fun w0 => ?_
  repeat' (first | (apply R.is1; first | (apply R.convSame; (iterate 6 exact rfl); exact Upd.head) | (apply R.isCall; first | (apply R.callE (vs := [.slice (some ⟨_, 0, none⟩) 16 16]); (iterate 3 exact rfl); exact Ext.none _; intro w1 hw1; exact new_ok (some ⟨_, 0, none⟩) 16 16 kch hkl.symm (by decide) w1 (RdSl.of (junk := []) hw1 (by exact At.head) (by rw [fl_u8]; exact hcell.symm)); rintro v Lo ⟨bk, ov, rfl, hov, _, rfl⟩) | (apply R.callV (vs := [.pointer (some ⟨bk, 0, none⟩), .agg _]); (iterate 3 exact rfl); intro w1 hw1; exact hmk bk w1 (KeyR.of hov hw1 (Ext.mem (by (focus ((repeat' (exact Ext.here _ _)); done)))))) | (apply R.callE (vs := [.agg ⟨tkC cch d⟩, .int .i64 3]); (iterate 3 exact rfl); exact Ext.none _; intro w1 hw1; exact hnew w1; rintro v Lo ⟨bc, bn, br, bb, bd, bm, m1, m2, sd, dr, rfl, rfl⟩; unfold ChL RL0)) | (apply R.pure; exact rfl; first | (apply Ok1.load; exact rfl; (apply Ld.ownk; exact rfl; exact rfl; exact At.head; exact subE_all htl)) | (apply Ok1.move; exact rfl) | (apply Ok1.assign; exact rfl) | (apply Ok1.build; (iterate 5 exact rfl)) | (apply Ok1.extract; exact rfl; exact rfl)) | (apply R.alloc; (iterate 3 exact rfl); intro) | (apply R.buildSlice; (iterate 12 exact rfl); intro)) | (apply R.is0; (apply R.store; (iterate 4 exact rfl); exact htl; exact hto; exact Upd.head; exact setE_all htl)) | apply R.nil | (apply T.is; first | apply T.seq | apply T.region))
  rename_i bt
  have hwr2 : ∀ (S : List Nat) (L Lr : Lst) (w1 : World), Hp w0 S L w1 → Ext L [(bn, .cells ⟨[.int .i64 3, .int .i64 0]⟩ 379 (0, 0))] Lr → (bc, .cells ⟨chC bn br bb bd sd⟩ 275 (0, 0)) ∈ Lr → (br, .cells ⟨ringC cch d m1 m2⟩ 300 (0, 0)) ∈ Lr → _ := fun S L Lr w1 hw he h1 h2 => hwr bc bn br bb bd sd m1 m2 w1 (hw.get _ _ (he.perm.subset (List.mem_append_right _ h1))) (hw.get _ _ (he.perm.subset (List.mem_append_right _ h2))) (by have := RdSl.off hw he h1; simpa [blks] using this) (by have := RdSl.off hw he h2; simpa [blks] using this)
  simp only [List.cons_append, List.nil_append, List.append_assoc]
  generalize BL bb bm [] 0 = BB at *
  generalize KL bk ov kch = KK at *
  repeat' (first | (apply R.is1; first | (apply R.isBin; first | (apply R.pure; exact rfl; (apply Ok1.eql_t; exact rfl; exact rfl; omega)) | (apply R.eqlF; (iterate 8 exact rfl); all_goals intro)) | (apply R.isCall; first | (apply R.callE (Li := [(bn, .cells ⟨[.int .i64 3, .int .i64 0]⟩ 379 (0, 0))]) (vs := [.pointer (some ⟨bc, 0, none⟩), .int .i64 7, .int .i64 6, .slice none 0 0]); (iterate 3 exact rfl); (focus ((repeat' (first | exact Ext.one _ _ | apply Ext.cons)); done)); intro w1 hw1; exact hwr2 _ _ _ w1 hw1 (by (focus ((repeat' (first | exact Ext.one _ _ | apply Ext.cons)); done))) (At.mem (by exact At.head)) (At.mem (by (focus ((repeat' (first | exact At.head | apply At.tail)); done)))); rintro v Lo ⟨ovw, hovw, rfl, rfl⟩; rw [slV_eq hovw]) | (apply R.callE (vs := [.slice (ovp ovw) PB.length (ovc ovw PB.length)]); (iterate 3 exact rfl); exact Ext.none _; intro w1 hw1; exact hpa (ovp ovw) PB.length (ovc ovw PB.length) rfl w1 (RdSl.own' hw1 (Ext.mem (by rw [fl_u8]; (focus ((repeat' (first | exact Ext.here _ _ | apply Ext.cons)); done)))) (by rw [fl_u8]; exact hovw) u8V_len); rintro v Lo ⟨ovp2, hovp2, rfl, rfl⟩; simp only [pkC])) | (apply R.pure; exact rfl; first | (apply Ok1.move; exact rfl) | (apply Ok1.fieldAddr; (iterate 5 exact rfl)) | (apply Ok1.load; exact rfl; (apply Ld.ownk; exact rfl; exact rfl; exact At.head; exact rfl)) | (apply Ok1.assign; exact rfl) | (apply Ok1.build; (iterate 5 exact rfl)) | (apply Ok1.extract; exact rfl; exact rfl) | (apply Ok1.pick_t; exact rfl; exact rfl)) | (apply R.alloc; (iterate 3 exact rfl); intro)) | (apply R.is0; (apply R.store; (iterate 4 exact rfl); exact (hl1 _ _); exact (ho1 _ _); exact Upd.head; exact setE_all (hl1 _ _))) | (apply R.isG; (apply R.guard_run; exact rfl; exact rfl)) | apply R.nil | (apply T.is; first | apply T.seq | apply T.region | apply T.ret))
  all_goals (apply RetOk.t; exact rfl)
  all_goals first | rfl | (rename_i h; exact absurd rfl h)
end Go.Proofs.YtidjnjlejhoalaaGreat
set_option linter.unusedSimpArgs false
set_option linter.unusedVariables false
namespace Go.Proofs.YtidjnjlejhoalaaGreat
open Go.RowKit Go.Shelf
set_option maxRecDepth 100000
theorem chnew_bad (c : Cl) (s : List Int) (hs : s.length = 32) (boot : Int) (h : ¬ (c.right ∧ NR boot 1)) (w : World) : CallM Tryz.prog 63 [.agg ⟨tkC c s⟩, .int .i64 boot] [] w fun v L => v = .tuple #[.pointer none, .int .i64 10] ∧ L = [] := by
  have htl := tk_len (c := c) hs
  by_cases hr : c.right
  · have hb := wstart_bad boot (fun g => h ⟨hr, g⟩)
    have h1 := fun w1 => ring_new c hr s hs w1
    refine enterK (tb := tb) Tryz.func63 rfl Tryz.ntmps63 rfl ?_
    repeat' (first | (apply R.is1; first | (apply R.isBin; first | (apply R.pure; exact rfl; first | (apply Ok1.neq_t; exact rfl; exact rfl; omega) | (apply Ok1.neq_f; exact rfl; exact rfl; omega) | (apply Ok1.neqP; (iterate 5 exact rfl)) | (apply Ok1.neqM; (iterate 5 exact rfl)) | (apply Ok1.neqS; (iterate 5 exact rfl))) | (apply R.neq rfl rfl rfl <;> intro) | (apply R.neqF; (iterate 8 exact rfl); all_goals intro)) | (apply R.isCall; first | (apply R.callE (vs := [.agg ⟨tkC c s⟩]); (iterate 3 exact rfl); exact Ext.none _; intro w1 hw1; exact h1 w1; rintro x Lo ⟨br, m1, m2, rfl, rfl⟩) | apply R.callP rfl rfl rfl hb) | (apply R.pure; exact rfl; first | (apply Ok1.load; exact rfl; (apply Ld.ownk; exact rfl; exact rfl; (focus ((repeat' (first | exact At.head | apply At.tail | apply At.right)); done)); exact subE_all htl)) | (apply Ok1.move; exact rfl) | (apply Ok1.load; exact rfl; first | (apply Ld.own1; exact rfl; exact rfl; (focus ((repeat' (first | exact At.head | apply At.tail | apply At.right)); done)); exact rfl) | (apply Ld.ownk; exact rfl; exact rfl; (focus ((repeat' (first | exact At.head | apply At.tail | apply At.right)); done)); exact rfl) | (apply Ld.old1; exact rfl; exact rfl; assumption; (first | exact List.not_mem_nil | assumption)) | (apply Ld.blk1; exact rfl; exact rfl; assumption; (first | exact List.not_mem_nil | assumption); exact rfl) | (apply Ld.blkk; exact rfl; exact rfl; assumption; (first | exact List.not_mem_nil | assumption); exact rfl)) | (apply Ok1.assign; exact rfl) | (apply Ok1.build; (iterate 5 exact rfl)) | (apply Ok1.extract; exact rfl; exact rfl) | (apply Ok1.buildA; (iterate 6 exact rfl))) | (apply R.box; (iterate 3 exact rfl); intro)) | (apply R.is0; first | fail) | (apply R.isG; first | (apply R.guard_run; exact rfl; exact rfl) | (apply R.guard_not; (iterate 3 exact rfl)) | (apply R.guard_not0; exact rfl; exact rfl) | (apply R.guard_un; (iterate 3 exact rfl)) | (apply R.guard_un0; exact rfl; exact rfl) | (apply R.guard rfl rfl ?_ (fun h => ⟨rfl, ?_⟩) <;> try intro)) | apply R.nil | (apply T.is; first | apply T.seq | apply T.region | apply T.block | apply T.scope | apply T.label | apply T.skip | apply T.exit | apply T.ret | (apply T.cond_t; exact rfl) | (apply T.cond_f; exact rfl) | (apply T.cond_h; exact rfl; assumption) | (apply T.cond_n; exact rfl; assumption) | (apply T.cond rfl <;> intro)) | apply Rnd.step)
    all_goals (apply RetOk.tt; exact rfl; exact rfl)
    all_goals exact ⟨_, by (focus ((repeat' (first | exact Keep.nil _ | exact Ext.one _ _ | exact Ext.here _ _ | exact Ext.all _ | apply Keep.cons | apply Keep.app | apply Keep.last | apply Ext.cons | apply Ext.app)); done)), rfl, rfl⟩
  · have h1 := ring_bad c hr s hs
    refine enterK (tb := tb) Tryz.func63 rfl Tryz.ntmps63 rfl ?_
    repeat' (first | (apply R.is1; first | (apply R.isBin; first | (apply R.pure; exact rfl; first | (apply Ok1.neq_t; exact rfl; exact rfl; omega) | (apply Ok1.neq_f; exact rfl; exact rfl; omega) | (apply Ok1.neqP; (iterate 5 exact rfl)) | (apply Ok1.neqM; (iterate 5 exact rfl)) | (apply Ok1.neqS; (iterate 5 exact rfl))) | (apply R.neq rfl rfl rfl <;> intro) | (apply R.neqF; (iterate 8 exact rfl); all_goals intro)) | (apply R.isCall; first | apply R.callP rfl rfl rfl h1) | (apply R.pure; exact rfl; first | (apply Ok1.load; exact rfl; (apply Ld.ownk; exact rfl; exact rfl; (focus ((repeat' (first | exact At.head | apply At.tail | apply At.right)); done)); exact subE_all htl)) | (apply Ok1.move; exact rfl) | (apply Ok1.load; exact rfl; first | (apply Ld.own1; exact rfl; exact rfl; (focus ((repeat' (first | exact At.head | apply At.tail | apply At.right)); done)); exact rfl) | (apply Ld.ownk; exact rfl; exact rfl; (focus ((repeat' (first | exact At.head | apply At.tail | apply At.right)); done)); exact rfl) | (apply Ld.old1; exact rfl; exact rfl; assumption; (first | exact List.not_mem_nil | assumption)) | (apply Ld.blk1; exact rfl; exact rfl; assumption; (first | exact List.not_mem_nil | assumption); exact rfl) | (apply Ld.blkk; exact rfl; exact rfl; assumption; (first | exact List.not_mem_nil | assumption); exact rfl)) | (apply Ok1.assign; exact rfl) | (apply Ok1.build; (iterate 5 exact rfl)) | (apply Ok1.extract; exact rfl; exact rfl) | (apply Ok1.buildA; (iterate 6 exact rfl))) | (apply R.box; (iterate 3 exact rfl); intro)) | (apply R.is0; first | fail) | (apply R.isG; first | (apply R.guard_run; exact rfl; exact rfl) | (apply R.guard_not; (iterate 3 exact rfl)) | (apply R.guard_not0; exact rfl; exact rfl) | (apply R.guard_un; (iterate 3 exact rfl)) | (apply R.guard_un0; exact rfl; exact rfl) | (apply R.guard rfl rfl ?_ (fun h => ⟨rfl, ?_⟩) <;> try intro)) | apply R.nil | (apply T.is; first | apply T.seq | apply T.region | apply T.block | apply T.scope | apply T.label | apply T.skip | apply T.exit | apply T.ret | (apply T.cond_t; exact rfl) | (apply T.cond_f; exact rfl) | (apply T.cond_h; exact rfl; assumption) | (apply T.cond_n; exact rfl; assumption) | (apply T.cond rfl <;> intro)) | apply Rnd.step)
    all_goals (apply RetOk.tt; exact rfl; exact rfl)
    all_goals exact ⟨_, by (focus ((repeat' (first | exact Keep.nil _ | exact Ext.one _ _ | exact Ext.here _ _ | exact Ext.all _ | apply Keep.cons | apply Keep.app | apply Keep.last | apply Ext.cons | apply Ext.app)); done)), rfl, rfl⟩
theorem chring_nil : CallP Tryz.prog 65 [.pointer none] (.pointer none) := by
  refine enterP (tb := tb) Tryz.func65 rfl Tryz.ntmps65 rfl fun w0 => ?_
  repeat' (first | (apply R.is1; first | (apply R.isBin; first | (apply R.pure; exact rfl; first | (apply Ok1.eql_t; exact rfl; exact rfl; omega) | (apply Ok1.eql_f; exact rfl; exact rfl; omega) | (apply Ok1.eqlP; (iterate 5 exact rfl)) | (apply Ok1.eqlM; (iterate 5 exact rfl)) | (apply Ok1.eqlS; (iterate 5 exact rfl))) | (apply R.eql rfl rfl rfl <;> intro) | (apply R.eqlF; (iterate 8 exact rfl); all_goals intro)) | (apply R.pure; exact rfl; first | (apply Ok1.move; exact rfl) | (apply Ok1.fieldAddr; (iterate 5 exact rfl)) | (apply Ok1.load; exact rfl; first | (apply Ld.own1; exact rfl; exact rfl; (focus ((repeat' (first | exact At.head | apply At.tail | apply At.right)); done)); exact rfl) | (apply Ld.ownk; exact rfl; exact rfl; (focus ((repeat' (first | exact At.head | apply At.tail | apply At.right)); done)); exact rfl) | (apply Ld.old1; exact rfl; exact rfl; assumption; (first | exact List.not_mem_nil | assumption)) | (apply Ld.blk1; exact rfl; exact rfl; assumption; (first | exact List.not_mem_nil | assumption); exact rfl) | (apply Ld.blkk; exact rfl; exact rfl; assumption; (first | exact List.not_mem_nil | assumption); exact rfl)) | (apply Ok1.assign; exact rfl) | (apply Ok1.nilCheck; exact rfl) | (apply Ok1.nilCheckF; exact rfl))) | (apply R.is0; first | fail) | (apply R.isG; first | (apply R.guard_run; exact rfl; exact rfl) | (apply R.guard_not; (iterate 3 exact rfl)) | (apply R.guard_not0; exact rfl; exact rfl) | (apply R.guard_un; (iterate 3 exact rfl)) | (apply R.guard_un0; exact rfl; exact rfl) | (apply R.guard rfl rfl ?_ (fun h => ⟨rfl, ?_⟩) <;> try intro)) | apply R.nil | (apply T.is; first | apply T.seq | apply T.region | apply T.block | apply T.scope | apply T.label | apply T.skip | apply T.exit | apply T.ret | (apply T.cond_t; exact rfl) | (apply T.cond_f; exact rfl) | (apply T.cond_h; exact rfl; assumption) | (apply T.cond_n; exact rfl; assumption) | (apply T.cond rfl <;> intro)) | apply Rnd.step)
  all_goals (apply RetOk.t; exact rfl)
  all_goals rfl
theorem chbook_nil : CallP Tryz.prog 66 [.pointer none] (.pointer none) := by
  refine enterP (tb := tb) Tryz.func66 rfl Tryz.ntmps66 rfl fun w0 => ?_
  repeat' (first | (apply R.is1; first | (apply R.isBin; first | (apply R.pure; exact rfl; first | (apply Ok1.eql_t; exact rfl; exact rfl; omega) | (apply Ok1.eql_f; exact rfl; exact rfl; omega) | (apply Ok1.eqlP; (iterate 5 exact rfl)) | (apply Ok1.eqlM; (iterate 5 exact rfl)) | (apply Ok1.eqlS; (iterate 5 exact rfl))) | (apply R.eql rfl rfl rfl <;> intro) | (apply R.eqlF; (iterate 8 exact rfl); all_goals intro)) | (apply R.pure; exact rfl; first | (apply Ok1.move; exact rfl) | (apply Ok1.fieldAddr; (iterate 5 exact rfl)) | (apply Ok1.load; exact rfl; first | (apply Ld.own1; exact rfl; exact rfl; (focus ((repeat' (first | exact At.head | apply At.tail | apply At.right)); done)); exact rfl) | (apply Ld.ownk; exact rfl; exact rfl; (focus ((repeat' (first | exact At.head | apply At.tail | apply At.right)); done)); exact rfl) | (apply Ld.old1; exact rfl; exact rfl; assumption; (first | exact List.not_mem_nil | assumption)) | (apply Ld.blk1; exact rfl; exact rfl; assumption; (first | exact List.not_mem_nil | assumption); exact rfl) | (apply Ld.blkk; exact rfl; exact rfl; assumption; (first | exact List.not_mem_nil | assumption); exact rfl)) | (apply Ok1.assign; exact rfl) | (apply Ok1.nilCheck; exact rfl) | (apply Ok1.nilCheckF; exact rfl))) | (apply R.is0; first | fail) | (apply R.isG; first | (apply R.guard_run; exact rfl; exact rfl) | (apply R.guard_not; (iterate 3 exact rfl)) | (apply R.guard_not0; exact rfl; exact rfl) | (apply R.guard_un; (iterate 3 exact rfl)) | (apply R.guard_un0; exact rfl; exact rfl) | (apply R.guard rfl rfl ?_ (fun h => ⟨rfl, ?_⟩) <;> try intro)) | apply R.nil | (apply T.is; first | apply T.seq | apply T.region | apply T.block | apply T.scope | apply T.label | apply T.skip | apply T.exit | apply T.ret | (apply T.cond_t; exact rfl) | (apply T.cond_f; exact rfl) | (apply T.cond_h; exact rfl; assumption) | (apply T.cond_n; exact rfl; assumption) | (apply T.cond rfl <;> intro)) | apply Rnd.step)
  all_goals (apply RetOk.t; exact rfl)
  all_goals rfl
theorem chdrops_nil : CallP Tryz.prog 67 [.pointer none] (.pointer none) := by
  refine enterP (tb := tb) Tryz.func67 rfl Tryz.ntmps67 rfl fun w0 => ?_
  repeat' (first | (apply R.is1; first | (apply R.isBin; first | (apply R.pure; exact rfl; first | (apply Ok1.eql_t; exact rfl; exact rfl; omega) | (apply Ok1.eql_f; exact rfl; exact rfl; omega) | (apply Ok1.eqlP; (iterate 5 exact rfl)) | (apply Ok1.eqlM; (iterate 5 exact rfl)) | (apply Ok1.eqlS; (iterate 5 exact rfl))) | (apply R.eql rfl rfl rfl <;> intro) | (apply R.eqlF; (iterate 8 exact rfl); all_goals intro)) | (apply R.pure; exact rfl; first | (apply Ok1.move; exact rfl) | (apply Ok1.fieldAddr; (iterate 5 exact rfl)) | (apply Ok1.load; exact rfl; first | (apply Ld.own1; exact rfl; exact rfl; (focus ((repeat' (first | exact At.head | apply At.tail | apply At.right)); done)); exact rfl) | (apply Ld.ownk; exact rfl; exact rfl; (focus ((repeat' (first | exact At.head | apply At.tail | apply At.right)); done)); exact rfl) | (apply Ld.old1; exact rfl; exact rfl; assumption; (first | exact List.not_mem_nil | assumption)) | (apply Ld.blk1; exact rfl; exact rfl; assumption; (first | exact List.not_mem_nil | assumption); exact rfl) | (apply Ld.blkk; exact rfl; exact rfl; assumption; (first | exact List.not_mem_nil | assumption); exact rfl)) | (apply Ok1.assign; exact rfl) | (apply Ok1.nilCheck; exact rfl) | (apply Ok1.nilCheckF; exact rfl))) | (apply R.is0; first | fail) | (apply R.isG; first | (apply R.guard_run; exact rfl; exact rfl) | (apply R.guard_not; (iterate 3 exact rfl)) | (apply R.guard_not0; exact rfl; exact rfl) | (apply R.guard_un; (iterate 3 exact rfl)) | (apply R.guard_un0; exact rfl; exact rfl) | (apply R.guard rfl rfl ?_ (fun h => ⟨rfl, ?_⟩) <;> try intro)) | apply R.nil | (apply T.is; first | apply T.seq | apply T.region | apply T.block | apply T.scope | apply T.label | apply T.skip | apply T.exit | apply T.ret | (apply T.cond_t; exact rfl) | (apply T.cond_f; exact rfl) | (apply T.cond_h; exact rfl; assumption) | (apply T.cond_n; exact rfl; assumption) | (apply T.cond rfl <;> intro)) | apply Rnd.step)
  all_goals (apply RetOk.t; exact rfl)
  all_goals rfl
theorem chboot_nil : CallP Tryz.prog 58 [.pointer none] (.int .i64 0) := by
  refine enterP (tb := tb) Tryz.func58 rfl Tryz.ntmps58 rfl fun w0 => ?_
  repeat' (first | (apply R.is1; first | (apply R.isBin; first | (apply R.pure; exact rfl; first | (apply Ok1.eql_t; exact rfl; exact rfl; omega) | (apply Ok1.eql_f; exact rfl; exact rfl; omega) | (apply Ok1.eqlP; (iterate 5 exact rfl)) | (apply Ok1.eqlM; (iterate 5 exact rfl)) | (apply Ok1.eqlS; (iterate 5 exact rfl))) | (apply R.eql rfl rfl rfl <;> intro) | (apply R.eqlF; (iterate 8 exact rfl); all_goals intro)) | (apply R.pure; exact rfl; first | (apply Ok1.move; exact rfl) | (apply Ok1.fieldAddr; (iterate 5 exact rfl)) | (apply Ok1.load; exact rfl; first | (apply Ld.own1; exact rfl; exact rfl; (focus ((repeat' (first | exact At.head | apply At.tail | apply At.right)); done)); exact rfl) | (apply Ld.ownk; exact rfl; exact rfl; (focus ((repeat' (first | exact At.head | apply At.tail | apply At.right)); done)); exact rfl) | (apply Ld.old1; exact rfl; exact rfl; assumption; (first | exact List.not_mem_nil | assumption)) | (apply Ld.blk1; exact rfl; exact rfl; assumption; (first | exact List.not_mem_nil | assumption); exact rfl) | (apply Ld.blkk; exact rfl; exact rfl; assumption; (first | exact List.not_mem_nil | assumption); exact rfl)) | (apply Ok1.assign; exact rfl) | (apply Ok1.nilCheck; exact rfl) | (apply Ok1.nilCheckF; exact rfl))) | (apply R.is0; first | fail) | (apply R.isG; first | (apply R.guard_run; exact rfl; exact rfl) | (apply R.guard_not; (iterate 3 exact rfl)) | (apply R.guard_not0; exact rfl; exact rfl) | (apply R.guard_un; (iterate 3 exact rfl)) | (apply R.guard_un0; exact rfl; exact rfl) | (apply R.guard rfl rfl ?_ (fun h => ⟨rfl, ?_⟩) <;> try intro)) | apply R.nil | (apply T.is; first | apply T.seq | apply T.region | apply T.block | apply T.scope | apply T.label | apply T.skip | apply T.exit | apply T.ret | (apply T.cond_t; exact rfl) | (apply T.cond_f; exact rfl) | (apply T.cond_h; exact rfl; assumption) | (apply T.cond_n; exact rfl; assumption) | (apply T.cond rfl <;> intro)) | apply Rnd.step)
  all_goals (apply RetOk.t; exact rfl)
  all_goals rfl
theorem chwrite_nil (k to : Int) (p : Option Addr) (n cap : Nat) : CallP Tryz.prog 59 [.pointer none, .int .i64 k, .int .i64 to, .slice p n cap] (.tuple #[.slice none 0 0, .int .i64 11]) := by
  refine enterP (tb := tb) Tryz.func59 rfl Tryz.ntmps59 rfl fun w0 => ?_
  repeat' (first | (apply R.is1; first | (apply R.isBin; first | (apply R.pure; exact rfl; first | (apply Ok1.gtr_t; exact rfl; exact rfl; omega) | (apply Ok1.gtr_f; exact rfl; exact rfl; omega) | (apply Ok1.eql_t; exact rfl; exact rfl; omega) | (apply Ok1.eql_f; exact rfl; exact rfl; omega) | (apply Ok1.neq_t; exact rfl; exact rfl; omega) | (apply Ok1.neq_f; exact rfl; exact rfl; omega) | (apply Ok1.eqlP; (iterate 5 exact rfl)) | (apply Ok1.neqP; (iterate 5 exact rfl)) | (apply Ok1.eqlM; (iterate 5 exact rfl)) | (apply Ok1.neqM; (iterate 5 exact rfl)) | (apply Ok1.eqlS; (iterate 5 exact rfl)) | (apply Ok1.neqS; (iterate 5 exact rfl))) | (apply R.gtr rfl rfl rfl <;> intro) | (apply R.eql rfl rfl rfl <;> intro) | (apply R.neq rfl rfl rfl <;> intro) | (apply R.eqlF; (iterate 8 exact rfl); all_goals intro) | (apply R.neqF; (iterate 8 exact rfl); all_goals intro)) | (apply R.isCall; first | (apply R.pure; exact rfl; first | (apply Ok1.lenS; (iterate 3 exact rfl)) | (apply Ok1.lenStr; (iterate 3 exact rfl)) | (apply Ok1.lenMm; (iterate 3 exact rfl); (focus ((repeat' (first | exact At.head | apply At.tail | apply At.right)); done))) | (apply Ok1.lenM_nil; (iterate 3 exact rfl)))) | (apply R.pure; exact rfl; first | (apply Ok1.move; exact rfl) | (apply Ok1.fieldAddr; (iterate 5 exact rfl)) | (apply Ok1.load; exact rfl; first | (apply Ld.own1; exact rfl; exact rfl; (focus ((repeat' (first | exact At.head | apply At.tail | apply At.right)); done)); exact rfl) | (apply Ld.ownk; exact rfl; exact rfl; (focus ((repeat' (first | exact At.head | apply At.tail | apply At.right)); done)); exact rfl) | (apply Ld.old1; exact rfl; exact rfl; assumption; (first | exact List.not_mem_nil | assumption)) | (apply Ld.blk1; exact rfl; exact rfl; assumption; (first | exact List.not_mem_nil | assumption); exact rfl) | (apply Ld.blkk; exact rfl; exact rfl; assumption; (first | exact List.not_mem_nil | assumption); exact rfl)) | (apply Ok1.assign; exact rfl) | (apply Ok1.build; (iterate 5 exact rfl)) | (apply Ok1.extract; exact rfl; exact rfl) | (apply Ok1.not_t; exact rfl) | (apply Ok1.not_f; exact rfl) | (apply Ok1.not; exact rfl) | (apply Ok1.nilCheck; exact rfl) | (apply Ok1.nilCheckF; exact rfl) | (apply Ok1.buildA; (iterate 6 exact rfl)) | (apply Ok1.neg; exact rfl)) | (apply R.alloc; (iterate 3 exact rfl); intro)) | (apply R.is0; first | (apply R.store; (iterate 6 exact rfl); (focus ((repeat' (first | exact Upd.head | apply Upd.tail | apply Upd.right)); done)); exact rfl) | fail) | (apply R.isG; first | (apply R.guard_run; exact rfl; exact rfl) | (apply R.guard_not; (iterate 3 exact rfl)) | (apply R.guard_not0; exact rfl; exact rfl) | (apply R.guard_un; (iterate 3 exact rfl)) | (apply R.guard_un0; exact rfl; exact rfl) | (apply R.guard rfl rfl ?_ (fun h => ⟨rfl, ?_⟩) <;> try intro)) | apply R.nil | (apply T.is; first | apply T.seq | apply T.region | apply T.block | apply T.scope | apply T.label | apply T.skip | apply T.exit | apply T.ret | (apply T.cond_t; exact rfl) | (apply T.cond_f; exact rfl) | (apply T.cond_h; exact rfl; assumption) | (apply T.cond_n; exact rfl; assumption) | (apply T.cond rfl <;> intro)) | apply Rnd.step)
  all_goals (apply RetOk.tt; exact rfl; exact rfl)
  all_goals rfl
theorem chread_nil (p : Option Addr) (n cap : Nat) (tick : Int) : CallP Tryz.prog 64 [.pointer none, .slice p n cap, .int .i64 tick, .pointer none] (.tuple #[.agg ⟨pkC 0 cl0 0 0 0 none 0 0 (zI 32)⟩, .int .i64 11]) := by
  refine enterP (tb := tb) Tryz.func64 rfl Tryz.ntmps64 rfl fun w0 => ?_
  repeat' (first | (apply R.is1; first | (apply R.isBin; first | (apply R.pure; exact rfl; first | (apply Ok1.eql_t; exact rfl; exact rfl; omega) | (apply Ok1.eql_f; exact rfl; exact rfl; omega) | (apply Ok1.neq_t; exact rfl; exact rfl; omega) | (apply Ok1.neq_f; exact rfl; exact rfl; omega) | (apply Ok1.eqlP; (iterate 5 exact rfl)) | (apply Ok1.neqP; (iterate 5 exact rfl)) | (apply Ok1.eqlM; (iterate 5 exact rfl)) | (apply Ok1.neqM; (iterate 5 exact rfl)) | (apply Ok1.eqlS; (iterate 5 exact rfl)) | (apply Ok1.neqS; (iterate 5 exact rfl))) | (apply R.eql rfl rfl rfl <;> intro) | (apply R.neq rfl rfl rfl <;> intro) | (apply R.eqlF; (iterate 8 exact rfl); all_goals intro) | (apply R.neqF; (iterate 8 exact rfl); all_goals intro)) | (apply R.pure; exact rfl; first | (apply Ok1.move; exact rfl) | (apply Ok1.fieldAddr; (iterate 5 exact rfl)) | (apply Ok1.load; exact rfl; first | (apply Ld.own1; exact rfl; exact rfl; (focus ((repeat' (first | exact At.head | apply At.tail | apply At.right)); done)); exact rfl) | (apply Ld.ownk; exact rfl; exact rfl; (focus ((repeat' (first | exact At.head | apply At.tail | apply At.right)); done)); exact rfl) | (apply Ld.old1; exact rfl; exact rfl; assumption; (first | exact List.not_mem_nil | assumption)) | (apply Ld.blk1; exact rfl; exact rfl; assumption; (first | exact List.not_mem_nil | assumption); exact rfl) | (apply Ld.blkk; exact rfl; exact rfl; assumption; (first | exact List.not_mem_nil | assumption); exact rfl)) | (apply Ok1.assign; exact rfl) | (apply Ok1.build; (iterate 5 exact rfl)) | (apply Ok1.extract; exact rfl; exact rfl) | (apply Ok1.nilCheck; exact rfl) | (apply Ok1.nilCheckF; exact rfl) | (apply Ok1.index1; (iterate 6 exact rfl); omega; omega; exact rfl) | (apply Ok1.indexk; (iterate 6 exact rfl); omega; omega; exact rfl) | (apply Ok1.buildA; (iterate 6 exact rfl))) | (apply R.alloc; (iterate 3 exact rfl); intro) | (apply R.buildSlice; (iterate 12 exact rfl); intro)) | (apply R.is0; first | (apply R.store; (iterate 6 exact rfl); (focus ((repeat' (first | exact Upd.head | apply Upd.tail | apply Upd.right)); done)); exact rfl) | fail) | (apply R.isG; first | (apply R.guard_run; exact rfl; exact rfl) | (apply R.guard_not; (iterate 3 exact rfl)) | (apply R.guard_not0; exact rfl; exact rfl) | (apply R.guard_un; (iterate 3 exact rfl)) | (apply R.guard_un0; exact rfl; exact rfl) | (apply R.guard rfl rfl ?_ (fun h => ⟨rfl, ?_⟩) <;> try intro)) | apply R.nil | (apply T.is; first | apply T.seq | apply T.region | apply T.block | apply T.scope | apply T.label | apply T.skip | apply T.exit | apply T.ret | (apply T.cond_t; exact rfl) | (apply T.cond_f; exact rfl) | (apply T.cond_h; exact rfl; assumption) | (apply T.cond_n; exact rfl; assumption) | (apply T.cond rfl <;> intro)) | apply Rnd.step)
  all_goals (apply RetOk.ct; exact rfl; (first | (apply Ld.ownk; exact rfl; exact rfl; (focus ((repeat' (first | exact At.head | apply At.tail | apply At.right)); done)); exact rfl) | (apply Ld.own1; exact rfl; exact rfl; (focus ((repeat' (first | exact At.head | apply At.tail | apply At.right)); done)); exact rfl)); exact rfl)
  all_goals rfl
theorem chNil_ok (c : Cl) (boot : Int) (p : Option Addr) (n cap : Nat) : CallP Tryz.prog 9 [kvC c, .int .i64 boot, .slice p n cap] (.bool true) := by
  have hkn := known16_ok
  have hrc := right_ok c.id c.roles c.exp c.ser
  have h1 := chring_nil
  have h2 := chbook_nil
  have h3 := chdrops_nil
  have h4 := chboot_nil
  have h5 := chwrite_nil 7 1 none 0 0
  have h6 := chread_nil p n cap 0
  by_cases hok : c.right ∧ NR boot 1
  · have hnew := fun w => chnew_ok c hok.1 (zI 32) rfl boot hok.2 w
    have hb : 0 < boot ∧ boot < 65536 := by have := hok.2; unfold NR at this; omega
    rw [decide_eq_true hok.1] at hrc
    refine enterP (tb := tb) Tryz.func9 rfl Tryz.ntmps9 rfl fun w0 => ?_
    simp only [kvC]
    repeat' (first | (apply R.is1; first | (apply R.isBin; first | (apply R.pure; exact rfl; first | (apply Ok1.eqlB2; (iterate 4 exact rfl)) | (apply Ok1.lss_t; exact rfl; exact rfl; omega) | (apply Ok1.lss_f; exact rfl; exact rfl; omega) | (apply Ok1.gtr_t; exact rfl; exact rfl; omega) | (apply Ok1.gtr_f; exact rfl; exact rfl; omega) | (apply Ok1.eql_t; exact rfl; exact rfl; omega) | (apply Ok1.eql_f; exact rfl; exact rfl; omega) | (apply Ok1.eqlP; (iterate 5 exact rfl)) | (apply Ok1.eqlM; (iterate 5 exact rfl)) | (apply Ok1.eqlS; (iterate 5 exact rfl))) | (apply R.lss rfl rfl rfl <;> intro) | (apply R.gtr rfl rfl rfl <;> intro) | (apply R.eql rfl rfl rfl <;> intro) | (apply R.eqlF; (iterate 8 exact rfl); all_goals intro)) | (apply R.isCall; first | apply R.callP rfl rfl rfl hkn | apply R.callP rfl rfl rfl hrc | apply R.callP rfl rfl rfl (to5_ok _ _ _ _) | (apply R.callE (vs := [.agg ⟨tkC c (zI 32)⟩, .int .i64 boot]); (iterate 3 exact rfl); exact Ext.none _; intro w1 hw1; exact hnew w1; rintro x Lo ⟨bc, bn, br, bb, bd, bm, m1, m2, sd, dr, rfl, rfl⟩) | apply R.callP rfl rfl rfl h1 | apply R.callP rfl rfl rfl h2 | apply R.callP rfl rfl rfl h3 | apply R.callP rfl rfl rfl h4 | apply R.callP rfl rfl rfl h5 | apply R.callP rfl rfl rfl h6) | (apply R.pure; exact rfl; first | (apply Ok1.move; exact rfl) | (apply Ok1.load; exact rfl; first | (apply Ld.own1; exact rfl; exact rfl; (focus ((repeat' (first | exact At.head | apply At.tail | apply At.right)); done)); exact rfl) | (apply Ld.ownk; exact rfl; exact rfl; (focus ((repeat' (first | exact At.head | apply At.tail | apply At.right)); done)); exact rfl) | (apply Ld.old1; exact rfl; exact rfl; assumption; (first | exact List.not_mem_nil | assumption)) | (apply Ld.blk1; exact rfl; exact rfl; assumption; (first | exact List.not_mem_nil | assumption); exact rfl) | (apply Ld.blkk; exact rfl; exact rfl; assumption; (first | exact List.not_mem_nil | assumption); exact rfl)) | (apply Ok1.assign; exact rfl) | (apply Ok1.build; (iterate 5 exact rfl)) | (apply Ok1.extract; exact rfl; exact rfl) | (apply Ok1.pick_t; exact rfl; exact rfl) | (apply Ok1.pick_f; exact rfl; exact rfl) | (apply Ok1.pick_h; exact rfl; assumption; exact rfl) | (apply Ok1.pick_n; exact rfl; assumption; exact rfl) | (apply Ok1.buildA; (iterate 6 exact rfl))) | (apply R.box; (iterate 3 exact rfl); intro) | (apply R.alloc; (iterate 3 exact rfl); intro)) | (apply R.is0; first | (apply R.store; (iterate 6 exact rfl); (focus ((repeat' (first | exact Upd.head | apply Upd.tail | apply Upd.right)); done)); exact rfl) | fail) | (apply R.isG; first | (apply R.guard_run; exact rfl; exact rfl) | (apply R.guard_not; (iterate 3 exact rfl)) | (apply R.guard_not0; exact rfl; exact rfl) | (apply R.guard_un; (iterate 3 exact rfl)) | (apply R.guard_un0; exact rfl; exact rfl) | (apply R.guard rfl rfl ?_ (fun h => ⟨rfl, ?_⟩) <;> try intro)) | apply R.nil | (apply T.is; first | apply T.seq | apply T.region | apply T.block | apply T.scope | apply T.label | apply T.skip | apply T.exit | apply T.ret | (apply T.cond_t; exact rfl) | (apply T.cond_f; exact rfl) | (apply T.cond_h; exact rfl; assumption) | (apply T.cond_n; exact rfl; assumption) | (apply T.cond rfl <;> intro)) | apply Rnd.step)
    all_goals (apply RetOk.t; exact rfl)
    all_goals rfl
  · have hnew := fun w => chnew_bad c (zI 32) rfl boot hok w
    obtain ⟨q, hq⟩ : ∃ q, q = decide c.right := ⟨_, rfl⟩
    rw [← hq] at hrc
    have hbad : q = true → ¬ (0 < boot ∧ boot < 65536) := fun g1 g2 => hok ⟨by rw [g1] at hq; exact of_decide_eq_true hq.symm, by unfold NR; omega⟩
    clear hq hok
    refine enterP (tb := tb) Tryz.func9 rfl Tryz.ntmps9 rfl fun w0 => ?_
    simp only [kvC]
    cases q
    all_goals repeat' (first | (apply R.is1; first | (apply R.isBin; first | (apply R.pure; exact rfl; first | (apply Ok1.eqlB2; (iterate 4 exact rfl)) | (apply Ok1.lss_t; exact rfl; exact rfl; omega) | (apply Ok1.lss_f; exact rfl; exact rfl; omega) | (apply Ok1.gtr_t; exact rfl; exact rfl; omega) | (apply Ok1.gtr_f; exact rfl; exact rfl; omega) | (apply Ok1.eql_t; exact rfl; exact rfl; omega) | (apply Ok1.eql_f; exact rfl; exact rfl; omega) | (apply Ok1.eqlP; (iterate 5 exact rfl)) | (apply Ok1.eqlM; (iterate 5 exact rfl)) | (apply Ok1.eqlS; (iterate 5 exact rfl))) | (apply R.lss rfl rfl rfl <;> intro) | (apply R.gtr rfl rfl rfl <;> intro) | (apply R.eql rfl rfl rfl <;> intro) | (apply R.eqlF; (iterate 8 exact rfl); all_goals intro)) | (apply R.isCall; first | apply R.callP rfl rfl rfl hkn | apply R.callP rfl rfl rfl hrc | apply R.callP rfl rfl rfl (to5_ok _ _ _ _) | (apply R.callE (vs := [.agg ⟨tkC c (zI 32)⟩, .int .i64 boot]); (iterate 3 exact rfl); exact Ext.none _; intro w1 hw1; exact hnew w1; rintro x Lo ⟨rfl, rfl⟩) | apply R.callP rfl rfl rfl h1 | apply R.callP rfl rfl rfl h2 | apply R.callP rfl rfl rfl h3 | apply R.callP rfl rfl rfl h4 | apply R.callP rfl rfl rfl h5 | apply R.callP rfl rfl rfl h6) | (apply R.pure; exact rfl; first | (apply Ok1.move; exact rfl) | (apply Ok1.load; exact rfl; first | (apply Ld.own1; exact rfl; exact rfl; (focus ((repeat' (first | exact At.head | apply At.tail | apply At.right)); done)); exact rfl) | (apply Ld.ownk; exact rfl; exact rfl; (focus ((repeat' (first | exact At.head | apply At.tail | apply At.right)); done)); exact rfl) | (apply Ld.old1; exact rfl; exact rfl; assumption; (first | exact List.not_mem_nil | assumption)) | (apply Ld.blk1; exact rfl; exact rfl; assumption; (first | exact List.not_mem_nil | assumption); exact rfl) | (apply Ld.blkk; exact rfl; exact rfl; assumption; (first | exact List.not_mem_nil | assumption); exact rfl)) | (apply Ok1.assign; exact rfl) | (apply Ok1.build; (iterate 5 exact rfl)) | (apply Ok1.extract; exact rfl; exact rfl) | (apply Ok1.pick_t; exact rfl; exact rfl) | (apply Ok1.pick_f; exact rfl; exact rfl) | (apply Ok1.pick_h; exact rfl; assumption; exact rfl) | (apply Ok1.pick_n; exact rfl; assumption; exact rfl) | (apply Ok1.buildA; (iterate 6 exact rfl))) | (apply R.box; (iterate 3 exact rfl); intro) | (apply R.alloc; (iterate 3 exact rfl); intro)) | (apply R.is0; first | (apply R.store; (iterate 6 exact rfl); (focus ((repeat' (first | exact Upd.head | apply Upd.tail | apply Upd.right)); done)); exact rfl) | fail) | (apply R.isG; first | (apply R.guard_run; exact rfl; exact rfl) | (apply R.guard_not; (iterate 3 exact rfl)) | (apply R.guard_not0; exact rfl; exact rfl) | (apply R.guard_un; (iterate 3 exact rfl)) | (apply R.guard_un0; exact rfl; exact rfl) | (apply R.guard rfl rfl ?_ (fun h => ⟨rfl, ?_⟩) <;> try intro)) | apply R.nil | (apply T.is; first | apply T.seq | apply T.region | apply T.block | apply T.scope | apply T.label | apply T.skip | apply T.exit | apply T.ret | (apply T.cond_t; exact rfl) | (apply T.cond_f; exact rfl) | (apply T.cond_h; exact rfl; assumption) | (apply T.cond_n; exact rfl; assumption) | (apply T.cond rfl <;> intro)) | apply Rnd.step)
    all_goals first | (exfalso; exact hbad rfl (by omega)) | (apply RetOk.t; exact rfl)
    all_goals rfl
end Go.Proofs.YtidjnjlejhoalaaGreat
set_option linter.unusedSimpArgs false
set_option linter.unusedVariables false
namespace Go.Proofs.YtidjnjlejhoalaaGreat
open Go.ChangeShapes Go.WideShapes Go.ChangeAt Go.RowKit
theorem ownJ : ownKnob Tryz.prog.godebug = none := by kernel_rfl
theorem laidJ : laidOutB Tryz.prog = true := by kernel_rfl
theorem and_tt {a b : Bool} (h1 : a = true) (h2 : b = true) : (a && b) = true := by rw [h1, h2]; rfl
theorem joined_of {P : Program} {f : FuncId} {fn : Func} {s : ChangeSpec} {c : OpenClaim} (k0 : (c.wf (OpenSpec.ofChange s)) = true) (k1 : (laidOutB P) = true) (k2 : (mapsRowed P) = true) (k3 : (fn.params.all (P.readableRec ·)) = true) (k4 : (namedTie P c.named s.vars) = true) (k5 : (c.stops == []) = true) (k6 : (P.stops == []) = true) (k7 : (c.knobs == []) = true) (k8 : (P.stopKnobs == []) = true) (k9 : (c.inPlace == P.inPlace f) = true) (k10 : (c.unfollowed == P.unfollowed f) = true) (k11 : (c.recurses == P.recurses f) = true) (k12 : (c.named == P.varsNamed f) = true) (k13 : (c.maps == (fn.params.toList ++ s.plain.varTypes P).any (P.mapsRec ·)) = true) (k14 : (c.ifaces == (fn.params.toList ++ s.plain.varTypes P).any (P.ifacesRec ·)) = true) (k15 : (c.mapsOut == P.mapsAmong fn.resultTypes.toList) = true) (k16 : (c.loops == (fn.params.toList ++ s.plain.varTypes P).any (P.loopsFrom ·)) = true) (k17 : (c.wideKeys == (fn.params.toList ++ s.plain.varTypes P ++ fn.resultTypes.toList).any (P.wideKeysFrom ·)) = true) (k18 : (s.vars.all (P.varReadable ·)) = true) (k19 : (fn.resultTypes.all (fun t => P.readableRec t && decide (t < P.types.size))) = true) (k20 : (c.ifacesOut == fn.resultTypes.toList.any (P.ifacesRec ·)) = true) (k21 : (c.loopsOut == fn.resultTypes.toList.any (P.loopsFrom ·)) = true) (k22 : (c.plainKeys == P.plainKeys) = true) (k23 : (c.shortTexts.isNone) = true) (k24 : (P.stopsHeard) = true) (k25 : (P.mayEnter) = true) (k26 : (c.lifted == P.liftsFinal) = true) (k27 : (P.make == some c.make) = true) (k28 : (c.kinds == (if c.domain.isEmpty then [] else fn.params.toList.map fun t => match P.underlying t with | some (.int k) => some k | _ => none)) = true) (k29 : (c.pinned == c.pinnedBy) = true) (k30 : (c.veiled == (fn.params.toList ++ s.plain.varTypes P ++ fn.resultTypes.toList).any (P.veiledRec ·)) = true) (k31 : (c.veiledFits P fn.params.toList (fn.params.toList ++ s.plain.varTypes P ++ fn.resultTypes.toList)) = true) : joinedFacts P f fn s c = true := by
  unfold joinedFacts
  exact and_tt (and_tt (and_tt (and_tt (and_tt (and_tt (and_tt (and_tt (and_tt (and_tt (and_tt (and_tt (and_tt (and_tt (and_tt (and_tt (and_tt (and_tt (and_tt (and_tt (and_tt (and_tt (and_tt (and_tt (and_tt (and_tt (and_tt (and_tt (and_tt (and_tt (and_tt (k0) k1) k2) k3) k4) k5) k6) k7) k8) k9) k10) k11) k12) k13) k14) k15) k16) k17) k18) k19) k20) k21) k22) k23) k24) k25) k26) k27) k28) k29) k30) k31
def clKsJ : List TK := [.int .i64, .int .i64, .int .i64, .int .i64]
theorem cl_decJ : ∀ cs, allW clKsJ cs → ∃ c : Cl, c.v = cs := by
  rintro cs h
  simp only [clKsJ] at h
  match cs, h with
  | [.int k1 a, .int k2 b, .int k3 c, .int k4 d], h =>
    obtain ⟨⟨rfl, _⟩, ⟨rfl, _⟩, ⟨rfl, _⟩, ⟨rfl, _⟩, _⟩ := h
    exact ⟨⟨a, b, c, d⟩, rfl⟩
def byKsJ : List TK := [.int .u8]
theorem by_decJ : ∀ cs, allW byKsJ cs → ∃ x : Int, u8V x = cs := by
  rintro cs h
  simp only [byKsJ] at h
  match cs, h with
  | [.int k1 a], h =>
    obtain ⟨⟨rfl, _⟩, _⟩ := h
    exact ⟨a, rfl⟩
end Go.Proofs.YtidjnjlejhoalaaGreat
