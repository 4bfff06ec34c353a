/- Texts of the proof: Jn1, Jn2, Cw2, Lcw, Jn3, Jn5, Jn7, Jn8, Jp5, Jn9, Ljn, Jo1. -/
import Derived.Test.YtidjnjlejhoalaaGreatL18ob5
set_option linter.unusedSimpArgs false
set_option linter.unusedVariables false
namespace Go.Proofs.YtidjnjlejhoalaaGreat
open Go.RowKit Go.Shelf
set_option maxRecDepth 100000
/-- A joiner's cells. -/
def jnC (bc : Nat) (S st sd la : Int) (q : Option Addr) (m cap : Nat) : List Value := [.pointer (some ⟨bc, 0, none⟩), .int .i64 S, .int .i64 st, .int .i64 sd, .int .i64 la, .slice q m cap]
def JN (bj bc : Nat) (S st sd la : Int) (q : Option Addr) (m cap : Nat) : Nat × Obj := (bj, .cells ⟨jnC bc S st sd la q m cap⟩ 314 (0, 0))
/-- A counter's block. -/
def CN (bn : Nat) (boot cnt : Int) : Nat × Obj := (bn, .cells ⟨[.int .i64 boot, .int .i64 cnt]⟩ 379 (0, 0))
theorem jnew_ok (bc : Nat) (S : Int) (h1 : 1 ≤ S) (h2 : S ≤ 4) (w : World) : CallM Tryz.prog 74 [.pointer (some ⟨bc, 0, none⟩), .int .i64 S] [] w fun v L => ∃ bj, v = .tuple #[.pointer (some ⟨bj, 0, none⟩), .int .i64 0] ∧ L = [JN bj bc S 0 0 0 none 0 0] := by
  refine enterK (tb := tb) Tryz.func74 rfl Tryz.ntmps74 rfl ?_
  repeat' (first | (apply R.is1; first | (apply R.isBin; (apply R.pure; exact rfl; first | (apply Ok1.eqlP; (iterate 5 exact rfl)) | (apply Ok1.lss_f; exact rfl; exact rfl; omega) | (apply Ok1.gtr_f; exact rfl; exact rfl; omega))) | (apply R.pure; exact rfl; first | (apply Ok1.move; exact rfl) | (apply Ok1.assign; exact rfl) | (apply Ok1.build; (iterate 5 exact rfl)) | (apply Ok1.pick_f; exact rfl; exact rfl)) | (apply R.box; (iterate 3 exact rfl); intro)) | (apply R.isG; (apply R.guard_run; exact rfl; exact rfl)) | apply R.nil | (apply T.is; first | apply T.seq | apply T.region | apply T.skip | apply T.ret | (apply T.cond_f; exact rfl)))
  (apply RetOk.tt; exact rfl; exact rfl)
  exact ⟨_, by unfold JN jnC; (focus ((repeat' (first | exact Keep.nil _ | exact Ext.one _ _ | apply Keep.cons)); done)), _, rfl, rfl⟩
theorem jstate_ok (bj bc : Nat) (S st sd la : Int) (q : Option Addr) (m cap : Nat) (w : World) (h : ∃ e f, w.heap[bj]? = some (.cells ⟨jnC bc S st sd la q m cap⟩ e f)) : CallW Tryz.prog 75 [.pointer (some ⟨bj, 0, none⟩)] w fun v _ => v = .int .i64 st := by
  obtain ⟨e, f, h⟩ := h
  unfold jnC at h
  refine enterW (tb := tb) Tryz.func75 rfl Tryz.ntmps75 rfl ?_
  repeat' (first | (apply R.is1; first | (apply R.isBin; (apply R.pure; exact rfl; (apply Ok1.eqlP; (iterate 5 exact rfl)))) | (apply R.pure; exact rfl; first | (apply Ok1.load; exact rfl; (apply Ld.blk1; exact rfl; exact rfl; exact h; exact List.not_mem_nil; exact rfl)) | (apply Ok1.move; exact rfl) | (apply Ok1.fieldAddr; (iterate 5 exact rfl)) | (apply Ok1.assign; exact rfl) | (apply Ok1.nilCheck; exact rfl))) | apply R.nil | (apply T.is; first | apply T.seq | apply T.region | apply T.skip | apply T.ret | (apply T.cond_f; exact rfl)))
  (apply RetOk.t; exact rfl)
  rfl
theorem jseed_ok (bj bc : Nat) (S st sd la : Int) (q : Option Addr) (m cap : Nat) (w : World) (h : ∃ e f, w.heap[bj]? = some (.cells ⟨jnC bc S st sd la q m cap⟩ e f)) : CallW Tryz.prog 86 [.pointer (some ⟨bj, 0, none⟩)] w fun v _ => v = .int .i64 sd := by
  obtain ⟨e, f, h⟩ := h
  unfold jnC at h
  refine enterW (tb := tb) Tryz.func86 rfl Tryz.ntmps86 rfl ?_
  repeat' (first | (apply R.is1; first | (apply R.isBin; (apply R.pure; exact rfl; (apply Ok1.eqlP; (iterate 5 exact rfl)))) | (apply R.pure; exact rfl; first | (apply Ok1.load; exact rfl; (apply Ld.blk1; exact rfl; exact rfl; exact h; exact List.not_mem_nil; exact rfl)) | (apply Ok1.move; exact rfl) | (apply Ok1.fieldAddr; (iterate 5 exact rfl)) | (apply Ok1.assign; exact rfl) | (apply Ok1.nilCheck; exact rfl))) | apply R.nil | (apply T.is; first | apply T.seq | apply T.region | apply T.skip | apply T.ret | (apply T.cond_f; exact rfl)))
  (apply RetOk.t; exact rfl)
  rfl
/-- What is wrong with a start. -/
def jstE (S st seed : Int) : Int := if seed < 0 ∨ S ≤ seed then 10 else if st = 3 then 11 else 0
/-- What a packet of a kind that is written holds. -/
def Wrote (c : Cl) (s : List Int) (k to boot cnt : Int) (body : List Int) (v : Value) (e : Value) (L : Lst) : Prop := ∃ ov, OvOk 1 ov (wrG c s k to boot cnt body).length (u8s (wrG c s k to boot cnt body)) ∧ v = .tuple #[slV ov (wrG c s k to boot cnt body).length, e] ∧ L = blkL 5 ov (u8s (wrG c s k to boot cnt body))
def JStart (bj bc bn : Nat) (c : Cl) (s : List Int) (S st sd la : Int) (q : Option Addr) (m cap : Nat) (boot cnt seed tick : Int) (v : Value) (L : Lst) : Prop := (jstE S st seed ≠ 0 ∧ v = .tuple #[.slice none 0 0, .int .i64 (jstE S st seed)] ∧ L = [JN bj bc S st sd la q m cap, CN bn boot cnt]) ∨ (jstE S st seed = 0 ∧ ∃ Lo, Wrote c s 1 seed boot (cnt + 1) [] v (.int .i64 0) Lo ∧ L = JN bj bc S 1 seed tick q m cap :: CN bn boot (cnt + 1) :: Lo)
theorem jstart_ok (bj bc bn br bb bd : Nat) (sd0 : List Value) (e1 : TypeId) (f1 : Nat × Nat) (c : Cl) (hr : c.right) (s : List Int) (hs : s.length = 32) (hsb : Byt s) (m1 m2 : Nat) (e : TypeId) (S st sd la : Int) (hS : S ≤ 4) (q : Option Addr) (m cap : Nat) (boot cnt : Int) (hnr : NR boot (cnt + 1)) (h0 : 0 ≤ cnt) (seed tick : Int) (w : World) (hc : w.heap[bc]? = some (.cells ⟨chC bn br bb bd sd0⟩ e1 f1)) (hb : w.heap[br]? = some (.cells ⟨ringC c s m1 m2⟩ e (0, 0))) (hne1 : bc ∉ [bj, bn]) (hne2 : br ∉ [bj, bn]) :
    CallM Tryz.prog 76 [.pointer (some ⟨bj, 0, none⟩), .int .i64 seed, .int .i64 tick] [JN bj bc S st sd la q m cap, CN bn boot cnt] w (JStart bj bc bn c s S st sd la q m cap boot cnt seed tick) := by
  simp only [List.mem_cons, List.not_mem_nil, or_false, not_or] at hne1 hne2
  by_cases hE : seed < 0 ∨ S ≤ seed
  · have hj : jstE S st seed = 10 := by unfold jstE; rw [if_pos hE]
    unfold JStart
    rw [hj]
    unfold JN jnC CN
    refine enterK (tb := tb) Tryz.func76 rfl Tryz.ntmps76 rfl ?_
    repeat' (first | (apply R.is1; first | (apply R.isBin; first | (apply R.pure; exact rfl; first | (apply Ok1.eqlP; (iterate 5 exact rfl)) | (apply Ok1.geq_t; exact rfl; exact rfl; omega)) | (apply R.lss rfl rfl rfl <;> intro)) | (apply R.pure; exact rfl; first | (apply Ok1.move; exact rfl) | (apply Ok1.fieldAddr; (iterate 5 exact rfl)) | (apply Ok1.load; exact rfl; (apply Ld.own1; exact rfl; exact rfl; exact At.head; exact rfl)) | (apply Ok1.assign; exact rfl) | (apply Ok1.pick_t; exact rfl; exact rfl) | (apply Ok1.pick_f; exact rfl; exact rfl) | (apply Ok1.nilCheck; exact rfl))) | (apply R.isG; first | (apply R.guard_run; exact rfl; exact rfl) | (apply R.guard_not; (iterate 3 exact rfl))) | apply R.nil | (apply T.is; first | apply T.seq | apply T.region | apply T.block | apply T.ret | (apply T.cond_t; exact rfl) | (apply T.cond_f; exact rfl)))
    all_goals (apply RetOk.tt; exact rfl; exact rfl)
    all_goals exact ⟨_, by (focus ((repeat' (first | exact Keep.nil _ | exact Ext.one _ _ | apply Keep.cons)); done)), .inl ⟨by decide, rfl, rfl⟩⟩
  by_cases h3 : st = 3
  · have hj : jstE S st seed = 11 := by unfold jstE; rw [if_neg hE, if_pos h3]
    unfold JStart
    rw [hj]
    unfold JN jnC CN
    refine enterK (tb := tb) Tryz.func76 rfl Tryz.ntmps76 rfl ?_
    repeat' (first | (apply R.is1; first | (apply R.isBin; (apply R.pure; exact rfl; first | (apply Ok1.eqlP; (iterate 5 exact rfl)) | (apply Ok1.lss_f; exact rfl; exact rfl; omega) | (apply Ok1.geq_f; exact rfl; exact rfl; omega) | (apply Ok1.eql_t; exact rfl; exact rfl; omega))) | (apply R.pure; exact rfl; first | (apply Ok1.move; exact rfl) | (apply Ok1.fieldAddr; (iterate 5 exact rfl)) | (apply Ok1.load; exact rfl; (apply Ld.own1; exact rfl; exact rfl; exact At.head; exact rfl)) | (apply Ok1.assign; exact rfl) | (apply Ok1.pick_f; exact rfl; exact rfl) | (apply Ok1.nilCheck; exact rfl))) | (apply R.isG; (apply R.guard_run; exact rfl; exact rfl)) | apply R.nil | (apply T.is; first | apply T.seq | apply T.region | apply T.block | apply T.ret | (apply T.cond_t; exact rfl) | (apply T.cond_f; exact rfl)))
    all_goals (apply RetOk.tt; exact rfl; exact rfl)
    all_goals exact ⟨_, by (focus ((repeat' (first | exact Keep.nil _ | exact Ext.one _ _ | apply Keep.cons)); done)), .inl ⟨by decide, rfl, rfl⟩⟩
  have hj : jstE S st seed = 0 := by unfold jstE; rw [if_neg hE, if_neg h3]
  have hw0 : wrE 1 seed 0 = 0 := by
    have : chE 1 seed = 0 := by unfold chE; rw [if_pos (by decide), if_pos (by omega)]
    unfold wrE; rw [if_neg (fun g => g this), if_neg (by decide)]
  have hwr := fun w1 (h : Chg [bj, bn] w w1) => (chwriteG bc bn br bb bd sd0 e1 f1 c hr s hs hsb m1 m2 e 1 seed boot cnt hnr h0 none 0 0 [] rfl byt_nil w1 (h.heap hc (by simpa using hne1)) (h.heap hb (by simpa using hne2)) hne1.2 hne2.2 (.inl rfl) (fun g => absurd rfl g)).wk (R' := fun v L => ∃ Lo, Wrote c s 1 seed boot (cnt + 1) [] v (.int .i64 0) Lo ∧ L = CN bn boot (cnt + 1) :: Lo) (by
    rintro v L (⟨g, _⟩ | ⟨_, ov, g1, g2, g3⟩)
    · exact absurd hw0 g
    · exact ⟨_, ⟨ov, g1, g2, rfl⟩, g3⟩)
  unfold JStart
  rw [hj]
  unfold Wrote at hwr ⊢
  generalize wrG c s 1 seed boot (cnt + 1) [] = G at *
  unfold JN jnC CN at *
  refine enterK (tb := tb) Tryz.func76 rfl Tryz.ntmps76 rfl ?_
  repeat' (first | (apply R.is1; first | (apply R.isBin; (apply R.pure; exact rfl; first | (apply Ok1.eqlP; (iterate 5 exact rfl)) | (apply Ok1.lss_f; exact rfl; exact rfl; omega) | (apply Ok1.geq_f; exact rfl; exact rfl; omega) | (apply Ok1.eql_f; exact rfl; exact rfl; omega) | (apply Ok1.neq_f; exact rfl; exact rfl; omega))) | (apply R.isCall; (apply R.callE (Li := [(bn, .cells ⟨[.int .i64 boot, .int .i64 cnt]⟩ 379 (0, 0))]) (vs := [.pointer (some ⟨bc, 0, none⟩), .int .i64 1, .int .i64 seed, .slice none 0 0]); (iterate 3 exact rfl); (focus ((repeat' (first | exact Ext.one _ _ | apply Ext.cons)); done)); intro w1 hw1; exact hwr w1 hw1.chg; rintro v Lo ⟨Lw, ⟨ovw, hovw, rfl, rfl⟩, rfl⟩)) | (apply R.pure; exact rfl; first | (apply Ok1.move; exact rfl) | (apply Ok1.fieldAddr; (iterate 5 exact rfl)) | (apply Ok1.load; exact rfl; (apply Ld.own1; exact rfl; exact rfl; exact At.head; exact rfl)) | (apply Ok1.assign; exact rfl) | (apply Ok1.extract; exact rfl; exact rfl) | (apply Ok1.pick_f; exact rfl; exact rfl) | (apply Ok1.nilCheck; exact rfl))) | (apply R.is0; (apply R.store; (iterate 6 exact rfl); (focus ((repeat' (first | exact Upd.head | apply Upd.tail | apply Upd.right)); done)); exact rfl)) | (apply R.isG; (apply R.guard_run; exact rfl; exact rfl)) | apply R.nil | (apply T.is; first | apply T.seq | apply T.region | apply T.block | apply T.skip | apply T.ret | (apply T.cond_f; exact rfl)))
  all_goals (apply RetOk.tt; exact rfl; exact rfl)
  all_goals exact ⟨_, by (focus ((repeat' (first | exact Ext.one _ _ | exact Ext.here _ _ | apply Keep.cons | apply Keep.last | apply Ext.cons | apply Ext.app)); done)), .inr ⟨rfl, _, ⟨ovw, hovw, rfl, rfl⟩, rfl⟩⟩
def JDue (bj bc bn : Nat) (c : Cl) (s : List Int) (S st sd la : Int) (q : Option Addr) (m cap : Nat) (boot cnt tick : Int) (v : Value) (L : Lst) : Prop := ((st = 0 ∨ st = 3 ∨ tick < la + 16) ∧ v = .tuple #[.slice none 0 0, .bool false] ∧ L = [JN bj bc S st sd la q m cap, CN bn boot cnt]) ∨ (¬ (st = 0 ∨ st = 3 ∨ tick < la + 16) ∧ ∃ Lo, Wrote c s 1 ((sd + 1) % S) boot (cnt + 1) [] v (.bool true) Lo ∧ L = JN bj bc S 1 ((sd + 1) % S) tick q m cap :: CN bn boot (cnt + 1) :: Lo)
theorem jdue_ok (bj bc bn br bb bd : Nat) (sd0 : List Value) (e1 : TypeId) (f1 : Nat × Nat) (c : Cl) (hr : c.right) (s : List Int) (hs : s.length = 32) (hsb : Byt s) (m1 m2 : Nat) (e : TypeId) (S st sd la : Int) (hS1 : 1 ≤ S) (hS : S ≤ 4) (hd1 : 0 ≤ sd) (hd2 : sd ≤ 1000) (hl1 : 0 ≤ la) (hl2 : la ≤ 2000000000) (q : Option Addr) (m cap : Nat) (boot cnt : Int) (hnr : NR boot (cnt + 1)) (h0 : 0 ≤ cnt) (tick : Int) (w : World) (hc : w.heap[bc]? = some (.cells ⟨chC bn br bb bd sd0⟩ e1 f1)) (hb : w.heap[br]? = some (.cells ⟨ringC c s m1 m2⟩ e (0, 0))) (hne1 : bc ∉ [bj, bn]) (hne2 : br ∉ [bj, bn]) :
    CallM Tryz.prog 82 [.pointer (some ⟨bj, 0, none⟩), .int .i64 tick] [JN bj bc S st sd la q m cap, CN bn boot cnt] w (JDue bj bc bn c s S st sd la q m cap boot cnt tick) := by
  by_cases hE : st = 0 ∨ st = 3 ∨ tick < la + 16
  · unfold JDue
    unfold JN jnC CN
    refine enterK (tb := tb) Tryz.func82 rfl Tryz.ntmps82 rfl ?_
    repeat' (first | (apply R.is1; first | (apply R.isBin; first | (apply R.pure; exact rfl; first | (apply Ok1.eqlP; (iterate 5 exact rfl)) | (apply Ok1.add64; exact rfl; exact rfl; omega; omega) | (apply Ok1.lss_t; exact rfl; exact rfl; omega)) | (apply R.eql rfl rfl rfl <;> intro)) | (apply R.pure; exact rfl; first | (apply Ok1.move; exact rfl) | (apply Ok1.fieldAddr; (iterate 5 exact rfl)) | (apply Ok1.load; exact rfl; (apply Ld.own1; exact rfl; exact rfl; exact At.head; exact rfl)) | (apply Ok1.assign; exact rfl) | (apply Ok1.pick_t; exact rfl; exact rfl) | (apply Ok1.pick_f; exact rfl; exact rfl) | (apply Ok1.nilCheck; exact rfl))) | (apply R.isG; first | (apply R.guard_run; exact rfl; exact rfl) | (apply R.guard_not; (iterate 3 exact rfl))) | apply R.nil | (apply T.is; first | apply T.seq | apply T.region | apply T.ret | (apply T.cond_t; exact rfl)))
    all_goals (apply RetOk.tt; exact rfl; exact rfl)
    all_goals exact ⟨_, by (focus ((repeat' (first | exact Keep.nil _ | exact Ext.one _ _ | apply Keep.cons)); done)), .inl ⟨hE, rfl, rfl⟩⟩
  have hm : 0 ≤ (sd + 1) % S ∧ (sd + 1) % S < S := ⟨Int.emod_nonneg _ (by omega), Int.emod_lt_of_pos _ (by omega)⟩
  have hj : jstE S st ((sd + 1) % S) = 0 := by unfold jstE; rw [if_neg (by omega), if_neg (by omega)]
  have hst := fun w1 (h : Chg [bj, bn] w w1) => (jstart_ok bj bc bn br bb bd sd0 e1 f1 c hr s hs hsb m1 m2 e S st sd la hS q m cap boot cnt hnr h0 ((sd + 1) % S) tick w1 (h.heap hc hne1) (h.heap hb hne2) hne1 hne2).wk (R' := fun v L => ∃ Lo, Wrote c s 1 ((sd + 1) % S) boot (cnt + 1) [] v (.int .i64 0) Lo ∧ L = JN bj bc S 1 ((sd + 1) % S) tick q m cap :: CN bn boot (cnt + 1) :: Lo) (by
    rintro v L (⟨g, _⟩ | ⟨_, g⟩)
    · exact absurd hj g
    · exact g)
  unfold JDue
  unfold Wrote at hst ⊢
  generalize hNS : (sd + 1) % S = NS at *
  generalize wrG c s 1 NS boot (cnt + 1) [] = G at *
  unfold JN jnC CN at *
  refine enterK (tb := tb) Tryz.func82 rfl Tryz.ntmps82 rfl ?_
  repeat' (first | (apply R.is1; first | (apply R.isBin; (apply R.pure; exact rfl; first | (apply Ok1.eqlP; (iterate 5 exact rfl)) | (apply Ok1.add64; exact rfl; exact rfl; omega; omega) | (apply Ok1.lss_f; exact rfl; exact rfl; omega) | (apply Ok1.eql_f; exact rfl; exact rfl; omega))) | (apply R.pure; exact rfl; first | (apply Ok1.move; exact rfl) | (apply Ok1.fieldAddr; (iterate 5 exact rfl)) | (apply Ok1.load; exact rfl; (apply Ld.own1; exact rfl; exact rfl; exact At.head; exact rfl)) | (apply Ok1.assign; exact rfl) | (apply Ok1.pick_f; exact rfl; exact rfl) | (apply Ok1.nilCheck; exact rfl))) | (apply R.isG; (apply R.guard_run; exact rfl; exact rfl)) | apply R.nil | (apply T.is; first | (apply T.stop1 3) | apply T.seq | apply T.region | apply T.skip | (apply T.cond_f; exact rfl)))
  all_goals refine ⟨?_⟩
  repeat' (first | (apply R.is1; first | (apply R.isBin; (apply R.pure; exact rfl; (apply Ok1.eql_t; exact rfl; exact rfl; omega))) | (apply R.pure; exact rfl; first | (apply Ok1.move; exact rfl) | (apply Ok1.assign; exact rfl))) | apply R.nil | (apply T.is; first | (apply T.drawC (id := 3) [] (by decide); ((apply A.tk 0; exact rfl; exact rfl; kernel_rfl; (apply Ok1.move; exact rfl)) <;> (apply A.tk 1; exact rfl; exact rfl; kernel_rfl; (apply Ok1.move; exact rfl)) <;> (apply A.tk 2; exact rfl; exact rfl; kernel_rfl; (apply Ok1.nilCheck; exact rfl)) <;> (apply A.tk 3; exact rfl; exact rfl; kernel_rfl; (apply Ok1.fieldAddr; (iterate 5 exact rfl))) <;> (apply A.tk 6; exact rfl; exact rfl; kernel_rfl; (apply Ok1.move; exact rfl)) <;> (apply A.tk 7; exact rfl; exact rfl; kernel_rfl; (apply Ok1.nilCheck; exact rfl)) <;> (apply A.tk 8; exact rfl; exact rfl; kernel_rfl; (apply Ok1.fieldAddr; (iterate 5 exact rfl))) <;> (apply A.tk 11; exact rfl; exact rfl; kernel_rfl; (apply Ok1.move; exact rfl)) <;> (apply A.two 4 9; kernel_rfl; exact rfl; exact rfl; rotate_left 1; (focus (((((apply R.pure; exact rfl; (apply Ok1.load; exact rfl; (apply Ld.own1; exact rfl; exact rfl; exact At.head; exact rfl))))); apply R.nil; refine ⟨?_, ?_⟩; (focus ((repeat' (exact trivial))))) <;> (apply A.one 4; kernel_rfl; exact rfl; (((apply R.pure; exact rfl; (apply Ok1.load; exact rfl; (apply Ld.own1; exact rfl; exact rfl; exact At.head; exact rfl))))); apply R.nil; refine ⟨?_, ?_⟩; (focus ((repeat' (exact trivial))))) <;> (apply A.tk 5; exact rfl; exact rfl; kernel_rfl; (apply Ok1.add64; exact rfl; exact rfl; omega; omega)) <;> (apply A.tk 10; exact rfl; exact rfl; kernel_rfl; (apply Ok1.remN; exact rfl; exact rfl; omega; omega)) <;> (apply A.one 12; kernel_rfl; exact rfl; (((apply R.callE (Li := [(bj, .cells ⟨[.pointer (some ⟨bc, 0, none⟩), .int .i64 S, .int .i64 st, .int .i64 sd, .int .i64 la, .slice q m cap]⟩ 314 (0, 0)), (bn, .cells ⟨[.int .i64 boot, .int .i64 cnt]⟩ 379 (0, 0))]) (vs := [.pointer (some ⟨bj, 0, none⟩), .int .i64 NS, .int .i64 tick]); exact rfl; (rw [← hNS]; exact rfl); exact rfl; (focus ((repeat' (exact Ext.all _)); done)); intro w1 hw1; exact hst w1 hw1.chg; rintro v Lo ⟨Lw, ⟨ovw, hovw, rfl, rfl⟩, rfl⟩))); apply R.nil; refine ⟨?_, ?_⟩; (focus ((repeat' (exact trivial))))) <;> (apply A.tk 13; exact rfl; exact rfl; kernel_rfl; (apply Ok1.move; exact rfl)) <;> (apply A.tk 14; exact rfl; exact rfl; kernel_rfl; (apply Ok1.extract; exact rfl; exact rfl)) <;> (apply A.tk 15; exact rfl; exact rfl; kernel_rfl; (apply Ok1.extract; exact rfl; exact rfl)) <;> (apply A.tk 16; exact rfl; exact rfl; kernel_rfl; (apply Ok1.assign; exact rfl)) <;> (apply A.tk 17; exact rfl; exact rfl; kernel_rfl; (apply Ok1.assign; exact rfl)) <;> (apply A.done; kernel_rfl))); rotate_right 1; (focus (((((apply R.pure; exact rfl; (apply Ok1.load; exact rfl; (apply Ld.own1; exact rfl; exact rfl; exact At.head; exact rfl))))); apply R.nil; refine ⟨?_, ?_⟩; (focus ((repeat' (exact trivial))))) <;> (apply A.tk 5; exact rfl; exact rfl; kernel_rfl; (apply Ok1.add64; exact rfl; exact rfl; omega; omega)) <;> (apply A.one 9; kernel_rfl; exact rfl; (((apply R.pure; exact rfl; (apply Ok1.load; exact rfl; (apply Ld.own1; exact rfl; exact rfl; exact At.head; exact rfl))))); apply R.nil; refine ⟨?_, ?_⟩; (focus ((repeat' (exact trivial))))) <;> (apply A.tk 10; exact rfl; exact rfl; kernel_rfl; (apply Ok1.remN; exact rfl; exact rfl; omega; omega)) <;> (apply A.one 12; kernel_rfl; exact rfl; (((apply R.callE (Li := [(bj, .cells ⟨[.pointer (some ⟨bc, 0, none⟩), .int .i64 S, .int .i64 st, .int .i64 sd, .int .i64 la, .slice q m cap]⟩ 314 (0, 0)), (bn, .cells ⟨[.int .i64 boot, .int .i64 cnt]⟩ 379 (0, 0))]) (vs := [.pointer (some ⟨bj, 0, none⟩), .int .i64 NS, .int .i64 tick]); exact rfl; (rw [← hNS]; exact rfl); exact rfl; (focus ((repeat' (exact Ext.all _)); done)); intro w1 hw1; exact hst w1 hw1.chg; rintro v Lo ⟨Lw, ⟨ovw, hovw, rfl, rfl⟩, rfl⟩))); apply R.nil; refine ⟨?_, ?_⟩; (focus ((repeat' (exact trivial))))) <;> (apply A.tk 13; exact rfl; exact rfl; kernel_rfl; (apply Ok1.move; exact rfl)) <;> (apply A.tk 14; exact rfl; exact rfl; kernel_rfl; (apply Ok1.extract; exact rfl; exact rfl)) <;> (apply A.tk 15; exact rfl; exact rfl; kernel_rfl; (apply Ok1.extract; exact rfl; exact rfl)) <;> (apply A.tk 16; exact rfl; exact rfl; kernel_rfl; (apply Ok1.assign; exact rfl)) <;> (apply A.tk 17; exact rfl; exact rfl; kernel_rfl; (apply Ok1.assign; exact rfl)) <;> (apply A.done; kernel_rfl)))))) | apply T.seq | apply T.region | apply T.ret))
  all_goals (apply RetOk.tt; exact rfl; exact rfl)
  all_goals exact ⟨_, by (focus ((repeat' (first | exact Ext.one _ _ | exact Ext.here _ _ | apply Keep.cons | apply Keep.last)); done)), .inr ⟨hE, _, ⟨ovw, hovw, rfl, rfl⟩, rfl⟩⟩
end Go.Proofs.YtidjnjlejhoalaaGreat
set_option linter.unusedSimpArgs false
set_option linter.unusedVariables false
namespace Go.Proofs.YtidjnjlejhoalaaGreat
open Go.RowKit Go.Shelf
set_option maxRecDepth 100000
theorem Hp.neT {w0 w : World} {S : List Nat} {L : Lst} {b1 b2 : Nat} {c1 c2 : Array Value} {e1 e2 : TypeId} {f1 f2 : Nat × Nat} (hw : Hp w0 S L w) (h1 : At L b1 (.cells c1 e1 f1)) (h2 : At L b2 (.cells c2 e2 f2)) (he : e1 ≠ e2) : b1 ≠ b2 := by
  rintro rfl
  have g1 := hw.get _ _ h1.mem
  have g2 := hw.get _ _ h2.mem
  rw [g1] at g2
  injection g2 with g3
  injection g3 with _ g4
  exact he g4
/-- A joiner's blocks, that its channel and ring lie there too. -/
structure JAt (L : Lst) (bj bc bn br bb bd m1 m2 : Nat) (sd0 : List Value) (c : Cl) (s : List Int) (S st sd la : Int) (q : Option Addr) (m cap : Nat) (boot cnt : Int) : Prop where
  aj : At L bj (.cells ⟨jnC bc S st sd la q m cap⟩ 314 (0, 0))
  an : At L bn (.cells ⟨[.int .i64 boot, .int .i64 cnt]⟩ 379 (0, 0))
  ac : At L bc (.cells ⟨chC bn br bb bd sd0⟩ 275 (0, 0))
  ar : At L br (.cells ⟨ringC c s m1 m2⟩ 300 (0, 0))
theorem JAt.off {L : Lst} {bj bc bn br bb bd m1 m2 : Nat} {sd0 : List Value} {c : Cl} {s : List Int} {S st sd la : Int} {q : Option Addr} {m cap : Nat} {boot cnt : Int} (h : JAt L bj bc bn br bb bd m1 m2 sd0 c s S st sd la q m cap boot cnt) {w0 w : World} {S0 : List Nat} (hw : Hp w0 S0 L w) : bc ∉ [bj, bn] ∧ br ∉ [bj, bn] := by
  have h1 := hw.neT h.ac h.aj (by decide)
  have h2 := hw.neT h.ac h.an (by decide)
  have h3 := hw.neT h.ar h.aj (by decide)
  have h4 := hw.neT h.ar h.an (by decide)
  simp only [List.mem_cons, List.not_mem_nil, or_false, not_or]
  exact ⟨⟨h1, h2⟩, h3, h4⟩
theorem known18_ok : CallP Tryz.prog 53 [] (.bool true) := by
  have hkb : Byt kch := by intro x hx; simp only [kch, List.mem_cons, List.not_mem_nil, or_false] at hx; omega
  have hkl : kch.length = 16 := rfl
  have hr : cch.right := by decide
  have hsl := secret_len kch cch
  have hsb := secret_byt kch cch
  have hmk := fun bk w1 hk => make_ok cch hr bk kch (by decide) hkb w1 hk
  have hcell : u8s kch ++ [] = [.int .u8 48, .int .u8 49, .int .u8 50, .int .u8 51, .int .u8 52, .int .u8 53, .int .u8 54, .int .u8 55, .int .u8 56, .int .u8 57, .int .u8 97, .int .u8 98, .int .u8 99, .int .u8 100, .int .u8 101, .int .u8 102] := rfl
  generalize hd : secretI kch cch = d at *
  have hnew := fun w1 => chnew_ok cch hr d hsl 1 (by unfold NR; omega) w1
  have htl := tk_len (c := cch) hsl
  have hto := tk_one cch d
  refine enterP (tb := tb) Tryz.func53 rfl Tryz.ntmps53 rfl fun w0 => ?_
  repeat' (first | (apply R.is1; first | (apply R.convSame; (iterate 6 exact rfl); exact Upd.head) | (apply R.isCall; first | (apply R.callE (vs := [.slice (some ⟨_, 0, none⟩) 16 16]); (iterate 3 exact rfl); exact Ext.none _; intro w1 hw1; exact new_ok (some ⟨_, 0, none⟩) 16 16 kch hkl.symm (by decide) w1 (RdSl.of (junk := []) hw1 (by exact At.head) (by rw [fl_u8]; exact hcell.symm)); rintro v Lo ⟨bk, ov, rfl, hov, _, rfl⟩) | (apply R.callV (vs := [.pointer (some ⟨bk, 0, none⟩), .agg _]); (iterate 3 exact rfl); intro w1 hw1; exact hmk bk w1 (KeyR.of hov hw1 (Ext.mem (by (focus ((repeat' (exact Ext.here _ _)); done)))))) | (apply R.callE (vs := [.agg ⟨tkC cch d⟩, .int .i64 1]); (iterate 3 exact rfl); exact Ext.none _; intro w1 hw1; exact hnew w1; rintro v Lo ⟨bc, bn, br, bb, bd, bm, m1, m2, sd, dr, rfl, rfl⟩; unfold ChL RL0)) | (apply R.pure; exact rfl; first | (apply Ok1.load; exact rfl; (apply Ld.ownk; exact rfl; exact rfl; exact At.head; exact subE_all htl)) | (apply Ok1.move; exact rfl) | (apply Ok1.assign; exact rfl) | (apply Ok1.build; (iterate 5 exact rfl)) | (apply Ok1.extract; exact rfl; exact rfl)) | (apply R.alloc; (iterate 3 exact rfl); intro) | (apply R.buildSlice; (iterate 12 exact rfl); intro)) | (apply R.is0; (apply R.store; (iterate 4 exact rfl); exact htl; exact hto; exact Upd.head; exact setE_all htl)) | apply R.nil | (apply T.is; first | (apply T.stop1 3) | apply T.seq | apply T.region))
  rename_i bt
  refine ⟨?_⟩
  refine T.weakK (σ' := [(2, .int .i64 0), (3, .pointer (some ⟨bc, 0, none⟩)), (4, .int .i64 0)]) (L' := [(bn, .cells ⟨[.int .i64 1, .int .i64 0]⟩ 379 (0, 0)), (bc, .cells ⟨chC bn br bb bd sd⟩ 275 (0, 0)), (br, .cells ⟨ringC cch d m1 m2⟩ 300 (0, 0))]) ?_ (by simp only [List.cons_append, List.nil_append, List.append_assoc]; (focus ((repeat' (first | exact Keep.nil _ | exact Ext.one _ _ | apply Keep.cons | apply Ext.cons)); done))) ⟨rfl, rfl, rfl, trivial⟩
  have hjn := fun w1 => jnew_ok bc 2 (by decide) (by decide) w1
  unfold JN at hjn
  have hst := fun bj L S0 w1 (hw : Hp w0 S0 L w1) (h : JAt L bj bc bn br bb bd m1 m2 sd cch d 2 0 0 0 none 0 0 1 0) => (jstart_ok bj bc bn br bb bd sd 275 (0, 0) cch hr d hsl hsb m1 m2 300 2 0 0 0 (by decide) none 0 0 1 0 (by unfold NR; omega) (by decide) 0 5 w1 (hw.get _ _ h.ac.mem) (hw.get _ _ h.ar.mem) (h.off hw).1 (h.off hw).2).wk (R' := fun v L => ∃ Lo, Wrote cch d 1 0 1 1 [] v (.int .i64 0) Lo ∧ L = JN bj bc 2 1 0 5 none 0 0 :: CN bn 1 1 :: Lo) (by
    rintro v L (⟨g, _⟩ | ⟨_, g⟩)
    · exact absurd (by decide) g
    · exact g)
  have hd0 := fun bj L S0 w1 (hw : Hp w0 S0 L w1) (h : JAt L bj bc bn br bb bd m1 m2 sd cch d 2 1 0 5 none 0 0 1 1) => (jdue_ok bj bc bn br bb bd sd 275 (0, 0) cch hr d hsl hsb m1 m2 300 2 1 0 5 (by decide) (by decide) (by decide) (by decide) (by decide) (by decide) none 0 0 1 1 (by unfold NR; omega) (by decide) 20 w1 (hw.get _ _ h.ac.mem) (hw.get _ _ h.ar.mem) (h.off hw).1 (h.off hw).2).wk (R' := fun v L => v = .tuple #[.slice none 0 0, .bool false] ∧ L = [JN bj bc 2 1 0 5 none 0 0, CN bn 1 1]) (by
    rintro v L (⟨_, g⟩ | ⟨g, _⟩)
    · exact g
    · exact absurd (by decide) g)
  have hd1 := fun bj L S0 w1 (hw : Hp w0 S0 L w1) (h : JAt L bj bc bn br bb bd m1 m2 sd cch d 2 1 0 5 none 0 0 1 1) => (jdue_ok bj bc bn br bb bd sd 275 (0, 0) cch hr d hsl hsb m1 m2 300 2 1 0 5 (by decide) (by decide) (by decide) (by decide) (by decide) (by decide) none 0 0 1 1 (by unfold NR; omega) (by decide) 21 w1 (hw.get _ _ h.ac.mem) (hw.get _ _ h.ar.mem) (h.off hw).1 (h.off hw).2).wk (R' := fun v L => ∃ Lo, Wrote cch d 1 1 1 2 [] v (.bool true) Lo ∧ L = JN bj bc 2 1 1 21 none 0 0 :: CN bn 1 2 :: Lo) (by
    rintro v L (⟨g, _⟩ | ⟨_, g⟩)
    · exact absurd g (by decide)
    · exact g)
  have hsd := fun bj w1 h => jseed_ok bj bc 2 1 1 21 none 0 0 w1 h
  unfold JN CN at hst hd0 hd1
  unfold Wrote at hst hd1
  generalize hG0 : wrG cch d 1 0 1 1 [] = G0 at *
  generalize hG1 : wrG cch d 1 1 1 2 [] = G1 at *
  repeat' (first | (apply R.is1; first | (apply R.isBin; (apply R.pure; exact rfl; (apply Ok1.eql_t; exact rfl; exact rfl; omega))) | (apply R.isCall; first | (apply R.callE (vs := [.pointer (some ⟨bc, 0, none⟩), .int .i64 2]); (iterate 3 exact rfl); exact Ext.none _; intro w1 hw1; exact hjn w1; rintro v Lo ⟨bj, rfl, rfl⟩) | (apply R.callE (Li := [(bj, .cells ⟨jnC bc 2 0 0 0 none 0 0⟩ 314 (0, 0)), (bn, .cells ⟨[.int .i64 1, .int .i64 0]⟩ 379 (0, 0))]) (vs := [.pointer (some ⟨bj, 0, none⟩), .int .i64 0, .int .i64 5]); (iterate 3 exact rfl); exact Ext.two _ (by (focus ((repeat' (exact Ext.one _ _)); done))) (by (focus ((repeat' (exact Ext.one _ _)); done))); intro w1 hw1; exact hst bj _ _ w1 hw1 ⟨by exact At.head, by (focus ((repeat' (first | exact At.head | apply At.tail)); done)), by (focus ((repeat' (first | exact At.head | apply At.tail)); done)), by (focus ((repeat' (first | exact At.head | apply At.tail)); done))⟩; rintro v Lo ⟨Lw, ⟨ovw, hovw, rfl, rfl⟩, rfl⟩) | (apply R.callE (Li := [(bj, .cells ⟨jnC bc 2 1 0 5 none 0 0⟩ 314 (0, 0)), (bn, .cells ⟨[.int .i64 1, .int .i64 1]⟩ 379 (0, 0))]) (vs := [.pointer (some ⟨bj, 0, none⟩), .int .i64 20]); (iterate 3 exact rfl); exact Ext.two _ (by (focus ((repeat' (exact Ext.one _ _)); done))) (by (focus ((repeat' (exact Ext.one _ _)); done))); intro w1 hw1; exact hd0 bj _ _ w1 hw1 ⟨by exact At.head, by (focus ((repeat' (first | exact At.head | apply At.tail)); done)), by (focus ((repeat' (first | exact At.head | apply At.tail | apply At.right)); done)), by (focus ((repeat' (first | exact At.head | apply At.tail | apply At.right)); done))⟩; rintro v Lo ⟨rfl, rfl⟩) | (apply R.callE (Li := [(bj, .cells ⟨jnC bc 2 1 0 5 none 0 0⟩ 314 (0, 0)), (bn, .cells ⟨[.int .i64 1, .int .i64 1]⟩ 379 (0, 0))]) (vs := [.pointer (some ⟨bj, 0, none⟩), .int .i64 21]); (iterate 3 exact rfl); exact Ext.two _ (by (focus ((repeat' (exact Ext.one _ _)); done))) (by (focus ((repeat' (exact Ext.one _ _)); done))); intro w1 hw1; exact hd1 bj _ _ w1 hw1 ⟨by exact At.head, by (focus ((repeat' (first | exact At.head | apply At.tail)); done)), by (focus ((repeat' (first | exact At.head | apply At.tail | apply At.right)); done)), by (focus ((repeat' (first | exact At.head | apply At.tail | apply At.right)); done))⟩; rintro v Lo ⟨Lw2, ⟨ovw2, hovw2, rfl, rfl⟩, rfl⟩) | (apply R.callV (vs := [.pointer (some ⟨bj, 0, none⟩)]); (iterate 3 exact rfl); intro w1 hw1; exact hsd bj w1 ⟨_, _, hw1.get _ _ (At.mem (by exact At.head))⟩)) | (apply R.pure; exact rfl; first | (apply Ok1.move; exact rfl) | (apply Ok1.assign; exact rfl) | (apply Ok1.extract; exact rfl; exact rfl) | (apply Ok1.pick_t; exact rfl; exact rfl) | (apply Ok1.not_f; exact rfl))) | (apply R.isG; (apply R.guard_run; exact rfl; exact rfl)) | apply R.nil | (apply T.is; first | apply T.seq | apply T.region | apply T.ret))
  all_goals (apply RetOk.t; exact rfl)
  all_goals rfl
end Go.Proofs.YtidjnjlejhoalaaGreat
set_option linter.unusedSimpArgs false
set_option linter.unusedVariables false
namespace Go.Proofs.YtidjnjlejhoalaaGreat
open Go.RowKit Go.Shelf
set_option maxRecDepth 100000
/-- A letter that is to be written. -/
structure LT where
  k : Int
  to : Int
  p : Option Addr
  cap : Nat
  xs : List Int
instance : Inhabited LT := ⟨⟨0, 0, none, 0, []⟩⟩
def LT.v (x : LT) : List Value := [.int .i64 x.k, .int .i64 x.to, .slice x.p x.xs.length x.cap]
end Go.Proofs.YtidjnjlejhoalaaGreat
set_option linter.unusedSimpArgs false
set_option linter.unusedVariables false
namespace Go.Proofs.YtidjnjlejhoalaaGreat
open Go.ChangeShapes Go.WideShapes Go.ChangeAt Go.RowKit
theorem int1_decJ {cs : List Value} (h : allW [.int .i64] cs) : ∃ a : Int, cs = [.int .i64 a] := by
  match cs, h with
  | [.int k1 a], h =>
    obtain ⟨⟨rfl, _⟩, _⟩ := h
    exact ⟨a, rfl⟩
section
variable {H : Type} {enc : TypeId × Value → H} {w : World} {base : Nat} {spare : Nat → Bool} {held : Bool}
theorem u8_opensJ : Opens enc Tryz.prog w base spare held 5 fun cs => ∃ x : Int, u8V x = cs ∧ (0 ≤ x ∧ x ≤ 255) :=
  (Opens.flat (ks := [.int .u8]) tb rfl rfl rfl).mono fun cs h => by
    match cs, h with
    | [.int k1 a], h =>
      obtain ⟨⟨rfl, h2⟩, _⟩ := h
      have e0 : IntKind.u8.min = 0 := rfl
      have e1 : IntKind.u8.max = 255 := rfl
      exact ⟨a, rfl, by omega⟩
end
end Go.Proofs.YtidjnjlejhoalaaGreat
set_option linter.unusedSimpArgs false
set_option linter.unusedVariables false
namespace Go.Proofs.YtidjnjlejhoalaaGreat
open Go.RowKit Go.Shelf
set_option maxRecDepth 100000
section
variable {X : Cx} {σ : Env} {L : Lst} {ty t : TypeId} {pos : String} {af : Array Edge} {x y : Operand} {r : TRow} {ty2 : TypeId} {d : Option Nat} {g : Option (Nat × Bool)}
theorem Ok1.eqlFn0 {f : FuncId} (ht : X.tb.row t = some r) (hk : r.k = .fn) (hx : ev σ x = some (.func (.func f) #[] #[])) (hy : ev σ y = some .nilFunc) : Ok1 X ⟨d, .binOp .eql t x y ty2, ty, pos, af, g⟩ σ L (.bool false) := .mk fun a w ha hw => by
  obtain ⟨ps, rs, vv, h⟩ : ∃ ps rs v, X.P.underlying t = some (.func ps rs v) := by have := (X.tb.get ht).is; rw [hk] at this; exact this
  rw [eqlop_run (b := false) (ha.ev hx) (ha.ev hy) (fun _ e => by cases e) (fun e => by cases e) rfl fun d => by simp [Op.equalIn, run_underlying h]]
theorem Ok1.eqlFn1 (ht : X.tb.row t = some r) (hk : r.k = .fn) (hx : ev σ x = some .nilFunc) (hy : ev σ y = some .nilFunc) : Ok1 X ⟨d, .binOp .eql t x y ty2, ty, pos, af, g⟩ σ L (.bool true) := .mk fun a w ha hw => by
  obtain ⟨ps, rs, vv, h⟩ : ∃ ps rs v, X.P.underlying t = some (.func ps rs v) := by have := (X.tb.get ht).is; rw [hk] at this; exact this
  rw [eqlop_run (b := true) (ha.ev hx) (ha.ev hy) (fun _ e => by cases e) (fun e => by cases e) rfl fun d => by simp [Op.equalIn, run_underlying h]]
end
theorem wrE_up {k sd : Int} {n : Nat} (hk : wayI k = 1) (h0 : 0 ≤ sd) (h1 : sd ≤ 3) (hn : n ≤ 512) : wrE k sd n = 0 := by
  have : chE k sd = 0 := by unfold chE; rw [if_pos hk, if_pos ⟨h0, h1⟩]
  unfold wrE; rw [if_neg (fun g => g this), if_neg (by omega)]
/-- What a channel writes up to a seed. -/
theorem chwrite_up (bc bn br bb bd : Nat) (sd0 : List Value) (e1 : TypeId) (f1 : Nat × Nat) (c : Cl) (hr : c.right) (s : List Int) (hs : s.length = 32) (hsb : Byt s) (m1 m2 : Nat) (e : TypeId) (k sd : Int) (hk : wayI k = 1) (hd0 : 0 ≤ sd) (hd1 : sd ≤ 3) (boot cnt : Int) (hnr : NR boot (cnt + 1)) (h0 : 0 ≤ cnt) (p : Option Addr) (n cap : Nat) (body : List Int) (hn : n = body.length) (hn5 : n ≤ 512) (hbb : Byt body) (w : World) (hc : w.heap[bc]? = some (.cells ⟨chC bn br bb bd sd0⟩ e1 f1)) (hb : w.heap[br]? = some (.cells ⟨ringC c s m1 m2⟩ e (0, 0))) (hne1 : bc ≠ bn) (hne2 : br ≠ bn) (hbd : RdSl w p u8V body) (hq : body ≠ [] → Off p [bn]) :
    CallM Tryz.prog 59 [.pointer (some ⟨bc, 0, none⟩), .int .i64 k, .int .i64 sd, .slice p n cap] [CN bn boot cnt] w fun v L => ∃ Lo, Wrote c s k sd boot (cnt + 1) body v (.int .i64 0) Lo ∧ L = CN bn boot (cnt + 1) :: Lo := by
  have hw := wrE_up (n := n) hk hd0 hd1 hn5
  refine (chwriteG bc bn br bb bd sd0 e1 f1 c hr s hs hsb m1 m2 e k sd boot cnt hnr h0 p n cap body hn hbb w hc hb hne1 hne2 hbd hq).wk ?_
  rintro v L (⟨g, _⟩ | ⟨_, ov, g1, g2, g3⟩)
  · exact absurd hw g
  · exact ⟨_, ⟨ov, g1, g2, rfl⟩, g3⟩
def JLeave (bj bc bn : Nat) (c : Cl) (s : List Int) (S st sd la : Int) (q : Option Addr) (m cap : Nat) (boot cnt : Int) (v : Value) (L : Lst) : Prop := (st ≠ 3 ∧ v = .tuple #[.slice none 0 0, .int .i64 11] ∧ L = [JN bj bc S st sd la q m cap, CN bn boot cnt]) ∨ (st = 3 ∧ ∃ Lo, Wrote c s 14 sd boot (cnt + 1) [] v (.int .i64 0) Lo ∧ L = JN bj bc S 0 sd la q m cap :: CN bn boot (cnt + 1) :: Lo)
theorem jleave_ok (bj bc bn br bb bd : Nat) (sd0 : List Value) (e1 : TypeId) (f1 : Nat × Nat) (c : Cl) (hr : c.right) (s : List Int) (hs : s.length = 32) (hsb : Byt s) (m1 m2 : Nat) (e : TypeId) (S st sd la : Int) (hd0 : 0 ≤ sd) (hd1 : sd ≤ 3) (q : Option Addr) (m cap : Nat) (boot cnt : Int) (hnr : NR boot (cnt + 1)) (h0 : 0 ≤ cnt) (w : World) (hc : w.heap[bc]? = some (.cells ⟨chC bn br bb bd sd0⟩ e1 f1)) (hb : w.heap[br]? = some (.cells ⟨ringC c s m1 m2⟩ e (0, 0))) (hne1 : bc ∉ [bj, bn]) (hne2 : br ∉ [bj, bn]) :
    CallM Tryz.prog 84 [.pointer (some ⟨bj, 0, none⟩)] [JN bj bc S st sd la q m cap, CN bn boot cnt] w (JLeave bj bc bn c s S st sd la q m cap boot cnt) := by
  by_cases h3 : st = 3
  case neg =>
    unfold JLeave JN jnC CN
    refine enterK (tb := tb) Tryz.func84 rfl Tryz.ntmps84 rfl ?_
    repeat' (first | (apply R.is1; first | (apply R.isBin; (apply R.pure; exact rfl; first | (apply Ok1.eqlP; (iterate 5 exact rfl)) | (apply Ok1.neq_t; exact rfl; exact rfl; omega))) | (apply R.pure; exact rfl; first | (apply Ok1.move; exact rfl) | (apply Ok1.fieldAddr; (iterate 5 exact rfl)) | (apply Ok1.load; exact rfl; (apply Ld.own1; exact rfl; exact rfl; exact At.head; exact rfl)) | (apply Ok1.assign; exact rfl) | (apply Ok1.pick_f; exact rfl; exact rfl) | (apply Ok1.nilCheck; exact rfl))) | (apply R.isG; (apply R.guard_run; exact rfl; exact rfl)) | apply R.nil | (apply T.is; first | apply T.seq | apply T.region | apply T.ret | (apply T.cond_t; exact rfl)))
    all_goals (apply RetOk.tt; exact rfl; exact rfl)
    all_goals exact ⟨_, by (focus ((repeat' (first | exact Keep.nil _ | exact Ext.one _ _ | apply Keep.cons)); done)), .inl ⟨h3, rfl, rfl⟩⟩
  subst h3
  simp only [List.mem_cons, List.not_mem_nil, or_false, not_or] at hne1 hne2
  have hwr := fun w1 (h : Chg [bj, bn] w w1) => chwrite_up bc bn br bb bd sd0 e1 f1 c hr s hs hsb m1 m2 e 14 sd (by decide) hd0 hd1 boot cnt hnr h0 none 0 0 [] rfl (by decide) byt_nil w1 (h.heap hc (by simpa using hne1)) (h.heap hb (by simpa using hne2)) hne1.2 hne2.2 (.inl rfl) (fun g => absurd rfl g)
  unfold JLeave
  unfold Wrote at hwr ⊢
  generalize wrG c s 14 sd boot (cnt + 1) [] = G at *
  unfold JN jnC CN at *
  refine enterK (tb := tb) Tryz.func84 rfl Tryz.ntmps84 rfl ?_
  repeat' (first | (apply R.is1; first | (apply R.isBin; (apply R.pure; exact rfl; first | (apply Ok1.eqlP; (iterate 5 exact rfl)) | (apply Ok1.neq_f; exact rfl; exact rfl; omega))) | (apply R.pure; exact rfl; first | (apply Ok1.move; exact rfl) | (apply Ok1.fieldAddr; (iterate 5 exact rfl)) | (apply Ok1.load; exact rfl; (apply Ld.own1; exact rfl; exact rfl; exact At.head; exact rfl)) | (apply Ok1.assign; exact rfl) | (apply Ok1.pick_f; exact rfl; exact rfl) | (apply Ok1.nilCheck; exact rfl))) | (apply R.is0; (apply R.store; (iterate 6 exact rfl); (focus ((repeat' (first | exact Upd.head | apply Upd.tail | apply Upd.right)); done)); exact rfl)) | (apply R.isG; (apply R.guard_run; exact rfl; exact rfl)) | apply R.nil | (apply T.is; first | (apply T.drawC (id := 3) [0] (by decide); ((apply A.tk 0; exact rfl; exact rfl; kernel_rfl; (apply Ok1.move; exact rfl)) <;> (apply A.tk 1; exact rfl; exact rfl; kernel_rfl; (apply Ok1.nilCheck; exact rfl)) <;> (apply A.tk 2; exact rfl; exact rfl; kernel_rfl; (apply Ok1.fieldAddr; (iterate 5 exact rfl))) <;> (apply A.tk 3; exact rfl; exact rfl; kernel_rfl; (apply Ok1.load; exact rfl; (apply Ld.own1; exact rfl; exact rfl; exact At.head; exact rfl))) <;> (apply A.tk 4; exact rfl; exact rfl; kernel_rfl; (apply Ok1.move; exact rfl)) <;> (apply A.tk 5; exact rfl; exact rfl; kernel_rfl; (apply Ok1.nilCheck; exact rfl)) <;> (apply A.tk 6; exact rfl; exact rfl; kernel_rfl; (apply Ok1.fieldAddr; (iterate 5 exact rfl))) <;> (apply A.tk 7; exact rfl; exact rfl; kernel_rfl; (apply Ok1.load; exact rfl; (apply Ld.own1; exact rfl; exact rfl; exact At.head; exact rfl))) <;> (apply A.one 8; kernel_rfl; exact rfl; (((apply R.callE (Li := [(bn, .cells ⟨[.int .i64 boot, .int .i64 cnt]⟩ 379 (0, 0))]) (vs := [.pointer (some ⟨bc, 0, none⟩), .int .i64 14, .int .i64 sd, .slice none 0 0]); (iterate 3 exact rfl); (focus ((repeat' (first | exact Ext.one _ _ | apply Ext.cons)); done)); intro w1 hw1; exact hwr w1 hw1.chg; rintro v Lo ⟨Lw, ⟨ovw, hovw, rfl, rfl⟩, rfl⟩))); apply R.nil; refine ⟨?_, ?_⟩; (focus ((repeat' (first | exact trivial | (refine ⟨?_, ?_⟩; (focus ((repeat' (first | exact At.head | apply At.tail | apply At.right)); done)))))))) <;> (apply A.tk 9; exact rfl; exact rfl; kernel_rfl; (apply Ok1.move; exact rfl)) <;> (apply A.tk 10; exact rfl; exact rfl; kernel_rfl; (apply Ok1.extract; exact rfl; exact rfl)) <;> (apply A.tk 11; exact rfl; exact rfl; kernel_rfl; (apply Ok1.extract; exact rfl; exact rfl)) <;> (apply A.tk 12; exact rfl; exact rfl; kernel_rfl; (apply Ok1.assign; exact rfl)) <;> (apply A.tk 13; exact rfl; exact rfl; kernel_rfl; (apply Ok1.assign; exact rfl)) <;> (apply A.done; kernel_rfl))) | apply T.seq | apply T.region | apply T.skip | apply T.ret | (apply T.cond_f; exact rfl)))
  all_goals (apply RetOk.tt; exact rfl; exact rfl)
  all_goals exact ⟨_, by (focus ((repeat' (first | exact Ext.one _ _ | exact Ext.here _ _ | apply Keep.cons | apply Keep.last | apply Ext.cons | apply Ext.app)); done)), .inr ⟨rfl, _, ⟨ovw, hovw, rfl, rfl⟩, rfl⟩⟩
/-- What a Cookie makes of a joiner. -/
def JCook (bj bc bn : Nat) (c : Cl) (s : List Int) (S st sd la : Int) (q : Option Addr) (m cap : Nat) (boot cnt to tick : Int) (n : Nat) (body : List Int) (v : Value) (L : Lst) : Prop :=
  ((st ≠ 1 ∨ to ≠ sd) ∧ v = .tuple #[.slice none 0 0, .int .i64 11] ∧ L = [JN bj bc S st sd la q m cap, CN bn boot cnt]) ∨ ((st = 1 ∧ to = sd) ∧ n ≠ 16 ∧ v = .tuple #[.slice none 0 0, .int .i64 3] ∧ L = [JN bj bc S st sd la q m cap, CN bn boot cnt]) ∨ ((st = 1 ∧ to = sd) ∧ n = 16 ∧ ∃ Lo, Wrote c s 3 sd boot (cnt + 1) body v (.int .i64 0) Lo ∧ L = JN bj bc S 2 sd tick q m cap :: CN bn boot (cnt + 1) :: Lo)
theorem jcookie_ok (bj bc bn br bb bd : Nat) (sd0 : List Value) (e1 : TypeId) (f1 : Nat × Nat) (c : Cl) (hr : c.right) (s : List Int) (hs : s.length = 32) (hsb : Byt s) (m1 m2 : Nat) (e : TypeId) (S st sd la : Int) (hd0 : 0 ≤ sd) (hd1 : sd ≤ 3) (q : Option Addr) (m cap : Nat) (boot cnt : Int) (hnr : NR boot (cnt + 1)) (h0 : 0 ≤ cnt) (k : Int) (c2 : Cl) (to a b : Int) (p : Option Addr) (n pc : Nat) (t body : List Int) (ht : t.length = 32) (hn : n = body.length) (hbb : Byt body) (tick : Int) (w : World) (hp : RdSl w p u8V body) (hq : body ≠ [] → Off p [bj, bn]) (hc : w.heap[bc]? = some (.cells ⟨chC bn br bb bd sd0⟩ e1 f1)) (hb : w.heap[br]? = some (.cells ⟨ringC c s m1 m2⟩ e (0, 0))) (hne1 : bc ∉ [bj, bn]) (hne2 : br ∉ [bj, bn]) :
    CallM Tryz.prog 242 [.pointer (some ⟨bj, 0, none⟩), .agg ⟨pkC k c2 to a b p n pc t⟩, .int .i64 tick] [JN bj bc S st sd la q m cap, CN bn boot cnt] w (JCook bj bc bn c s S st sd la q m cap boot cnt to tick n body) := by
  simp only [List.mem_cons, List.not_mem_nil, or_false, not_or] at hne1 hne2
  by_cases h1 : st = 1 ∧ to = sd
  case neg =>
    unfold JCook JN jnC CN pkC
    refine enterK (tb := tb) Tryz.func242 rfl Tryz.ntmps242 rfl ?_
    repeat' (first | (apply R.is1; first | (apply R.pure; exact rfl; (apply Ok1.assign; exact rfl)) | (apply R.box; (iterate 3 exact rfl); intro)) | apply R.nil | (apply T.is; first | (apply T.drawC (id := 1) [0,1] (by decide); ((apply A.tk 0; exact rfl; exact rfl; kernel_rfl; (apply Ok1.move; exact rfl)) <;> (apply A.tk 1; exact rfl; exact rfl; kernel_rfl; (apply Ok1.nilCheck; exact rfl)) <;> (apply A.tk 2; exact rfl; exact rfl; kernel_rfl; (apply Ok1.fieldAddr; (iterate 5 exact rfl))) <;> (apply A.tk 3; exact rfl; exact rfl; kernel_rfl; (apply Ok1.load; exact rfl; (apply Ld.own1; exact rfl; exact rfl; (focus ((repeat' (first | exact At.head | apply At.tail)); done)); exact rfl))) <;> ((apply A.tk 4; exact rfl; exact rfl; kernel_rfl; ((apply Ok1.neq; exact rfl; exact rfl)); apply A.dec (t := 15); exact rfl; all_goals intro)) <;> (apply A.tk 5; exact rfl; exact rfl; kernel_rfl; (apply Ok1.move; exact rfl)) <;> (first | (apply A.skipG 6; exact rfl; exact rfl; rotate_left 3; exact rfl; exact rfl; rotate_right 3; kernel_rfl; kernel_rfl; kernel_rfl) | (apply A.takeG 6; exact rfl; exact rfl; rotate_left 3; exact rfl; exact rfl; rotate_right 3; kernel_rfl; kernel_rfl; kernel_rfl; (apply Ok1.fieldAddr; (iterate 5 exact rfl)))) <;> (first | (apply A.skipG 7; exact rfl; exact rfl; rotate_left 3; exact rfl; exact rfl; rotate_right 3; kernel_rfl; kernel_rfl; kernel_rfl) | (apply A.takeG 7; exact rfl; exact rfl; rotate_left 3; exact rfl; exact rfl; rotate_right 3; kernel_rfl; kernel_rfl; kernel_rfl; (apply Ok1.load; exact rfl; (apply Ld.own1; exact rfl; exact rfl; exact At.head; exact rfl)))) <;> (first | (apply A.skipG 8; exact rfl; exact rfl; rotate_left 3; exact rfl; exact rfl; rotate_right 3; kernel_rfl; kernel_rfl; kernel_rfl) | (apply A.takeG 8; exact rfl; exact rfl; rotate_left 3; exact rfl; exact rfl; rotate_right 3; kernel_rfl; kernel_rfl; kernel_rfl; (apply Ok1.move; exact rfl))) <;> (first | (apply A.skipG 9; exact rfl; exact rfl; rotate_left 3; exact rfl; exact rfl; rotate_right 3; kernel_rfl; kernel_rfl; kernel_rfl) | (apply A.takeG 9; exact rfl; exact rfl; rotate_left 3; exact rfl; exact rfl; rotate_right 3; kernel_rfl; kernel_rfl; kernel_rfl; (apply Ok1.nilCheck; exact rfl))) <;> (first | (apply A.skipG 10; exact rfl; exact rfl; rotate_left 3; exact rfl; exact rfl; rotate_right 3; kernel_rfl; kernel_rfl; kernel_rfl) | (apply A.takeG 10; exact rfl; exact rfl; rotate_left 3; exact rfl; exact rfl; rotate_right 3; kernel_rfl; kernel_rfl; kernel_rfl; (apply Ok1.fieldAddr; (iterate 5 exact rfl)))) <;> (first | (apply A.skipG 11; exact rfl; exact rfl; rotate_left 3; exact rfl; exact rfl; rotate_right 3; kernel_rfl; kernel_rfl; kernel_rfl) | (apply A.takeG 11; exact rfl; exact rfl; rotate_left 3; exact rfl; exact rfl; rotate_right 3; kernel_rfl; kernel_rfl; kernel_rfl; (apply Ok1.load; exact rfl; (apply Ld.own1; exact rfl; exact rfl; (focus ((repeat' (first | exact At.head | apply At.tail)); done)); exact rfl)))) <;> (first | (apply A.skipG 12; exact rfl; exact rfl; rotate_left 3; exact rfl; exact rfl; rotate_right 3; kernel_rfl; kernel_rfl; kernel_rfl) | (apply A.takeG 12; exact rfl; exact rfl; rotate_left 3; exact rfl; exact rfl; rotate_right 3; kernel_rfl; kernel_rfl; kernel_rfl; (apply Ok1.neq_t; exact rfl; exact rfl; omega))) <;> (apply A.tk 13; exact rfl; exact rfl; kernel_rfl; first | (apply Ok1.pick_t; exact rfl; exact rfl) | (apply Ok1.pick_f; exact rfl; exact rfl)) <;> (apply A.tk 14; exact rfl; exact rfl; kernel_rfl; (apply Ok1.assign; exact rfl)) <;> (apply A.done; kernel_rfl))) | apply T.seq | apply T.region | apply T.block | apply T.ret | (apply T.cond_t; exact rfl)))
    all_goals (apply RetOk.tt; exact rfl; exact rfl)
    all_goals exact ⟨_, by (focus ((repeat' (first | exact Keep.nil _ | exact Ext.one _ _ | apply Keep.cons | apply Ext.cons)); done)), .inl ⟨by omega, rfl, rfl⟩⟩
  obtain ⟨rfl, rfl⟩ := h1
  by_cases h16 : n = 16
  case neg =>
    have h16' : (n : Int) ≠ 16 := by omega
    unfold JCook JN jnC CN pkC
    refine enterK (tb := tb) Tryz.func242 rfl Tryz.ntmps242 rfl ?_
    repeat' (first | (apply R.is1; first | (apply R.isBin; (apply R.pure; exact rfl; (apply Ok1.neq_t; exact rfl; exact rfl; omega))) | (apply R.isCall; (apply R.pure; exact rfl; (apply Ok1.lenS; (iterate 3 exact rfl)))) | (apply R.pure; exact rfl; first | (apply Ok1.fieldAddr; (iterate 5 exact rfl)) | (apply Ok1.load; exact rfl; (apply Ld.own1; exact rfl; exact rfl; exact At.head; exact rfl)) | (apply Ok1.assign; exact rfl)) | (apply R.box; (iterate 3 exact rfl); intro)) | apply R.nil | (apply T.is; first | (apply T.drawC (id := 1) [0,1] (by decide); ((apply A.tk 0; exact rfl; exact rfl; kernel_rfl; (apply Ok1.move; exact rfl)) <;> (apply A.tk 1; exact rfl; exact rfl; kernel_rfl; (apply Ok1.nilCheck; exact rfl)) <;> (apply A.tk 2; exact rfl; exact rfl; kernel_rfl; (apply Ok1.fieldAddr; (iterate 5 exact rfl))) <;> (apply A.tk 3; exact rfl; exact rfl; kernel_rfl; (apply Ok1.load; exact rfl; (apply Ld.own1; exact rfl; exact rfl; (focus ((repeat' (first | exact At.head | apply At.tail)); done)); exact rfl))) <;> ((apply A.tk 4; exact rfl; exact rfl; kernel_rfl; (apply Ok1.neq_f; exact rfl; exact rfl; omega))) <;> (apply A.tk 5; exact rfl; exact rfl; kernel_rfl; (apply Ok1.move; exact rfl)) <;> ((apply A.takeG 6; exact rfl; exact rfl; rotate_left 3; exact rfl; exact rfl; rotate_right 3; kernel_rfl; kernel_rfl; kernel_rfl; (apply Ok1.fieldAddr; (iterate 5 exact rfl)))) <;> ((apply A.takeG 7; exact rfl; exact rfl; rotate_left 3; exact rfl; exact rfl; rotate_right 3; kernel_rfl; kernel_rfl; kernel_rfl; (apply Ok1.load; exact rfl; (apply Ld.own1; exact rfl; exact rfl; exact At.head; exact rfl)))) <;> ((apply A.takeG 8; exact rfl; exact rfl; rotate_left 3; exact rfl; exact rfl; rotate_right 3; kernel_rfl; kernel_rfl; kernel_rfl; (apply Ok1.move; exact rfl))) <;> ((apply A.takeG 9; exact rfl; exact rfl; rotate_left 3; exact rfl; exact rfl; rotate_right 3; kernel_rfl; kernel_rfl; kernel_rfl; (apply Ok1.nilCheck; exact rfl))) <;> ((apply A.takeG 10; exact rfl; exact rfl; rotate_left 3; exact rfl; exact rfl; rotate_right 3; kernel_rfl; kernel_rfl; kernel_rfl; (apply Ok1.fieldAddr; (iterate 5 exact rfl)))) <;> ((apply A.takeG 11; exact rfl; exact rfl; rotate_left 3; exact rfl; exact rfl; rotate_right 3; kernel_rfl; kernel_rfl; kernel_rfl; (apply Ok1.load; exact rfl; (apply Ld.own1; exact rfl; exact rfl; (focus ((repeat' (first | exact At.head | apply At.tail)); done)); exact rfl)))) <;> ((apply A.takeG 12; exact rfl; exact rfl; rotate_left 3; exact rfl; exact rfl; rotate_right 3; kernel_rfl; kernel_rfl; kernel_rfl; (apply Ok1.neq_f; exact rfl; exact rfl; omega))) <;> (apply A.tk 13; exact rfl; exact rfl; kernel_rfl; (apply Ok1.pick_f; exact rfl; exact rfl)) <;> (apply A.tk 14; exact rfl; exact rfl; kernel_rfl; (apply Ok1.assign; exact rfl)) <;> (apply A.done; kernel_rfl))) | apply T.seq | apply T.region | apply T.block | apply T.ret | (apply T.cond_t; exact rfl) | (apply T.cond_f; exact rfl)))
    all_goals (apply RetOk.tt; exact rfl; exact rfl)
    all_goals exact ⟨_, by (focus ((repeat' (first | exact Keep.nil _ | exact Ext.one _ _ | apply Keep.cons | apply Ext.cons)); done)), .inr (.inl ⟨⟨rfl, rfl⟩, h16, rfl, rfl⟩)⟩
  subst h16
  have hwr := fun w1 (h : Chg [bj, bn] w w1) => chwrite_up bc bn br bb bd sd0 e1 f1 c hr s hs hsb m1 m2 e 3 to (by decide) hd0 hd1 boot cnt hnr h0 p 16 pc body hn (by decide) hbb w1 (h.heap hc (by simpa using hne1)) (h.heap hb (by simpa using hne2)) hne1.2 hne2.2 (hp.chg' h hq) (fun g a ha => by have := hq g a ha; simp only [List.mem_cons, List.not_mem_nil, or_false, not_or] at this ⊢; exact this.2)
  unfold JCook
  unfold Wrote at hwr ⊢
  generalize wrG c s 3 to boot (cnt + 1) body = G at *
  unfold JN jnC CN at *
  unfold pkC
  refine enterK (tb := tb) Tryz.func242 rfl Tryz.ntmps242 rfl ?_
  repeat' (first | (apply R.is1; first | (apply R.isBin; (apply R.pure; exact rfl; (apply Ok1.neq_f; exact rfl; exact rfl; omega))) | (apply R.isCall; (apply R.pure; exact rfl; (apply Ok1.lenS; (iterate 3 exact rfl)))) | (apply R.pure; exact rfl; first | (apply Ok1.move; exact rfl) | (apply Ok1.fieldAddr; (iterate 5 exact rfl)) | (apply Ok1.load; exact rfl; (apply Ld.own1; exact rfl; exact rfl; exact At.head; exact rfl)) | (apply Ok1.assign; exact rfl) | (apply Ok1.nilCheck; exact rfl)) | (apply R.box; (iterate 3 exact rfl); intro)) | (apply R.is0; (apply R.store; (iterate 6 exact rfl); (focus ((repeat' (first | exact Upd.head | apply Upd.tail | apply Upd.right)); done)); exact rfl)) | apply R.nil | (apply T.is; first | (apply T.drawC (id := 1) [0,1] (by decide); ((apply A.tk 0; exact rfl; exact rfl; kernel_rfl; (apply Ok1.move; exact rfl)) <;> (apply A.tk 1; exact rfl; exact rfl; kernel_rfl; (apply Ok1.nilCheck; exact rfl)) <;> (apply A.tk 2; exact rfl; exact rfl; kernel_rfl; (apply Ok1.fieldAddr; (iterate 5 exact rfl))) <;> (apply A.tk 3; exact rfl; exact rfl; kernel_rfl; (apply Ok1.load; exact rfl; (apply Ld.own1; exact rfl; exact rfl; (focus ((repeat' (first | exact At.head | apply At.tail)); done)); exact rfl))) <;> ((apply A.tk 4; exact rfl; exact rfl; kernel_rfl; (apply Ok1.neq_f; exact rfl; exact rfl; omega))) <;> (apply A.tk 5; exact rfl; exact rfl; kernel_rfl; (apply Ok1.move; exact rfl)) <;> ((apply A.takeG 6; exact rfl; exact rfl; rotate_left 3; exact rfl; exact rfl; rotate_right 3; kernel_rfl; kernel_rfl; kernel_rfl; (apply Ok1.fieldAddr; (iterate 5 exact rfl)))) <;> ((apply A.takeG 7; exact rfl; exact rfl; rotate_left 3; exact rfl; exact rfl; rotate_right 3; kernel_rfl; kernel_rfl; kernel_rfl; (apply Ok1.load; exact rfl; (apply Ld.own1; exact rfl; exact rfl; exact At.head; exact rfl)))) <;> ((apply A.takeG 8; exact rfl; exact rfl; rotate_left 3; exact rfl; exact rfl; rotate_right 3; kernel_rfl; kernel_rfl; kernel_rfl; (apply Ok1.move; exact rfl))) <;> ((apply A.takeG 9; exact rfl; exact rfl; rotate_left 3; exact rfl; exact rfl; rotate_right 3; kernel_rfl; kernel_rfl; kernel_rfl; (apply Ok1.nilCheck; exact rfl))) <;> ((apply A.takeG 10; exact rfl; exact rfl; rotate_left 3; exact rfl; exact rfl; rotate_right 3; kernel_rfl; kernel_rfl; kernel_rfl; (apply Ok1.fieldAddr; (iterate 5 exact rfl)))) <;> ((apply A.takeG 11; exact rfl; exact rfl; rotate_left 3; exact rfl; exact rfl; rotate_right 3; kernel_rfl; kernel_rfl; kernel_rfl; (apply Ok1.load; exact rfl; (apply Ld.own1; exact rfl; exact rfl; (focus ((repeat' (first | exact At.head | apply At.tail)); done)); exact rfl)))) <;> ((apply A.takeG 12; exact rfl; exact rfl; rotate_left 3; exact rfl; exact rfl; rotate_right 3; kernel_rfl; kernel_rfl; kernel_rfl; (apply Ok1.neq_f; exact rfl; exact rfl; omega))) <;> (apply A.tk 13; exact rfl; exact rfl; kernel_rfl; (apply Ok1.pick_f; exact rfl; exact rfl)) <;> (apply A.tk 14; exact rfl; exact rfl; kernel_rfl; (apply Ok1.assign; exact rfl)) <;> (apply A.done; kernel_rfl))) | (apply T.drawC (id := 5) [0,1] (by decide); ((apply A.tk 0; exact rfl; exact rfl; kernel_rfl; (apply Ok1.move; exact rfl)) <;> (apply A.tk 1; exact rfl; exact rfl; kernel_rfl; (apply Ok1.nilCheck; exact rfl)) <;> (apply A.tk 2; exact rfl; exact rfl; kernel_rfl; (apply Ok1.fieldAddr; (iterate 5 exact rfl))) <;> (apply A.tk 3; exact rfl; exact rfl; kernel_rfl; (apply Ok1.load; exact rfl; (apply Ld.own1; exact rfl; exact rfl; (focus ((repeat' (first | exact At.head | apply At.tail)); done)); exact rfl))) <;> (apply A.tk 4; exact rfl; exact rfl; kernel_rfl; (apply Ok1.move; exact rfl)) <;> (apply A.tk 5; exact rfl; exact rfl; kernel_rfl; (apply Ok1.nilCheck; exact rfl)) <;> (apply A.tk 6; exact rfl; exact rfl; kernel_rfl; (apply Ok1.fieldAddr; (iterate 5 exact rfl))) <;> (apply A.tk 7; exact rfl; exact rfl; kernel_rfl; (apply Ok1.load; exact rfl; (apply Ld.own1; exact rfl; exact rfl; (focus ((repeat' (first | exact At.head | apply At.tail)); done)); exact rfl))) <;> (apply A.tk 8; exact rfl; exact rfl; kernel_rfl; (apply Ok1.fieldAddr; (iterate 5 exact rfl))) <;> (apply A.tk 9; exact rfl; exact rfl; kernel_rfl; (apply Ok1.load; exact rfl; (apply Ld.own1; exact rfl; exact rfl; exact At.head; exact rfl))) <;> (apply A.one 10; kernel_rfl; exact rfl; (((apply R.callE (Li := [(bn, .cells ⟨[.int .i64 boot, .int .i64 cnt]⟩ 379 (0, 0))]) (vs := [.pointer (some ⟨bc, 0, none⟩), .int .i64 3, .int .i64 to, .slice p 16 pc]); (iterate 3 exact rfl); (focus ((repeat' (first | exact Ext.one _ _ | apply Ext.cons)); done)); intro w1 hw1; exact hwr w1 hw1.chg; rintro v Lo ⟨Lw, ⟨ovw, hovw, rfl, rfl⟩, rfl⟩))); apply R.nil; refine ⟨?_, ?_⟩; (focus ((repeat' (first | exact trivial | (refine ⟨?_, ?_⟩; (focus ((repeat' (first | exact At.head | apply At.tail | apply At.right)); done)))))))) <;> (apply A.tk 11; exact rfl; exact rfl; kernel_rfl; (apply Ok1.move; exact rfl)) <;> (apply A.tk 12; exact rfl; exact rfl; kernel_rfl; (apply Ok1.extract; exact rfl; exact rfl)) <;> (apply A.tk 13; exact rfl; exact rfl; kernel_rfl; (apply Ok1.extract; exact rfl; exact rfl)) <;> (apply A.tk 14; exact rfl; exact rfl; kernel_rfl; (apply Ok1.assign; exact rfl)) <;> (apply A.tk 15; exact rfl; exact rfl; kernel_rfl; (apply Ok1.assign; exact rfl)) <;> (apply A.done; kernel_rfl))) | apply T.seq | apply T.region | apply T.block | apply T.skip | apply T.ret | (apply T.cond_f; exact rfl)))
  all_goals (apply RetOk.tt; exact rfl; exact rfl)
  all_goals exact ⟨_, by (focus ((repeat' (first | exact Ext.one _ _ | exact Ext.here _ _ | apply Keep.cons | apply Keep.last | apply Ext.cons | apply Ext.app)); done)), .inr (.inr ⟨⟨rfl, rfl⟩, rfl, _, ⟨ovw, hovw, rfl, rfl⟩, rfl⟩)⟩
/-- What an Admit makes of a joiner. -/
def JAdm (bj bc : Nat) (S st sd la : Int) (q : Option Addr) (m cap : Nat) (to tick : Int) (body : List Int) (v : Value) (L : Lst) : Prop :=
  ((st ≠ 2 ∨ to ≠ sd) ∧ v = .tuple #[.slice none 0 0, .int .i64 11] ∧ L = [JN bj bc S st sd la q m cap]) ∨ ((st = 2 ∧ to = sd) ∧ (rdJ (R0 body)).2 ≠ 0 ∧ v = .tuple #[.slice none 0 0, .int .i64 3] ∧ L = [JN bj bc S st sd la q m cap]) ∨ ((st = 2 ∧ to = sd) ∧ (rdJ (R0 body)).2 = 0 ∧ v = .tuple #[.slice none 0 0, .int .i64 0] ∧ ∃ ov, OvOk 4 ov (rdJ (R0 body)).1.length (fl Cl.v (rdJ (R0 body)).1) ∧ L = JN bj bc S 3 sd tick (ovp ov) (rdJ (R0 body)).1.length (ovc ov (rdJ (R0 body)).1.length) :: blkL 40 ov (fl Cl.v (rdJ (R0 body)).1))
theorem jadmit_ok (bj bc : Nat) (S st sd la : Int) (q : Option Addr) (m cap : Nat) (k : Int) (c2 : Cl) (to a b : Int) (p : Option Addr) (n pc : Nat) (t body : List Int) (ht : t.length = 32) (hn : n = body.length) (hn5 : n ≤ 1024) (hbb : Byt body) (tick : Int) (w : World) (hp : RdSl w p u8V body) (hq : body ≠ [] → Off p [bj]) :
    CallM Tryz.prog 243 [.pointer (some ⟨bj, 0, none⟩), .agg ⟨pkC k c2 to a b p n pc t⟩, .int .i64 tick] [JN bj bc S st sd la q m cap] w (JAdm bj bc S st sd la q m cap to tick body) := by
  by_cases h1 : st = 2 ∧ to = sd
  case neg =>
    unfold JAdm JN jnC pkC
    refine enterK (tb := tb) Tryz.func243 rfl Tryz.ntmps243 rfl ?_
    repeat' (first | (apply R.is1; first | (apply R.pure; exact rfl; (apply Ok1.assign; exact rfl)) | (apply R.box; (iterate 3 exact rfl); intro)) | apply R.nil | (apply T.is; first | (apply T.drawC (id := 1) [0,1] (by decide); ((apply A.tk 0; exact rfl; exact rfl; kernel_rfl; (apply Ok1.move; exact rfl)) <;> (apply A.tk 1; exact rfl; exact rfl; kernel_rfl; (apply Ok1.nilCheck; exact rfl)) <;> (apply A.tk 2; exact rfl; exact rfl; kernel_rfl; (apply Ok1.fieldAddr; (iterate 5 exact rfl))) <;> (apply A.tk 3; exact rfl; exact rfl; kernel_rfl; (apply Ok1.load; exact rfl; (apply Ld.own1; exact rfl; exact rfl; (focus ((repeat' (first | exact At.head | apply At.tail)); done)); exact rfl))) <;> ((apply A.tk 4; exact rfl; exact rfl; kernel_rfl; ((apply Ok1.neq; exact rfl; exact rfl)); apply A.dec (t := 14); exact rfl; all_goals intro)) <;> (apply A.tk 5; exact rfl; exact rfl; kernel_rfl; (apply Ok1.move; exact rfl)) <;> (first | (apply A.skipG 6; exact rfl; exact rfl; rotate_left 3; exact rfl; exact rfl; rotate_right 3; kernel_rfl; kernel_rfl; kernel_rfl) | (apply A.takeG 6; exact rfl; exact rfl; rotate_left 3; exact rfl; exact rfl; rotate_right 3; kernel_rfl; kernel_rfl; kernel_rfl; (apply Ok1.fieldAddr; (iterate 5 exact rfl)))) <;> (first | (apply A.skipG 7; exact rfl; exact rfl; rotate_left 3; exact rfl; exact rfl; rotate_right 3; kernel_rfl; kernel_rfl; kernel_rfl) | (apply A.takeG 7; exact rfl; exact rfl; rotate_left 3; exact rfl; exact rfl; rotate_right 3; kernel_rfl; kernel_rfl; kernel_rfl; (apply Ok1.load; exact rfl; (apply Ld.own1; exact rfl; exact rfl; exact At.head; exact rfl)))) <;> (first | (apply A.skipG 8; exact rfl; exact rfl; rotate_left 3; exact rfl; exact rfl; rotate_right 3; kernel_rfl; kernel_rfl; kernel_rfl) | (apply A.takeG 8; exact rfl; exact rfl; rotate_left 3; exact rfl; exact rfl; rotate_right 3; kernel_rfl; kernel_rfl; kernel_rfl; (apply Ok1.move; exact rfl))) <;> (first | (apply A.skipG 9; exact rfl; exact rfl; rotate_left 3; exact rfl; exact rfl; rotate_right 3; kernel_rfl; kernel_rfl; kernel_rfl) | (apply A.takeG 9; exact rfl; exact rfl; rotate_left 3; exact rfl; exact rfl; rotate_right 3; kernel_rfl; kernel_rfl; kernel_rfl; (apply Ok1.nilCheck; exact rfl))) <;> (first | (apply A.skipG 10; exact rfl; exact rfl; rotate_left 3; exact rfl; exact rfl; rotate_right 3; kernel_rfl; kernel_rfl; kernel_rfl) | (apply A.takeG 10; exact rfl; exact rfl; rotate_left 3; exact rfl; exact rfl; rotate_right 3; kernel_rfl; kernel_rfl; kernel_rfl; (apply Ok1.fieldAddr; (iterate 5 exact rfl)))) <;> (first | (apply A.skipG 11; exact rfl; exact rfl; rotate_left 3; exact rfl; exact rfl; rotate_right 3; kernel_rfl; kernel_rfl; kernel_rfl) | (apply A.takeG 11; exact rfl; exact rfl; rotate_left 3; exact rfl; exact rfl; rotate_right 3; kernel_rfl; kernel_rfl; kernel_rfl; (apply Ok1.load; exact rfl; (apply Ld.own1; exact rfl; exact rfl; (focus ((repeat' (first | exact At.head | apply At.tail)); done)); exact rfl)))) <;> (first | (apply A.skipG 12; exact rfl; exact rfl; rotate_left 3; exact rfl; exact rfl; rotate_right 3; kernel_rfl; kernel_rfl; kernel_rfl) | (apply A.takeG 12; exact rfl; exact rfl; rotate_left 3; exact rfl; exact rfl; rotate_right 3; kernel_rfl; kernel_rfl; kernel_rfl; (apply Ok1.neq_t; exact rfl; exact rfl; omega))) <;> (apply A.tk 13; exact rfl; exact rfl; kernel_rfl; first | (apply Ok1.pick_t; exact rfl; exact rfl) | (apply Ok1.pick_f; exact rfl; exact rfl)) <;> (apply A.done; kernel_rfl))) | apply T.seq | apply T.region | apply T.ret | (apply T.cond_t; exact rfl)))
    all_goals (apply RetOk.tt; exact rfl; exact rfl)
    all_goals exact ⟨_, by (focus ((repeat' (first | exact Keep.nil _ | exact Ext.one _ _ | apply Keep.cons | apply Ext.cons)); done)), .inl ⟨by omega, rfl, rfl⟩⟩
  obtain ⟨rfl, rfl⟩ := h1
  have hrd := fun w1 (h : Chg [bj] w w1) => jread0_ok p n pc body hn hn5 hbb w1 (hp.chg' h hq)
  unfold JAdm JN jnC pkC
  generalize rdJ (R0 body) = J at *
  obtain ⟨js, je⟩ := J
  dsimp only at hrd ⊢
  by_cases he : je = 0
  · subst he
    refine enterK (tb := tb) Tryz.func243 rfl Tryz.ntmps243 rfl ?_
    repeat' (first | (apply R.is1; first | (apply R.isBin; (apply R.pure; exact rfl; (apply Ok1.neq_f; exact rfl; exact rfl; omega))) | (apply R.isCall; (apply R.callE (vs := [.slice p n pc]); (iterate 3 exact rfl); exact Ext.none _; intro w1 hw1; exact hrd w1 hw1.chg; rintro v Lo ⟨ovj, hovj, rfl, rfl⟩; rw [slV_eq hovj])) | (apply R.pure; exact rfl; first | (apply Ok1.move; exact rfl) | (apply Ok1.fieldAddr; (iterate 5 exact rfl)) | (apply Ok1.load; exact rfl; (apply Ld.own1; exact rfl; exact rfl; exact At.head; exact rfl)) | (apply Ok1.assign; exact rfl) | (apply Ok1.extract; exact rfl; exact rfl) | (apply Ok1.nilCheck; exact rfl)) | (apply R.box; (iterate 3 exact rfl); intro)) | (apply R.is0; (apply R.store; (iterate 6 exact rfl); (focus ((repeat' (first | exact Upd.head | apply Upd.tail | apply Upd.right)); done)); exact rfl)) | apply R.nil | (apply T.is; first | (apply T.drawC (id := 1) [0,1] (by decide); ((apply A.tk 0; exact rfl; exact rfl; kernel_rfl; (apply Ok1.move; exact rfl)) <;> (apply A.tk 1; exact rfl; exact rfl; kernel_rfl; (apply Ok1.nilCheck; exact rfl)) <;> (apply A.tk 2; exact rfl; exact rfl; kernel_rfl; (apply Ok1.fieldAddr; (iterate 5 exact rfl))) <;> (apply A.tk 3; exact rfl; exact rfl; kernel_rfl; (apply Ok1.load; exact rfl; (apply Ld.own1; exact rfl; exact rfl; (focus ((repeat' (first | exact At.head | apply At.tail)); done)); exact rfl))) <;> ((apply A.tk 4; exact rfl; exact rfl; kernel_rfl; (apply Ok1.neq_f; exact rfl; exact rfl; omega))) <;> (apply A.tk 5; exact rfl; exact rfl; kernel_rfl; (apply Ok1.move; exact rfl)) <;> ((apply A.takeG 6; exact rfl; exact rfl; rotate_left 3; exact rfl; exact rfl; rotate_right 3; kernel_rfl; kernel_rfl; kernel_rfl; (apply Ok1.fieldAddr; (iterate 5 exact rfl)))) <;> ((apply A.takeG 7; exact rfl; exact rfl; rotate_left 3; exact rfl; exact rfl; rotate_right 3; kernel_rfl; kernel_rfl; kernel_rfl; (apply Ok1.load; exact rfl; (apply Ld.own1; exact rfl; exact rfl; exact At.head; exact rfl)))) <;> ((apply A.takeG 8; exact rfl; exact rfl; rotate_left 3; exact rfl; exact rfl; rotate_right 3; kernel_rfl; kernel_rfl; kernel_rfl; (apply Ok1.move; exact rfl))) <;> ((apply A.takeG 9; exact rfl; exact rfl; rotate_left 3; exact rfl; exact rfl; rotate_right 3; kernel_rfl; kernel_rfl; kernel_rfl; (apply Ok1.nilCheck; exact rfl))) <;> ((apply A.takeG 10; exact rfl; exact rfl; rotate_left 3; exact rfl; exact rfl; rotate_right 3; kernel_rfl; kernel_rfl; kernel_rfl; (apply Ok1.fieldAddr; (iterate 5 exact rfl)))) <;> ((apply A.takeG 11; exact rfl; exact rfl; rotate_left 3; exact rfl; exact rfl; rotate_right 3; kernel_rfl; kernel_rfl; kernel_rfl; (apply Ok1.load; exact rfl; (apply Ld.own1; exact rfl; exact rfl; (focus ((repeat' (first | exact At.head | apply At.tail)); done)); exact rfl)))) <;> ((apply A.takeG 12; exact rfl; exact rfl; rotate_left 3; exact rfl; exact rfl; rotate_right 3; kernel_rfl; kernel_rfl; kernel_rfl; (apply Ok1.neq_f; exact rfl; exact rfl; omega))) <;> (apply A.tk 13; exact rfl; exact rfl; kernel_rfl; (apply Ok1.pick_f; exact rfl; exact rfl)) <;> (apply A.done; kernel_rfl))) | apply T.seq | apply T.region | apply T.skip | apply T.ret | (apply T.cond_f; exact rfl)))
    all_goals (apply RetOk.tt; exact rfl; exact rfl)
    all_goals exact ⟨_, by (focus ((repeat' (first | exact Ext.one _ _ | exact Ext.here _ _ | apply Keep.cons | apply Keep.last | apply Ext.cons | apply Ext.app)); done)), .inr (.inr ⟨⟨rfl, rfl⟩, rfl, rfl, ovj, hovj, rfl⟩)⟩
  · refine enterK (tb := tb) Tryz.func243 rfl Tryz.ntmps243 rfl ?_
    repeat' (first | (apply R.is1; first | (apply R.isBin; (apply R.pure; exact rfl; (apply Ok1.neq_t; exact rfl; exact rfl; omega))) | (apply R.isCall; (apply R.callE (vs := [.slice p n pc]); (iterate 3 exact rfl); exact Ext.none _; intro w1 hw1; exact hrd w1 hw1.chg; rintro v Lo ⟨ovj, hovj, rfl, rfl⟩; rw [slV_eq hovj])) | (apply R.pure; exact rfl; first | (apply Ok1.move; exact rfl) | (apply Ok1.fieldAddr; (iterate 5 exact rfl)) | (apply Ok1.load; exact rfl; (apply Ld.own1; exact rfl; exact rfl; exact At.head; exact rfl)) | (apply Ok1.assign; exact rfl) | (apply Ok1.extract; exact rfl; exact rfl)) | (apply R.box; (iterate 3 exact rfl); intro)) | apply R.nil | (apply T.is; first | (apply T.drawC (id := 1) [0,1] (by decide); ((apply A.tk 0; exact rfl; exact rfl; kernel_rfl; (apply Ok1.move; exact rfl)) <;> (apply A.tk 1; exact rfl; exact rfl; kernel_rfl; (apply Ok1.nilCheck; exact rfl)) <;> (apply A.tk 2; exact rfl; exact rfl; kernel_rfl; (apply Ok1.fieldAddr; (iterate 5 exact rfl))) <;> (apply A.tk 3; exact rfl; exact rfl; kernel_rfl; (apply Ok1.load; exact rfl; (apply Ld.own1; exact rfl; exact rfl; (focus ((repeat' (first | exact At.head | apply At.tail)); done)); exact rfl))) <;> ((apply A.tk 4; exact rfl; exact rfl; kernel_rfl; (apply Ok1.neq_f; exact rfl; exact rfl; omega))) <;> (apply A.tk 5; exact rfl; exact rfl; kernel_rfl; (apply Ok1.move; exact rfl)) <;> ((apply A.takeG 6; exact rfl; exact rfl; rotate_left 3; exact rfl; exact rfl; rotate_right 3; kernel_rfl; kernel_rfl; kernel_rfl; (apply Ok1.fieldAddr; (iterate 5 exact rfl)))) <;> ((apply A.takeG 7; exact rfl; exact rfl; rotate_left 3; exact rfl; exact rfl; rotate_right 3; kernel_rfl; kernel_rfl; kernel_rfl; (apply Ok1.load; exact rfl; (apply Ld.own1; exact rfl; exact rfl; exact At.head; exact rfl)))) <;> ((apply A.takeG 8; exact rfl; exact rfl; rotate_left 3; exact rfl; exact rfl; rotate_right 3; kernel_rfl; kernel_rfl; kernel_rfl; (apply Ok1.move; exact rfl))) <;> ((apply A.takeG 9; exact rfl; exact rfl; rotate_left 3; exact rfl; exact rfl; rotate_right 3; kernel_rfl; kernel_rfl; kernel_rfl; (apply Ok1.nilCheck; exact rfl))) <;> ((apply A.takeG 10; exact rfl; exact rfl; rotate_left 3; exact rfl; exact rfl; rotate_right 3; kernel_rfl; kernel_rfl; kernel_rfl; (apply Ok1.fieldAddr; (iterate 5 exact rfl)))) <;> ((apply A.takeG 11; exact rfl; exact rfl; rotate_left 3; exact rfl; exact rfl; rotate_right 3; kernel_rfl; kernel_rfl; kernel_rfl; (apply Ok1.load; exact rfl; (apply Ld.own1; exact rfl; exact rfl; (focus ((repeat' (first | exact At.head | apply At.tail)); done)); exact rfl)))) <;> ((apply A.takeG 12; exact rfl; exact rfl; rotate_left 3; exact rfl; exact rfl; rotate_right 3; kernel_rfl; kernel_rfl; kernel_rfl; (apply Ok1.neq_f; exact rfl; exact rfl; omega))) <;> (apply A.tk 13; exact rfl; exact rfl; kernel_rfl; (apply Ok1.pick_f; exact rfl; exact rfl)) <;> (apply A.done; kernel_rfl))) | apply T.seq | apply T.region | apply T.skip | apply T.ret | (apply T.cond_t; exact rfl) | (apply T.cond_f; exact rfl)))
    all_goals (apply RetOk.tt; exact rfl; exact rfl)
    all_goals exact ⟨_, by (focus ((repeat' (first | exact Keep.nil _ | exact Ext.one _ _ | apply Keep.cons | apply Ext.cons | apply Ext.app)); done)), .inr (.inl ⟨⟨rfl, rfl⟩, he, rfl, rfl⟩)⟩
end Go.Proofs.YtidjnjlejhoalaaGreat
set_option linter.unusedSimpArgs false
set_option linter.unusedVariables false
namespace Go.Proofs.YtidjnjlejhoalaaGreat
open Go.RowKit Go.Shelf
set_option maxRecDepth 100000
/-- What comes of a packet of a kind: the answer's error, or the next state. -/
def jtkE (st sd k to : Int) (body : List Int) : Int := if k = 2 then (if st ≠ 1 ∨ to ≠ sd then 11 else if body.length ≠ 16 then 3 else 0) else if k = 4 then (if st ≠ 2 ∨ to ≠ sd then 11 else if (rdJ (R0 body)).2 ≠ 0 then 3 else 0) else 13
/-- The program's answer. -/
def JTake (bj bc bn : Nat) (c : Cl) (s : List Int) (S st sd la : Int) (q : Option Addr) (m cap : Nat) (boot cnt k to tick : Int) (body : List Int) (v : Value) (L : Lst) : Prop :=
  (jtkE st sd k to body ≠ 0 ∧ v = .tuple #[.slice none 0 0, .int .i64 (jtkE st sd k to body)] ∧ L = [JN bj bc S st sd la q m cap, CN bn boot cnt]) ∨
  (jtkE st sd k to body = 0 ∧ k = 2 ∧ ∃ Lo, Wrote c s 3 sd boot (cnt + 1) body v (.int .i64 0) Lo ∧ L = JN bj bc S 2 sd tick q m cap :: CN bn boot (cnt + 1) :: Lo) ∨
  (jtkE st sd k to body = 0 ∧ k = 4 ∧ v = .tuple #[.slice none 0 0, .int .i64 0] ∧ ∃ ov, OvOk 4 ov (rdJ (R0 body)).1.length (fl Cl.v (rdJ (R0 body)).1) ∧ L = JN bj bc S 3 sd tick (ovp ov) (rdJ (R0 body)).1.length (ovc ov (rdJ (R0 body)).1.length) :: CN bn boot cnt :: blkL 40 ov (fl Cl.v (rdJ (R0 body)).1))
section
variable {X : Cx} {σ : Env} {L L' : Lst} {ty t kt et : TypeId} {pos : String} {af : Array Edge} {x y z : Operand} {r : TRow} {K : Env → Lst → Prop} {all : Array Oper} {rest : List Oper} {κ α : Type} [DecidableEq κ] {kv : κ → Value} {vv : α → Value} {ms : Ms κ α} {clk b : Nat} {vk va : Value}
theorem R.mapIns_new {a : α} (k : κ) (hkt : KeyT X.P kt kv) (ht : X.tb.row t = some r) (hk : r.k = .map kt et) (hx : ev σ x = some (.map (some b))) (hy : ev σ y = some vk) (hv : vk = kv k) (hz : ev σ z = some va) (hva : va = vv a)
    (hu : Upd L b (mobj kv vv ms clk) (mobj kv vv (ms ++ [(k, a, clk)]) (clk + 1)) L') (hm : mget k ms = none) (h : R X all rest K σ L') : R X all (⟨none, .insert t x y z, ty, pos, af, none⟩ :: rest) K σ L :=
  R.skip rfl rfl fun a' w ha hw => by
    obtain ⟨w', h1, h2, h3⟩ := update_run hkt (TB.map X.tb ht hk) (hw.get _ _ hu.mem) k a
    rw [hm] at h3
    exact ⟨w', L', by simp [execOp, ha.ev hx, ha.ev hy, ha.ev hz, hv, hva, h1], hw.upd hu h2 h3, h⟩
end
def vvF (f : Nat) : Value := .func (.func f) #[] #[]
def kvI (n : Int) : Value := .int .i64 n
theorem deeds_ok (w : World) : CallM Tryz.prog 173 [] [] w fun v L => ∃ bm clk, v = .map (some bm) ∧ L = [(bm, mobj kvI vvF [((2 : Int), 242, 0), (4, 243, 1)] clk)] := by
  have ki := KeyT.intK (P := Tryz.prog) tb (t := 3) rfl rfl
  refine enterK (tb := tb) Tryz.func173 rfl Tryz.ntmps173 rfl ?_
  repeat' (first | (apply R.is1; first | (apply R.makeMap kvI vvF; exact rfl; intro bm) | (apply R.pure; exact rfl; first | (apply Ok1.move; exact rfl) | (apply Ok1.assign; exact rfl))) | (apply R.is0; first | (apply R.mapIns_new (kv := kvI) (vv := vvF) (2 : Int) ki; (iterate 7 exact rfl); exact Upd.head; exact rfl) | (apply R.mapIns_new (kv := kvI) (vv := vvF) (4 : Int) ki; (iterate 7 exact rfl); exact Upd.head; exact rfl)) | apply R.nil | (apply T.is; first | apply T.seq | apply T.region | apply T.ret))
  (apply RetOk.t; exact rfl)
  exact ⟨_, by (focus ((repeat' (first | exact Keep.nil _ | exact Ext.one _ _ | apply Keep.cons)); done)), bm, _, rfl, rfl⟩
theorem jtake_ok (bj bc bn br bb bd : Nat) (sd0 : List Value) (e1 : TypeId) (f1 : Nat × Nat) (c : Cl) (hr : c.right) (s : List Int) (hs : s.length = 32) (hsb : Byt s) (m1 m2 : Nat) (e : TypeId) (S st sd la : Int) (hd0 : 0 ≤ sd) (hd1 : sd ≤ 3) (q : Option Addr) (m cap : Nat) (boot cnt : Int) (hnr : NR boot (cnt + 1)) (h0 : 0 ≤ cnt) (k : Int) (c2 : Cl) (to a b : Int) (p : Option Addr) (n pc : Nat) (t body : List Int) (ht : t.length = 32) (hn : n = body.length) (hn5 : n ≤ 1024) (hbb : Byt body) (tick : Int) (w : World) (hp : RdSl w p u8V body) (hq : body ≠ [] → Off p [bj, bn]) (hc : w.heap[bc]? = some (.cells ⟨chC bn br bb bd sd0⟩ e1 f1)) (hb : w.heap[br]? = some (.cells ⟨ringC c s m1 m2⟩ e (0, 0))) (hne1 : bc ∉ [bj, bn]) (hne2 : br ∉ [bj, bn]) :
    CallM Tryz.prog 79 [.pointer (some ⟨bj, 0, none⟩), .agg ⟨pkC k c2 to a b p n pc t⟩, .int .i64 tick] [JN bj bc S st sd la q m cap, CN bn boot cnt] w (JTake bj bc bn c s S st sd la q m cap boot cnt k to tick body) := by
  have ki := KeyT.intK (P := Tryz.prog) tb (t := 3) rfl rfl
  have hde := fun w1 => deeds_ok w1
  have hpl := pk_len k c2 to a b p n pc ht
  by_cases h2 : k = 2
  · subst h2
    have hck := fun w1 (h : Chg (blks [JN bj bc S st sd la q m cap, CN bn boot cnt]) w w1) => jcookie_ok bj bc bn br bb bd sd0 e1 f1 c hr s hs hsb m1 m2 e S st sd la hd0 hd1 q m cap boot cnt hnr h0 2 c2 to a b p n pc t body ht hn hbb tick w1 (hp.chg' h hq) hq (h.heap hc hne1) (h.heap hb hne2) hne1 hne2
    have hck2 := fun w1 h => (hck w1 h).wk (R' := fun v L => ∃ x y, v = .tuple #[x, y] ∧ JTake bj bc bn c s S st sd la q m cap boot cnt 2 to tick body (.tuple #[x, y]) L) (by
      unfold JTake
      rintro v L (⟨g, rfl, rfl⟩ | ⟨g, g2, rfl, rfl⟩ | ⟨g, g2, Lo, ⟨ovw, w1, rfl, rfl⟩, rfl⟩)
      · have hE : jtkE st sd 2 to body = 11 := by unfold jtkE; rw [if_pos rfl, if_pos g]
        rw [hE]
        exact ⟨_, _, rfl, .inl ⟨by decide, rfl, rfl⟩⟩
      · have hE : jtkE st sd 2 to body = 3 := by unfold jtkE; rw [if_pos rfl, if_neg (by omega), if_pos (by omega)]
        rw [hE]
        exact ⟨_, _, rfl, .inl ⟨by decide, rfl, rfl⟩⟩
      · have hE : jtkE st sd 2 to body = 0 := by unfold jtkE; rw [if_pos rfl, if_neg (by omega), if_neg (by omega)]
        exact ⟨_, _, rfl, .inr (.inl ⟨hE, rfl, _, ⟨ovw, w1, rfl, rfl⟩, rfl⟩)⟩)
    clear hck
    generalize JTake bj bc bn c s S st sd la q m cap boot cnt 2 to tick body = PP at *
    unfold pkC at *
    generalize JN bj bc S st sd la q m cap = JO at *
    generalize CN bn boot cnt = CO at *
    refine enterK (tb := tb) Tryz.func79 rfl Tryz.ntmps79 rfl ?_
    repeat' (first | (apply R.is1; first | (apply R.isBin; (apply R.pure; exact rfl; first | (apply Ok1.eqlP; (iterate 5 exact rfl)) | (apply Ok1.eqlFn0; (iterate 4 exact rfl)))) | (apply R.isCall; (apply R.callFE (f := 242) (fa := []) (cb := []) (Li := [JO, CO]) (vs := [.pointer (some ⟨bj, 0, none⟩), .agg _, .int .i64 tick]); (iterate 4 exact rfl); exact Ext.two _ (by (focus ((repeat' (first | exact Ext.one _ _ | apply Ext.cons)); done))) (by (focus ((repeat' (first | exact Ext.one _ _ | apply Ext.cons)); done))); intro w1 hw1; exact hck2 w1 hw1.chg; rintro v Lo ⟨vx, vy, rfl, hPP⟩)) | (apply R.pure; exact rfl; first | (apply Ok1.load; exact rfl; (apply Ld.ownk; exact rfl; exact rfl; (focus ((repeat' (first | exact At.head | apply At.tail)); done)); exact subE_all hpl)) | (apply Ok1.move; exact rfl) | (apply Ok1.assign; exact rfl) | (apply Ok1.extract; exact rfl; exact rfl)) | (apply R.box; (iterate 3 exact rfl); intro)) | apply R.nil | (apply T.is; first | (apply T.drawC (id := 3) [0] (by decide); ((apply A.tk 1; exact rfl; exact rfl; kernel_rfl; (apply Ok1.fieldAddr; (iterate 5 exact rfl))) <;> (apply A.tk 2; exact rfl; exact rfl; kernel_rfl; (apply Ok1.load; exact rfl; (apply Ld.own1; exact rfl; exact rfl; exact At.head; exact rfl))) <;> (apply A.one 0; kernel_rfl; exact rfl; (((apply R.callE (vs := []); (iterate 3 exact rfl); exact Ext.none _; intro w1 hw1; exact hde w1; rintro v Lo ⟨bmap, clk, rfl, rfl⟩; rw [List.singleton_append]))); apply R.nil; refine ⟨?_, ?_⟩; (focus ((repeat' (first | exact trivial | (refine ⟨?_, ?_⟩; (focus ((repeat' (first | exact At.head | apply At.tail)); done))))))); (apply A.clsH; (focus ((repeat' (first | exact trivial | (refine ⟨?_, ?_⟩; exact At.head))))))) <;> (apply A.tk 3; exact rfl; exact rfl; kernel_rfl; (apply Ok1.lookup_some (kv := kvI) (vv := vvF) (2 : Int) ki; (iterate 6 exact rfl); exact At.head; exact rfl; exact (if_neg Bool.false_ne_true).symm)) <;> (apply A.tk 4; exact rfl; exact rfl; kernel_rfl; (apply Ok1.assign; exact rfl)) <;> (apply A.done; kernel_rfl))) | apply T.seq | apply T.region | apply T.skip | apply T.ret | (apply T.cond_f; exact rfl)))
    all_goals (apply RetOk.tt; exact rfl; exact rfl)
    all_goals exact ⟨_, by (focus ((repeat' (first | exact Ext.here _ _ | apply Keep.last)); done)), hPP⟩
  by_cases h4 : k = 4
  · subst h4
    have hck := fun w1 (h : Chg (blks [JN bj bc S st sd la q m cap, CN bn boot cnt]) w w1) => jadmit_ok bj bc S st sd la q m cap 4 c2 to a b p n pc t body ht hn hn5 hbb tick w1 (hp.chg' h hq) (fun g a ha => by have := hq g a ha; simp only [List.mem_cons, List.not_mem_nil, or_false, not_or] at this ⊢; exact this.1)
    have hck2 := fun w1 h => (hck w1 h).wk (R' := fun v L => ∃ x y, v = .tuple #[x, y] ∧ ∃ J1 Lo, L = J1 :: Lo ∧ JTake bj bc bn c s S st sd la q m cap boot cnt 4 to tick body (.tuple #[x, y]) (J1 :: CN bn boot cnt :: Lo)) (by
      unfold JTake
      rintro v L (⟨g, rfl, rfl⟩ | ⟨g, g2, rfl, rfl⟩ | ⟨g, g2, rfl, ov, hov, rfl⟩)
      · have hE : jtkE st sd 4 to body = 11 := by unfold jtkE; rw [if_neg (by decide), if_pos rfl, if_pos g]
        rw [hE]
        exact ⟨_, _, rfl, _, _, rfl, .inl ⟨by decide, rfl, rfl⟩⟩
      · have hE : jtkE st sd 4 to body = 3 := by unfold jtkE; rw [if_neg (by decide), if_pos rfl, if_neg (by omega), if_pos g2]
        rw [hE]
        exact ⟨_, _, rfl, _, _, rfl, .inl ⟨by decide, rfl, rfl⟩⟩
      · have hE : jtkE st sd 4 to body = 0 := by unfold jtkE; rw [if_neg (by decide), if_pos rfl, if_neg (by omega), if_neg (fun h => h g2)]
        exact ⟨_, _, rfl, _, _, rfl, .inr (.inr ⟨hE, rfl, rfl, ov, hov, rfl⟩)⟩)
    clear hck
    generalize JTake bj bc bn c s S st sd la q m cap boot cnt 4 to tick body = PP at *
    unfold pkC at *
    generalize JN bj bc S st sd la q m cap = JO at *
    generalize CN bn boot cnt = CO at *
    refine enterK (tb := tb) Tryz.func79 rfl Tryz.ntmps79 rfl ?_
    repeat' (first | (apply R.is1; first | (apply R.isBin; (apply R.pure; exact rfl; first | (apply Ok1.eqlP; (iterate 5 exact rfl)) | (apply Ok1.eqlFn0; (iterate 4 exact rfl)))) | (apply R.isCall; (apply R.callFE (f := 243) (fa := []) (cb := []) (Li := [JO]) (vs := [.pointer (some ⟨bj, 0, none⟩), .agg _, .int .i64 tick]); (iterate 4 exact rfl); (focus ((repeat' (first | exact Ext.one _ _ | apply Ext.cons)); done)); intro w1 hw1; exact hck2 w1 hw1.chg; rintro v Lo ⟨vx, vy, rfl, J1, Lo1, rfl, hPP⟩)) | (apply R.pure; exact rfl; first | (apply Ok1.load; exact rfl; (apply Ld.ownk; exact rfl; exact rfl; (focus ((repeat' (first | exact At.head | apply At.tail)); done)); exact subE_all hpl)) | (apply Ok1.move; exact rfl) | (apply Ok1.assign; exact rfl) | (apply Ok1.extract; exact rfl; exact rfl)) | (apply R.box; (iterate 3 exact rfl); intro)) | apply R.nil | (apply T.is; first | (apply T.drawC (id := 3) [0] (by decide); ((apply A.tk 1; exact rfl; exact rfl; kernel_rfl; (apply Ok1.fieldAddr; (iterate 5 exact rfl))) <;> (apply A.tk 2; exact rfl; exact rfl; kernel_rfl; (apply Ok1.load; exact rfl; (apply Ld.own1; exact rfl; exact rfl; exact At.head; exact rfl))) <;> (apply A.one 0; kernel_rfl; exact rfl; (((apply R.callE (vs := []); (iterate 3 exact rfl); exact Ext.none _; intro w1 hw1; exact hde w1; rintro v Lo ⟨bmap, clk, rfl, rfl⟩; rw [List.singleton_append]))); apply R.nil; refine ⟨?_, ?_⟩; (focus ((repeat' (first | exact trivial | (refine ⟨?_, ?_⟩; (focus ((repeat' (first | exact At.head | apply At.tail)); done))))))); (apply A.clsH; (focus ((repeat' (first | exact trivial | (refine ⟨?_, ?_⟩; exact At.head))))))) <;> (apply A.tk 3; exact rfl; exact rfl; kernel_rfl; (apply Ok1.lookup_some (kv := kvI) (vv := vvF) (4 : Int) ki; (iterate 6 exact rfl); exact At.head; exact rfl; exact (if_neg Bool.false_ne_true).symm)) <;> (apply A.tk 4; exact rfl; exact rfl; kernel_rfl; (apply Ok1.assign; exact rfl)) <;> (apply A.done; kernel_rfl))) | apply T.seq | apply T.region | apply T.skip | apply T.ret | (apply T.cond_f; exact rfl)))
    all_goals (apply RetOk.tt; exact rfl; exact rfl)
    all_goals exact ⟨_, by (focus ((repeat' (first | exact Ext.one _ _ | exact Ext.here _ _ | apply Keep.cons | apply Keep.last | apply Ext.cons | apply Ext.app)); done)), hPP⟩
  have hE : jtkE st sd k to body = 13 := by unfold jtkE; rw [if_neg h2, if_neg h4]
  have hmg : mget k [((2 : Int), 242, 0), (4, 243, 1)] = none := by
    simp only [mget]
    rw [if_neg (fun h => h2 h.symm), if_neg (fun h => h4 h.symm)]
  unfold JTake
  rw [hE]
  unfold pkC at *
  generalize JN bj bc S st sd la q m cap = JO at *
  generalize CN bn boot cnt = CO at *
  refine enterK (tb := tb) Tryz.func79 rfl Tryz.ntmps79 rfl ?_
  repeat' (first | (apply R.is1; first | (apply R.isBin; (apply R.pure; exact rfl; first | (apply Ok1.eqlP; (iterate 5 exact rfl)) | (apply Ok1.eqlFn1; (iterate 4 exact rfl)))) | (apply R.pure; exact rfl; first | (apply Ok1.move; exact rfl) | (apply Ok1.assign; exact rfl)) | (apply R.box; (iterate 3 exact rfl); intro)) | apply R.nil | (apply T.is; first | (apply T.drawC (id := 3) [0] (by decide); ((apply A.tk 1; exact rfl; exact rfl; kernel_rfl; (apply Ok1.fieldAddr; (iterate 5 exact rfl))) <;> (apply A.tk 2; exact rfl; exact rfl; kernel_rfl; (apply Ok1.load; exact rfl; (apply Ld.own1; exact rfl; exact rfl; exact At.head; exact rfl))) <;> (apply A.one 0; kernel_rfl; exact rfl; (((apply R.callE (vs := []); (iterate 3 exact rfl); exact Ext.none _; intro w1 hw1; exact hde w1; rintro v Lo ⟨bmap, clk, rfl, rfl⟩; rw [List.singleton_append]))); apply R.nil; refine ⟨?_, ?_⟩; (focus ((repeat' (first | exact trivial | (refine ⟨?_, ?_⟩; (focus ((repeat' (first | exact At.head | apply At.tail)); done))))))); (apply A.clsH; (focus ((repeat' (first | exact trivial | (refine ⟨?_, ?_⟩; exact At.head))))))) <;> (apply A.tk 3; exact rfl; exact rfl; kernel_rfl; (apply Ok1.lookup_none (kv := kvI) (vv := vvF) k ki; (iterate 6 exact rfl); exact At.head; exact hmg; exact (if_neg Bool.false_ne_true).symm)) <;> (apply A.tk 4; exact rfl; exact rfl; kernel_rfl; (apply Ok1.assign; exact rfl)) <;> (apply A.done; kernel_rfl))) | apply T.seq | apply T.region | apply T.skip | apply T.ret | (apply T.cond_t; exact rfl) | (apply T.cond_f; exact rfl)))
  all_goals (apply RetOk.tt; exact rfl; exact rfl)
  all_goals exact ⟨_, by (focus ((repeat' (first | exact Keep.nil _ | exact Ext.one _ _ | apply Keep.cons | apply Ext.cons)); done)), .inl ⟨by decide, rfl, rfl⟩⟩
end Go.Proofs.YtidjnjlejhoalaaGreat
set_option linter.unusedSimpArgs false
set_option linter.unusedVariables false
namespace Go.Proofs.YtidjnjlejhoalaaGreat
open Go.RowKit Go.Shelf
set_option maxRecDepth 100000
theorem fill_pk (k : Int) (c : Cl) (to a b : Int) (p : Option Addr) (n cap : Nat) {t : List Int} (ht : t.length = 32) (f0 f1 f2 f3 f4 f5 : Nat) : fillE (fldPl [(f0, 0, 1), (f1, 1, 4), (f2, 5, 1), (f3, 6, 2), (f4, 8, 1), (f5, 9, 32)]) (pkC 0 cl0 0 0 0 none 0 0 (zI 32)) [(0, .int .i64 k), (1, .agg ⟨clC c⟩), (2, .int .i64 to), (3, .agg ⟨[.int .i64 a, .int .i64 b]⟩), (4, .slice p n cap), (5, .agg ⟨u8s t⟩)] = some (pkC k c to a b p n cap t) := by
  obtain ⟨x0, x1, x2, x3, x4, x5, x6, x7, x8, x9, x10, x11, x12, x13, x14, x15, x16, x17, x18, x19, x20, x21, x22, x23, x24, x25, x26, x27, x28, x29, x30, x31, rfl⟩ := list32 t ht
  rfl
theorem pto14_ok (k : Int) (c : Cl) (to a b : Int) (p : Option Addr) (n cap : Nat) (xs t : List Int) (ht : t.length = 32) (hn : n = xs.length) (hcap : n ≤ cap) (w : World) (hp : RdSl w p u8V xs) :
    CallM Tryz.prog 78 [.agg ⟨pkC k c to a b p n cap t⟩] [] w fun v L => ∃ ov, OvOk 1 ov (min n 520) (u8s (xs.take (min n 520))) ∧ v = .agg ⟨pkC k c to a b (ovp ov) (min n 520) (ovc ov (min n 520)) t⟩ ∧ L = blkL 5 ov (u8s (xs.take (min n 520))) := by
  have hto := to5_ok c.id c.roles c.exp c.ser
  have hno := nto_ok a b
  have htg := pk_tag k c to a b p n cap ht
  have hl := pk_len k c to a b p n cap ht
  have e0 : min (n : Int) 520 = ((min n 520 : Nat) : Int) := by omega
  have hl2 : (xs.take (min n 520)).length = min n 520 := by rw [List.length_take]; omega
  have hrd := fun w1 (h : Chg [] w w1) => (hp.pre u8V_len (min n 520)).chg' h (fun _ => Off.nil _)
  have hf := fun q m d f0 f1 f2 f3 f4 f5 => fill_pk k c to a b q m d ht f0 f1 f2 f3 f4 f5
  have hlq := fun q m d => pk_len k c to a b q m d ht
  have hoq := fun q m d => pk_one k c to a b q m d t
  have hmn : min n 520 ≤ 520 ∧ min n 520 ≤ n := by omega
  generalize xs.take (min n 520) = ys at *
  generalize min n 520 = m at *
  generalize hPK : pkC k c to a b p n cap t = PK at *
  have g0 : PK[0]? = some (.int .i64 k) := by rw [← hPK]; rfl
  have g1 : subE PK 1 4 = some (clC c) := by rw [← hPK]; rfl
  have g2 : PK[5]? = some (.int .i64 to) := by rw [← hPK]; rfl
  have g3 : subE PK 6 2 = some [.int .i64 a, .int .i64 b] := by rw [← hPK]; rfl
  have g4 : PK[8]? = some (.slice p n cap) := by rw [← hPK]; rfl
  clear hPK
  refine enterK (tb := tb) Tryz.func78 rfl Tryz.ntmps78 rfl ?_
  repeat' (first | (apply R.is1; first | (apply R.box; (iterate 3 exact rfl); intro) | (apply R.alloc; (iterate 3 exact rfl); intro)) | apply R.nil | (apply T.is; first | (apply T.drawC (id := 1) [1] (by decide); ((apply A.tk 0; exact rfl; exact rfl; kernel_rfl; (apply Ok1.fieldAddr; (iterate 5 exact rfl))) <;> (apply A.tk 1; exact rfl; exact rfl; kernel_rfl; (apply Ok1.load; exact rfl; (apply Ld.own1; exact rfl; exact rfl; exact At.head; exact g0))) <;> (apply A.tk 2; exact rfl; exact rfl; kernel_rfl; (apply Ok1.fieldAddr; (iterate 5 exact rfl))) <;> (apply A.tk 3; exact rfl; exact rfl; kernel_rfl; (apply Ok1.load; exact rfl; (apply Ld.ownk; exact rfl; exact rfl; exact At.head; exact g1))) <;> (apply A.tk 5; exact rfl; exact rfl; kernel_rfl; (apply Ok1.fieldAddr; (iterate 5 exact rfl))) <;> (apply A.tk 6; exact rfl; exact rfl; kernel_rfl; (apply Ok1.load; exact rfl; (apply Ld.own1; exact rfl; exact rfl; exact At.head; exact g2))) <;> (apply A.tk 7; exact rfl; exact rfl; kernel_rfl; (apply Ok1.fieldAddr; (iterate 5 exact rfl))) <;> (apply A.tk 8; exact rfl; exact rfl; kernel_rfl; (apply Ok1.load; exact rfl; (apply Ld.ownk; exact rfl; exact rfl; exact At.head; exact g3))) <;> (apply A.tk 11; exact rfl; exact rfl; kernel_rfl; (apply Ok1.fieldAddr; (iterate 5 exact rfl))) <;> (apply A.tk 12; exact rfl; exact rfl; kernel_rfl; (apply Ok1.load; exact rfl; (apply Ld.own1; exact rfl; exact rfl; exact At.head; exact g4))) <;> (apply A.tk 13; exact rfl; exact rfl; kernel_rfl; (apply Ok1.fieldAddr; (iterate 5 exact rfl))) <;> (apply A.tk 14; exact rfl; exact rfl; kernel_rfl; (apply Ok1.load; exact rfl; (apply Ld.own1; exact rfl; exact rfl; exact At.head; exact g4))) <;> (apply A.tk 15; exact rfl; exact rfl; kernel_rfl; (apply Ok1.lenS; (iterate 3 exact rfl))) <;> (apply A.tk 16; exact rfl; exact rfl; kernel_rfl; (apply Ok1.min2E; exact rfl; exact rfl; exact e0)) <;> (apply A.tk 17; exact rfl; exact rfl; kernel_rfl; (apply Ok1.preR (i := m); (iterate 5 exact rfl); omega)) <;> (apply A.tk 19; exact rfl; exact rfl; kernel_rfl; (apply Ok1.fieldAddr; (iterate 5 exact rfl))) <;> (apply A.tk 20; exact rfl; exact rfl; kernel_rfl; (apply Ok1.load; exact rfl; (apply Ld.ownk; exact rfl; exact rfl; exact At.head; exact htg))) <;> (apply A.two 4 10; kernel_rfl; exact rfl; exact rfl; rotate_left 1; (focus (((((apply R.buildSlice0; (iterate 4 exact rfl); intro b0))); apply R.nil; refine ⟨?_, ?_⟩; (focus ((repeat' (first | exact trivial | (refine ⟨?_, ?_⟩; (focus ((repeat' (first | exact At.head | apply At.tail)); done)))))))) <;> (apply A.one 4; kernel_rfl; exact rfl; ((apply R.callP rfl rfl rfl hto)); apply R.nil; refine ⟨?_, ?_⟩; (focus ((repeat' (first | exact trivial | (refine ⟨?_, ?_⟩; (focus ((repeat' (first | exact At.head | apply At.tail)); done)))))))) <;> (apply A.one 9; kernel_rfl; exact rfl; ((apply R.callP rfl rfl rfl hno)); apply R.nil; refine ⟨?_, ?_⟩; (focus ((repeat' (first | exact trivial | (refine ⟨?_, ?_⟩; (focus ((repeat' (first | exact At.head | apply At.tail)); done)))))))) <;> (apply A.one 18; kernel_rfl; exact rfl; (((apply R.appendRd (xs := ys) (v := u8V) (sz := 1) (ov := some (_, 0, [])) (n := 0) (m := m) (old := []); (iterate 12 exact rfl); exact ⟨rfl, rfl⟩; (focus ((repeat' (exact Ext.one _ _)); done)); exact hl2.symm; exact u8V_len; exact rfl; (intro w1 hw1; exact hrd w1 hw1.chg); (focus (rw [fl_u8]; exact u8s_one _)); omega; intro ov1 hov1 hsome; rw [Nat.zero_add, List.nil_append, fl_u8]; rw [Nat.zero_add, List.nil_append, fl_u8] at hov1; rw [slV_eq hov1]))); apply R.nil; refine ⟨?_, ?_⟩; (focus ((repeat' (first | exact trivial | (refine ⟨?_, ?_⟩; (focus ((repeat' (first | exact At.head | apply At.tail | apply At.right)); done)))))))) <;> (apply A.tk 21; exact rfl; exact rfl; kernel_rfl; (apply Ok1.build; (iterate 4 exact rfl); exact hf _ _ _ _ _ _ _ _ _)) <;> (apply A.one 22; kernel_rfl; exact rfl; (((apply R.store; (iterate 4 exact rfl); exact hlq _ _ _; exact hoq _ _ _; (focus ((repeat' (first | exact Upd.head | apply Upd.right)); done)); exact setE_all (hlq _ _ _)))); apply R.nil; refine ⟨?_, ?_⟩; (focus ((repeat' (first | exact trivial | (refine ⟨?_, ?_⟩; (focus ((repeat' (first | exact At.head | apply At.tail | apply At.right)); done)))))))) <;> (apply A.done; kernel_rfl))); rotate_right 1; (focus ((((apply R.callP rfl rfl rfl hto)); apply R.nil; refine ⟨?_, ?_⟩; (focus ((repeat' (first | exact trivial | (refine ⟨?_, ?_⟩; (focus ((repeat' (first | exact At.head | apply At.tail)); done)))))))) <;> (apply A.two 9 10; kernel_rfl; exact rfl; exact rfl; rotate_left 1; (focus (((((apply R.buildSlice0; (iterate 4 exact rfl); intro b0))); apply R.nil; refine ⟨?_, ?_⟩; (focus ((repeat' (first | exact trivial | (refine ⟨?_, ?_⟩; (focus ((repeat' (first | exact At.head | apply At.tail)); done)))))))) <;> (apply A.one 9; kernel_rfl; exact rfl; ((apply R.callP rfl rfl rfl hno)); apply R.nil; refine ⟨?_, ?_⟩; (focus ((repeat' (first | exact trivial | (refine ⟨?_, ?_⟩; (focus ((repeat' (first | exact At.head | apply At.tail)); done)))))))) <;> (apply A.one 18; kernel_rfl; exact rfl; (((apply R.appendRd (xs := ys) (v := u8V) (sz := 1) (ov := some (_, 0, [])) (n := 0) (m := m) (old := []); (iterate 12 exact rfl); exact ⟨rfl, rfl⟩; (focus ((repeat' (exact Ext.one _ _)); done)); exact hl2.symm; exact u8V_len; exact rfl; (intro w1 hw1; exact hrd w1 hw1.chg); (focus (rw [fl_u8]; exact u8s_one _)); omega; intro ov1 hov1 hsome; rw [Nat.zero_add, List.nil_append, fl_u8]; rw [Nat.zero_add, List.nil_append, fl_u8] at hov1; rw [slV_eq hov1]))); apply R.nil; refine ⟨?_, ?_⟩; (focus ((repeat' (first | exact trivial | (refine ⟨?_, ?_⟩; (focus ((repeat' (first | exact At.head | apply At.tail | apply At.right)); done)))))))) <;> (apply A.tk 21; exact rfl; exact rfl; kernel_rfl; (apply Ok1.build; (iterate 4 exact rfl); exact hf _ _ _ _ _ _ _ _ _)) <;> (apply A.one 22; kernel_rfl; exact rfl; (((apply R.store; (iterate 4 exact rfl); exact hlq _ _ _; exact hoq _ _ _; (focus ((repeat' (first | exact Upd.head | apply Upd.right)); done)); exact setE_all (hlq _ _ _)))); apply R.nil; refine ⟨?_, ?_⟩; (focus ((repeat' (first | exact trivial | (refine ⟨?_, ?_⟩; (focus ((repeat' (first | exact At.head | apply At.tail | apply At.right)); done)))))))) <;> (apply A.done; kernel_rfl))); rotate_right 1; (focus ((((apply R.callP rfl rfl rfl hno)); apply R.nil; refine ⟨?_, ?_⟩; (focus ((repeat' (first | exact trivial | (refine ⟨?_, ?_⟩; (focus ((repeat' (first | exact At.head | apply At.tail)); done)))))))) <;> (apply A.one 10; kernel_rfl; exact rfl; (((apply R.buildSlice0; (iterate 4 exact rfl); intro b0))); apply R.nil; refine ⟨?_, ?_⟩; (focus ((repeat' (first | exact trivial | (refine ⟨?_, ?_⟩; (focus ((repeat' (first | exact At.head | apply At.tail)); done)))))))) <;> (apply A.one 18; kernel_rfl; exact rfl; (((apply R.appendRd (xs := ys) (v := u8V) (sz := 1) (ov := some (_, 0, [])) (n := 0) (m := m) (old := []); (iterate 12 exact rfl); exact ⟨rfl, rfl⟩; (focus ((repeat' (exact Ext.one _ _)); done)); exact hl2.symm; exact u8V_len; exact rfl; (intro w1 hw1; exact hrd w1 hw1.chg); (focus (rw [fl_u8]; exact u8s_one _)); omega; intro ov1 hov1 hsome; rw [Nat.zero_add, List.nil_append, fl_u8]; rw [Nat.zero_add, List.nil_append, fl_u8] at hov1; rw [slV_eq hov1]))); apply R.nil; refine ⟨?_, ?_⟩; (focus ((repeat' (first | exact trivial | (refine ⟨?_, ?_⟩; (focus ((repeat' (first | exact At.head | apply At.tail | apply At.right)); done)))))))) <;> (apply A.tk 21; exact rfl; exact rfl; kernel_rfl; (apply Ok1.build; (iterate 4 exact rfl); exact hf _ _ _ _ _ _ _ _ _)) <;> (apply A.one 22; kernel_rfl; exact rfl; (((apply R.store; (iterate 4 exact rfl); exact hlq _ _ _; exact hoq _ _ _; (focus ((repeat' (first | exact Upd.head | apply Upd.right)); done)); exact setE_all (hlq _ _ _)))); apply R.nil; refine ⟨?_, ?_⟩; (focus ((repeat' (first | exact trivial | (refine ⟨?_, ?_⟩; (focus ((repeat' (first | exact At.head | apply At.tail | apply At.right)); done)))))))) <;> (apply A.done; kernel_rfl))))))))) | apply T.seq | apply T.region | apply T.ret))
  all_goals (apply RetOk.c; exact rfl; (apply Ld.ownk; exact rfl; exact rfl; (focus ((repeat' (first | exact At.head | apply At.right)); done)); exact subE_all (hlq _ _ _)))
  all_goals exact ⟨_, by (focus ((repeat' (first | exact Ext.here _ _ | apply Keep.last)); done)), ov1, hov1, rfl, rfl⟩
end Go.Proofs.YtidjnjlejhoalaaGreat
set_option linter.unusedSimpArgs false
set_option linter.unusedVariables false
namespace Go.Proofs.YtidjnjlejhoalaaGreat
open Go.RowKit Go.Shelf
set_option maxRecDepth 100000
/-- A call of a joiner. -/
structure JAct where
  kind : Int
  seed : Int
  tick : Int
  k : Int
  c : Cl
  to : Int
  a : Int
  b : Int
  p : Option Addr
  cap : Nat
  xs : List Int
  t : List Int
instance : Inhabited JAct := ⟨⟨0, 0, 0, 0, ⟨0, 0, 0, 0⟩, 0, 0, 0, none, 0, [], []⟩⟩
def JAct.v (x : JAct) : List Value := .int .i64 x.kind :: .int .i64 x.seed :: .int .i64 x.tick :: pkC x.k x.c x.to x.a x.b x.p x.xs.length x.cap (x.t.take 32 ++ List.replicate (32 - x.t.length) 0)
structure JAct.okR (w : World) (x : JAct) : Prop where
  rd : RdSl w x.p u8V x.xs
  byt : Byt x.xs
  cap : x.xs.length ≤ x.cap
  tag : x.t.length = 32
theorem JAct.v_len (x : JAct) : x.v.length = 44 := by
  unfold JAct.v
  simp only [List.length_cons]
  rw [pk_len _ _ _ _ _ _ _ _ (by rw [List.length_append, List.length_take, List.length_replicate]; omega)]
theorem JAct.v_ok {x : JAct} (h : x.t.length = 32) : x.v = .int .i64 x.kind :: .int .i64 x.seed :: .int .i64 x.tick :: pkC x.k x.c x.to x.a x.b x.p x.xs.length x.cap x.t := by
  unfold JAct.v
  rw [h, List.take_of_length_le (by omega)]
  simp
/-- What comes of a call: the bytes, the error, the next state. -/
structure JR where
  G : List Int
  E : Int
  st : Int
  sd : Int
  la : Int
  cnt : Int
def jmStart (d : Cl) (s : List Int) (S B st sd la cnt seed tick : Int) : JR := if jstE S st seed = 0 then ⟨wrG d s 1 seed B (cnt + 1) [], 0, 1, seed, tick, cnt + 1⟩ else ⟨[], jstE S st seed, st, sd, la, cnt⟩
def jmDue (d : Cl) (s : List Int) (S B st sd la cnt tick : Int) : JR := if st = 0 ∨ st = 3 ∨ tick < la + 16 then ⟨[], 0, st, sd, la, cnt⟩ else ⟨wrG d s 1 ((sd + 1) % S) B (cnt + 1) [], 1, 1, (sd + 1) % S, tick, cnt + 1⟩
def jmLeave (d : Cl) (s : List Int) (B st sd la cnt : Int) : JR := if st = 3 then ⟨wrG d s 14 sd B (cnt + 1) [], 0, 0, sd, la, cnt + 1⟩ else ⟨[], 11, st, sd, la, cnt⟩
def jmTake (d : Cl) (s : List Int) (B st sd la cnt k to tick : Int) (body : List Int) : JR := if jtkE st sd k to body ≠ 0 then ⟨[], jtkE st sd k to body, st, sd, la, cnt⟩ else if k = 2 then ⟨wrG d s 3 sd B (cnt + 1) body, 0, 2, sd, tick, cnt + 1⟩ else ⟨[], 0, 3, sd, tick, cnt⟩
/-- The answer and the blocks of a call that leaves whom it knows. -/
def JOut (J : Int → Int → Int → Nat × Obj) (C : Int → Nat × Obj) (r : JR) (e v : Value) (L : Lst) : Prop := ∃ ovb, OvOk 1 ovb r.G.length (u8s r.G) ∧ v = .tuple #[.slice (ovp ovb) r.G.length (ovc ovb r.G.length), e] ∧ L = J r.st r.sd r.la :: C r.cnt :: blkL 5 ovb (u8s r.G)
theorem jstart_out {bj bc bn : Nat} {d : Cl} {s : List Int} {S B st sd la cnt seed tick : Int} {q : Option Addr} {m cap : Nat} {v : Value} {L : Lst} (h : JStart bj bc bn d s S st sd la q m cap B cnt seed tick v L) : JOut (fun st sd la => JN bj bc S st sd la q m cap) (CN bn B) (jmStart d s S B st sd la cnt seed tick) (.int .i64 (jmStart d s S B st sd la cnt seed tick).E) v L := by
  rcases h with ⟨g, rfl, rfl⟩ | ⟨g, Lo, ⟨ov, hov, rfl, rfl⟩, rfl⟩
  · unfold jmStart; rw [if_neg g]; exact ⟨none, OvOk.start 1, rfl, rfl⟩
  · unfold jmStart; rw [if_pos g]; exact ⟨ov, hov, by rw [slV_eq hov], rfl⟩
theorem jdue_out {bj bc bn : Nat} {d : Cl} {s : List Int} {S B st sd la cnt tick : Int} {q : Option Addr} {m cap : Nat} {v : Value} {L : Lst} (h : JDue bj bc bn d s S st sd la q m cap B cnt tick v L) : JOut (fun st sd la => JN bj bc S st sd la q m cap) (CN bn B) (jmDue d s S B st sd la cnt tick) (.bool (decide ((jmDue d s S B st sd la cnt tick).E = 1))) v L := by
  rcases h with ⟨g, rfl, rfl⟩ | ⟨g, Lo, ⟨ov, hov, rfl, rfl⟩, rfl⟩
  · unfold jmDue; rw [if_pos g]; exact ⟨none, OvOk.start 1, rfl, rfl⟩
  · unfold jmDue; rw [if_neg g]; exact ⟨ov, hov, by rw [slV_eq hov]; rfl, rfl⟩
theorem jleave_out {bj bc bn : Nat} {d : Cl} {s : List Int} {S B st sd la cnt : Int} {q : Option Addr} {m cap : Nat} {v : Value} {L : Lst} (h : JLeave bj bc bn d s S st sd la q m cap B cnt v L) : JOut (fun st sd la => JN bj bc S st sd la q m cap) (CN bn B) (jmLeave d s B st sd la cnt) (.int .i64 (jmLeave d s B st sd la cnt).E) v L := by
  rcases h with ⟨g, rfl, rfl⟩ | ⟨g, Lo, ⟨ov, hov, rfl, rfl⟩, rfl⟩
  · unfold jmLeave; rw [if_neg g]; exact ⟨none, OvOk.start 1, rfl, rfl⟩
  · unfold jmLeave; rw [if_pos g]; exact ⟨ov, hov, by rw [slV_eq hov], rfl⟩
theorem jtake_out {bj bc bn : Nat} {d : Cl} {s : List Int} {S B st sd la cnt k to tick : Int} {body : List Int} {q : Option Addr} {m cap : Nat} {v : Value} {L : Lst} (hn : ¬ (jtkE st sd k to body = 0 ∧ k = 4)) (h : JTake bj bc bn d s S st sd la q m cap B cnt k to tick body v L) : JOut (fun st sd la => JN bj bc S st sd la q m cap) (CN bn B) (jmTake d s B st sd la cnt k to tick body) (.int .i64 (jmTake d s B st sd la cnt k to tick body).E) v L := by
  rcases h with ⟨g, rfl, rfl⟩ | ⟨g, g2, Lo, ⟨ov, hov, rfl, rfl⟩, rfl⟩ | ⟨g, g2, _⟩
  · unfold jmTake; rw [if_pos g]; exact ⟨none, OvOk.start 1, rfl, rfl⟩
  · unfold jmTake; rw [if_neg (fun h => h g), if_pos g2]; exact ⟨ov, hov, by rw [slV_eq hov], rfl⟩
  · exact absurd ⟨g, g2⟩ hn
/-- The state stays within its bounds. -/
structure JIn (S : Int) (st sd la cnt : Int) (i : Nat) : Prop where
  st0 : 0 ≤ st
  st3 : st ≤ 3
  sd0 : 0 ≤ sd
  sdS : sd < S
  la0 : 0 ≤ la
  la1 : la ≤ 1073741824
  cn0 : 0 ≤ cnt
  cn1 : cnt ≤ i
theorem wrG_le (d : Cl) (s : List Int) (k to B n : Int) (body : List Int) (h : body.length ≤ 512) : (wrG d s k to B n body).length ≤ 1000 := by
  unfold wrG; rw [pkB_len _ _ _ _ _ _ (wrT_len _ _ _ _ _ _ _)]; omega
theorem jmStart_in {d : Cl} {s : List Int} {S B st sd la cnt seed tick : Int} {i : Nat} (h : JIn S st sd la cnt i) (h0 : 0 ≤ tick) (h1 : tick ≤ 1073741824) : JIn S (jmStart d s S B st sd la cnt seed tick).st (jmStart d s S B st sd la cnt seed tick).sd (jmStart d s S B st sd la cnt seed tick).la (jmStart d s S B st sd la cnt seed tick).cnt (i + 1) ∧ (jmStart d s S B st sd la cnt seed tick).G.length ≤ 1000 := by
  obtain ⟨a1, a2, a3, a4, a5, a6, a7, a8⟩ := h
  unfold jmStart
  by_cases g : jstE S st seed = 0
  · rw [if_pos g]
    have hs : 0 ≤ seed ∧ seed < S := by
      unfold jstE at g
      by_cases g2 : seed < 0 ∨ S ≤ seed
      · rw [if_pos g2] at g; exact absurd g (by decide)
      · omega
    exact ⟨⟨by show (0 : Int) ≤ 1; decide, by show (1 : Int) ≤ 3; decide, hs.1, hs.2, h0, h1, by show 0 ≤ cnt + 1; omega, by show cnt + 1 ≤ ((i + 1 : Nat) : Int); omega⟩, wrG_le _ _ _ _ _ _ _ (by decide)⟩
  · rw [if_neg g]
    exact ⟨⟨a1, a2, a3, a4, a5, a6, a7, by show cnt ≤ ((i + 1 : Nat) : Int); omega⟩, Nat.zero_le _⟩
theorem jmDue_in {d : Cl} {s : List Int} {S B st sd la cnt tick : Int} {i : Nat} (hS : 1 ≤ S) (h : JIn S st sd la cnt i) (h0 : 0 ≤ tick) (h1 : tick ≤ 1073741824) : JIn S (jmDue d s S B st sd la cnt tick).st (jmDue d s S B st sd la cnt tick).sd (jmDue d s S B st sd la cnt tick).la (jmDue d s S B st sd la cnt tick).cnt (i + 1) ∧ (jmDue d s S B st sd la cnt tick).G.length ≤ 1000 := by
  obtain ⟨a1, a2, a3, a4, a5, a6, a7, a8⟩ := h
  have hm : 0 ≤ (sd + 1) % S ∧ (sd + 1) % S < S := ⟨Int.emod_nonneg _ (by omega), Int.emod_lt_of_pos _ (by omega)⟩
  unfold jmDue
  by_cases g : st = 0 ∨ st = 3 ∨ tick < la + 16
  · rw [if_pos g]
    exact ⟨⟨a1, a2, a3, a4, a5, a6, a7, by show cnt ≤ ((i + 1 : Nat) : Int); omega⟩, Nat.zero_le _⟩
  · rw [if_neg g]
    exact ⟨⟨by show (0 : Int) ≤ 1; decide, by show (1 : Int) ≤ 3; decide, hm.1, hm.2, h0, h1, by show 0 ≤ cnt + 1; omega, by show cnt + 1 ≤ ((i + 1 : Nat) : Int); omega⟩, wrG_le _ _ _ _ _ _ _ (by decide)⟩
theorem jmLeave_in {d : Cl} {s : List Int} {S B st sd la cnt : Int} {i : Nat} (h : JIn S st sd la cnt i) : JIn S (jmLeave d s B st sd la cnt).st (jmLeave d s B st sd la cnt).sd (jmLeave d s B st sd la cnt).la (jmLeave d s B st sd la cnt).cnt (i + 1) ∧ (jmLeave d s B st sd la cnt).G.length ≤ 1000 := by
  obtain ⟨a1, a2, a3, a4, a5, a6, a7, a8⟩ := h
  unfold jmLeave
  by_cases g : st = 3
  · rw [if_pos g]
    exact ⟨⟨by show (0 : Int) ≤ 0; decide, by show (0 : Int) ≤ 3; decide, a3, a4, a5, a6, by show 0 ≤ cnt + 1; omega, by show cnt + 1 ≤ ((i + 1 : Nat) : Int); omega⟩, wrG_le _ _ _ _ _ _ _ (by decide)⟩
  · rw [if_neg g]
    exact ⟨⟨a1, a2, a3, a4, a5, a6, a7, by show cnt ≤ ((i + 1 : Nat) : Int); omega⟩, Nat.zero_le _⟩
theorem jmTake_in {d : Cl} {s : List Int} {S B st sd la cnt k to tick : Int} {body : List Int} {i : Nat} (h : JIn S st sd la cnt i) (h0 : 0 ≤ tick) (h1 : tick ≤ 1073741824) : JIn S (jmTake d s B st sd la cnt k to tick body).st (jmTake d s B st sd la cnt k to tick body).sd (jmTake d s B st sd la cnt k to tick body).la (jmTake d s B st sd la cnt k to tick body).cnt (i + 1) ∧ (jmTake d s B st sd la cnt k to tick body).G.length ≤ 1000 := by
  obtain ⟨a1, a2, a3, a4, a5, a6, a7, a8⟩ := h
  unfold jmTake
  by_cases g : jtkE st sd k to body ≠ 0
  · rw [if_pos g]
    exact ⟨⟨a1, a2, a3, a4, a5, a6, a7, by show cnt ≤ ((i + 1 : Nat) : Int); omega⟩, Nat.zero_le _⟩
  · rw [if_neg g]
    by_cases g2 : k = 2
    · rw [if_pos g2]
      have hb : body.length ≤ 512 := by
        unfold jtkE at g
        rw [if_pos g2] at g
        by_cases g3 : st ≠ 1 ∨ to ≠ sd
        · rw [if_pos g3] at g; exact absurd (by decide) g
        · rw [if_neg g3] at g
          by_cases g4 : body.length ≠ 16
          · rw [if_pos g4] at g; exact absurd (by decide) g
          · omega
      exact ⟨⟨by show (0 : Int) ≤ 2; decide, by show (2 : Int) ≤ 3; decide, a3, a4, h0, h1, by show 0 ≤ cnt + 1; omega, by show cnt + 1 ≤ ((i + 1 : Nat) : Int); omega⟩, wrG_le _ _ _ _ _ _ _ hb⟩
    · rw [if_neg g2]
      exact ⟨⟨by show (0 : Int) ≤ 3; decide, by show (3 : Int) ≤ 3; decide, a3, a4, h0, h1, a7, by show cnt ≤ ((i + 1 : Nat) : Int); omega⟩, Nat.zero_le _⟩
end Go.Proofs.YtidjnjlejhoalaaGreat
set_option linter.unusedSimpArgs false
set_option linter.unusedVariables false
namespace Go.Proofs.YtidjnjlejhoalaaGreat
open Go.RowKit Go.Shelf
set_option maxRecDepth 100000
theorem rdJ_len (s : Rs) : (rdJ s).1.length ≤ 16 := by
  unfold rdJ
  split
  · exact Nat.zero_le _
  · split
    · exact Nat.zero_le _
    · split
      · exact Nat.zero_le _
      · rename_i h
        simp only [not_or, Nat.not_lt] at h
        exact h.2
end Go.Proofs.YtidjnjlejhoalaaGreat
set_option linter.unusedSimpArgs false
set_option linter.unusedVariables false
namespace Go.Proofs.YtidjnjlejhoalaaGreat
open Go.RowKit Go.Shelf
set_option maxRecDepth 100000
theorem btI_seven : btI 7 = 8 := by decide
/-- What is known at a round's head. -/
structure JZ where
  st : Int
  sd : Int
  la : Int
  cnt : Int
  os : List Cl
  o1 : Ov
  o2 : Ov
structure JZ.ok (z : JZ) (S : Int) (i : Nat) : Prop where
  inn : JIn S z.st z.sd z.la z.cnt i
  os : z.os.length ≤ 16
  o1 : OvOk 4 z.o1 z.os.length (fl Cl.v z.os)
  o2 : OvOk 4 z.o2 z.os.length (fl Cl.v z.os)
theorem ovoffM {ov : Ov} {xs : List Value} {e : Nat} {w0 w : World} {S : List Nat} {L : Lst} (hw : Hp w0 S L w) (hin : ∀ z ∈ blkL e ov xs, z ∈ L) {bs : List Nat} (hb : ∀ b ∈ bs, ∃ c e1 f, (b, Obj.cells c e1 f) ∈ L ∧ e1 ≠ e) : Off (ovp ov) bs := by
  intro a ha hm
  cases ov with
  | none => cases ha
  | some q =>
    obtain ⟨b, j, junk⟩ := q
    cases ha
    obtain ⟨c, e1, f, h1, h2⟩ := hb _ hm
    have g1 := hw.get _ _ h1
    have g2 := hw.get _ _ (hin _ List.mem_cons_self)
    rw [g1] at g2
    injection g2 with g3
    injection g3 with _ g4
    exact h2 g4
end Go.Proofs.YtidjnjlejhoalaaGreat
set_option linter.unusedSimpArgs false
set_option linter.unusedVariables false
namespace Go.Proofs.YtidjnjlejhoalaaGreat
open Go.ChangeShapes Go.WideShapes Go.ChangeAt Go.RowKit
theorem cut9 (cs : List Value) (a n m : Nat) (h : a + n = m) : (cs.drop a).take n ++ cs.drop m = cs.drop a := by
  have e := List.take_append_drop n (cs.drop a)
  rw [List.drop_drop, h] at e
  exact e
theorem u8n_decJ (n : Nat) : ∀ cs, allW (List.replicate n (.int .u8)) cs → ∃ t : List Int, t.length = n ∧ u8s t = cs := by
  induction n with
  | zero =>
    intro cs h
    match cs, h with
    | [], _ => exact ⟨[], rfl, rfl⟩
  | succ n ih =>
    intro cs h
    rw [List.replicate_succ] at h
    match cs, h with
    | .int k1 a :: r, h =>
      obtain ⟨⟨rfl, _⟩, h2⟩ := h
      obtain ⟨t, h3, h4⟩ := ih r h2
      exact ⟨a :: t, by rw [List.length_cons, h3], by rw [← h4]; rfl⟩
/-- A packet's cells. -/
structure PkA where
  k : Int
  c : Cl
  to : Int
  a : Int
  b : Int
  p : Option Addr
  cap : Nat
  xs : List Int
  t : List Int
def PkA.ok (w : World) (x : PkA) : Prop := RdSl w x.p u8V x.xs ∧ Byt x.xs ∧ x.xs.length ≤ x.cap ∧ x.t.length = 32
section
variable {H : Type} {enc : TypeId × Value → H} {w : World} {base : Nat} {spare : Nat → Bool} {held : Bool}
theorem pk_opens : Opens enc Tryz.prog w base spare held 172 fun cs => ∃ x : PkA, pkC x.k x.c x.to x.a x.b x.p x.xs.length x.cap x.t = cs ∧ x.ok w := by
  have hi : Opens enc Tryz.prog w base spare held 3 fun cs => ∃ a : Int, cs = [.int .i64 a] := (Opens.flat (ks := [.int .i64]) tb rfl rfl rfl).mono fun cs h => int1_decJ h
  have h0 := Opens.field (enc := enc) (w := w) (base := base) (spare := spare) (held := held) tb (t := 172) rfl rfl 0 rfl hi
  have h1 := Opens.field (enc := enc) (w := w) (base := base) (spare := spare) (held := held) tb (t := 172) rfl rfl 1 rfl ((Opens.flat (ks := clKsJ) tb rfl rfl rfl).mono cl_decJ)
  have h2 := Opens.field (enc := enc) (w := w) (base := base) (spare := spare) (held := held) tb (t := 172) rfl rfl 2 rfl hi
  have h3 := Opens.field (enc := enc) (w := w) (base := base) (spare := spare) (held := held) tb (t := 172) rfl rfl 3 rfl ((Opens.flat (ks := ncKs9) tb rfl rfl rfl).mono nc_dec9)
  have h4 := Opens.field (enc := enc) (w := w) (base := base) (spare := spare) (held := held) tb (t := 172) rfl rfl 4 rfl (Opens.slice u8V (fun x => 0 ≤ x ∧ x ≤ 255) tb rfl rfl rfl rfl (fun _ => rfl) u8_opensJ)
  have h5 := Opens.field (enc := enc) (w := w) (base := base) (spare := spare) (held := held) tb (t := 172) rfl rfl 5 rfl ((Opens.flat (ks := List.replicate 32 (.int .u8)) tb rfl rfl rfl).mono (u8n_decJ 32))
  refine (((((h0.and h1).and h2).and h3).and h4).and h5).mono ?_
  rintro cs ⟨⟨⟨⟨⟨⟨hl, k, e0⟩, ⟨_, c, e1⟩⟩, ⟨_, to, e2⟩⟩, ⟨_, ⟨a, b⟩, e3⟩⟩, ⟨_, p, xs, cap, e4, q1, q2, _, q4, _⟩⟩, ⟨_, t, ht, e5⟩⟩
  refine ⟨⟨k, c, to, a, b, p, cap, xs, t⟩, ?_, q1, q4, q2, ht⟩
  replace hl : cs.length = 41 := hl
  have e6 : pkC k c to a b p xs.length cap t = [.int .i64 k] ++ (c.v ++ ([.int .i64 to] ++ (ncL9 (a, b) ++ ([.slice p xs.length cap] ++ u8s t)))) := rfl
  have z5 : (cs.drop 9).take 32 = cs.drop 9 := List.take_of_length_le (by rw [List.length_drop, hl]; decide)
  show pkC k c to a b p xs.length cap t = cs
  rw [e6, ← e0, e1, ← e2, e3, ← e4, e5, z5, cut9 cs 8 1 9 rfl, cut9 cs 6 2 8 rfl, cut9 cs 5 1 6 rfl, cut9 cs 1 4 5 rfl, cut9 cs 0 1 1 rfl]
  rfl
theorem ja_opens : Opens enc Tryz.prog w base spare held 174 fun cs => ∃ x : JAct, x.v = cs ∧ x.okR w := by
  have hi : Opens enc Tryz.prog w base spare held 3 fun cs => ∃ a : Int, cs = [.int .i64 a] := (Opens.flat (ks := [.int .i64]) tb rfl rfl rfl).mono fun cs h => int1_decJ h
  have h0 := Opens.field (enc := enc) (w := w) (base := base) (spare := spare) (held := held) tb (t := 174) rfl rfl 0 rfl hi
  have h1 := Opens.field (enc := enc) (w := w) (base := base) (spare := spare) (held := held) tb (t := 174) rfl rfl 1 rfl hi
  have h2 := Opens.field (enc := enc) (w := w) (base := base) (spare := spare) (held := held) tb (t := 174) rfl rfl 2 rfl hi
  have h3 := Opens.field (enc := enc) (w := w) (base := base) (spare := spare) (held := held) tb (t := 174) rfl rfl 3 rfl pk_opens
  refine (((h0.and h1).and h2).and h3).mono ?_
  rintro cs ⟨⟨⟨⟨hl, k, e0⟩, ⟨_, s, e1⟩⟩, ⟨_, t, e2⟩⟩, ⟨_, x, e3, q1, q2, q3, q4⟩⟩
  refine ⟨⟨k, s, t, x.k, x.c, x.to, x.a, x.b, x.p, x.cap, x.xs, x.t⟩, ?_, q1, q2, q3, q4⟩
  replace hl : cs.length = 44 := hl
  rw [JAct.v_ok q4]
  have z3 : (cs.drop 3).take 41 = cs.drop 3 := List.take_of_length_le (by rw [List.length_drop, hl]; decide)
  have e6 : ∀ X, (.int .i64 k :: .int .i64 s :: .int .i64 t :: X : List Value) = [.int .i64 k] ++ ([.int .i64 s] ++ ([.int .i64 t] ++ X)) := fun _ => rfl
  show Value.int .i64 k :: .int .i64 s :: .int .i64 t :: pkC x.k x.c x.to x.a x.b x.p x.xs.length x.cap x.t = cs
  rw [e6, e3, ← e0, ← e1, ← e2, z3, cut9 cs 2 1 3 rfl, cut9 cs 1 1 2 rfl, cut9 cs 0 1 1 rfl]
  rfl
end
end Go.Proofs.YtidjnjlejhoalaaGreat
set_option linter.unusedSimpArgs false
set_option linter.unusedVariables false
namespace Go.Proofs.YtidjnjlejhoalaaGreat
open Go.RowKit Go.Shelf
set_option maxRecDepth 100000
theorem wrT_byt9 (s : List Int) (k : Int) (c : Cl) (to boot n : Int) (body : List Int) : Byt (wrT s k c to boot n body) := by
  unfold wrT
  by_cases h : k = 1
  · rw [if_pos h]
    intro x hx
    have := List.eq_of_mem_replicate hx
    omega
  · rw [if_neg h]
    exact hmac_byt _ _
theorem wrG_byt9 (d : Cl) (s : List Int) (k to B n : Int) {body : List Int} (h : Byt body) : Byt (wrG d s k to B n body) := Byt.app (pkH_byt _ _ _ _ _ h) (wrT_byt9 _ _ _ _ _ _ _)
/-- What a call may do: nothing, or one step with its packet. -/
def JOrd (d : Cl) (s : List Int) (st sd k to : Int) (xs : List Int) (st2 sd2 : Int) (G : List Int) : Prop :=
  ((st2 = st ∨ st2 = 0) ∧ Byt G ∧ G.length ≤ 1000) ∨ (st = 2 ∧ st2 = 3 ∧ k = 4 ∧ to = sd ∧ G = []) ∨ (st = 1 ∧ st2 = 2 ∧ k = 2 ∧ to = sd ∧ 0 ≤ sd ∧ sd ≤ 3 ∧ Byt xs ∧ xs.length = 16 ∧ ∃ n, NR 8 n ∧ G = wrG d s 3 sd 8 n xs) ∨ ((st = 0 ∨ st = 2 ∨ st = 3) ∧ st2 = 1 ∧ 0 ≤ sd2 ∧ sd2 ≤ 3 ∧ ∃ n, NR 8 n ∧ G = wrG d s 1 sd2 8 n [])
theorem jmStart_ord {d : Cl} {s : List Int} {S st sd la cnt seed tick k to : Int} {xs : List Int} {i : Nat} (h : JIn S st sd la cnt i) (hi : i ≤ 30) (hS : S ≤ 4) : JOrd d s st sd k to xs (jmStart d s S 8 st sd la cnt seed tick).st (jmStart d s S 8 st sd la cnt seed tick).sd (jmStart d s S 8 st sd la cnt seed tick).G := by
  obtain ⟨a1, a2, a3, a4, a5, a6, a7, a8⟩ := h
  unfold jmStart
  by_cases g : jstE S st seed = 0
  · rw [if_pos g]
    have hs : 0 ≤ seed ∧ seed < S := by
      unfold jstE at g
      by_cases g2 : seed < 0 ∨ S ≤ seed
      · rw [if_pos g2] at g; exact absurd g (by decide)
      · omega
    have hn : NR 8 (cnt + 1) := by unfold NR; omega
    by_cases h1 : st = 1
    · exact .inl ⟨.inl h1.symm, wrG_byt9 _ _ _ _ _ _ byt_nil, wrG_le _ _ _ _ _ _ _ (by decide)⟩
    · exact .inr (.inr (.inr ⟨by omega, rfl, hs.1, by show seed ≤ 3; omega, _, hn, rfl⟩))
  · rw [if_neg g]
    exact .inl ⟨.inl rfl, byt_nil, Nat.zero_le _⟩
theorem jmDue_ord {d : Cl} {s : List Int} {S st sd la cnt tick k to : Int} {xs : List Int} {i : Nat} (h : JIn S st sd la cnt i) (hi : i ≤ 30) (hS1 : 1 ≤ S) (hS : S ≤ 4) : JOrd d s st sd k to xs (jmDue d s S 8 st sd la cnt tick).st (jmDue d s S 8 st sd la cnt tick).sd (jmDue d s S 8 st sd la cnt tick).G := by
  obtain ⟨a1, a2, a3, a4, a5, a6, a7, a8⟩ := h
  have hm : 0 ≤ (sd + 1) % S ∧ (sd + 1) % S < S := ⟨Int.emod_nonneg _ (by omega), Int.emod_lt_of_pos _ (by omega)⟩
  unfold jmDue
  by_cases g : st = 0 ∨ st = 3 ∨ tick < la + 16
  · rw [if_pos g]
    exact .inl ⟨.inl rfl, byt_nil, Nat.zero_le _⟩
  · rw [if_neg g]
    have hn : NR 8 (cnt + 1) := by unfold NR; omega
    by_cases h1 : st = 1
    · exact .inl ⟨.inl h1.symm, wrG_byt9 _ _ _ _ _ _ byt_nil, wrG_le _ _ _ _ _ _ _ (by decide)⟩
    · exact .inr (.inr (.inr ⟨by omega, rfl, hm.1, by show (sd + 1) % S ≤ 3; omega, _, hn, rfl⟩))
theorem jmLeave_ord {d : Cl} {s : List Int} {S st sd la cnt k to : Int} {xs : List Int} {i : Nat} (h : JIn S st sd la cnt i) : JOrd d s st sd k to xs (jmLeave d s 8 st sd la cnt).st (jmLeave d s 8 st sd la cnt).sd (jmLeave d s 8 st sd la cnt).G := by
  unfold jmLeave
  by_cases g : st = 3
  · rw [if_pos g]
    exact .inl ⟨.inr rfl, wrG_byt9 _ _ _ _ _ _ byt_nil, wrG_le _ _ _ _ _ _ _ (by decide)⟩
  · rw [if_neg g]
    exact .inl ⟨.inl rfl, byt_nil, Nat.zero_le _⟩
theorem jmTake_ord {d : Cl} {s : List Int} {S st sd la cnt k to tick : Int} {xs : List Int} {i : Nat} (h : JIn S st sd la cnt i) (hi : i ≤ 30) (hS : S ≤ 4) (hb : Byt xs) : JOrd d s st sd k to xs (jmTake d s 8 st sd la cnt k to tick (xs.take (min xs.length 520))).st (jmTake d s 8 st sd la cnt k to tick (xs.take (min xs.length 520))).sd (jmTake d s 8 st sd la cnt k to tick (xs.take (min xs.length 520))).G := by
  obtain ⟨a1, a2, a3, a4, a5, a6, a7, a8⟩ := h
  unfold jmTake
  by_cases g : jtkE st sd k to (xs.take (min xs.length 520)) = 0
  case neg =>
    rw [if_pos g]
    exact .inl ⟨.inl rfl, byt_nil, Nat.zero_le _⟩
  rw [if_neg (fun g2 => g2 g)]
  have hn : NR 8 (cnt + 1) := by unfold NR; omega
  by_cases g2 : k = 2
  · rw [if_pos g2]
    unfold jtkE at g
    rw [if_pos g2] at g
    by_cases g3 : st ≠ 1 ∨ to ≠ sd
    · rw [if_pos g3] at g; exact absurd g (by decide)
    rw [if_neg g3] at g
    by_cases g4 : (xs.take (min xs.length 520)).length ≠ 16
    · rw [if_pos g4] at g; exact absurd g (by decide)
    rw [List.length_take] at g4
    have g5 : xs.length = 16 := by omega
    have g6 : xs.take (min xs.length 520) = xs := List.take_of_length_le (by omega)
    exact .inr (.inr (.inl ⟨by omega, rfl, g2, by omega, a3, by omega, hb, g5, _, hn, by rw [g6]⟩))
  · rw [if_neg g2]
    unfold jtkE at g
    rw [if_neg g2] at g
    by_cases g4 : k = 4
    · rw [if_pos g4] at g
      by_cases g3 : st ≠ 2 ∨ to ≠ sd
      · rw [if_pos g3] at g; exact absurd g (by decide)
      exact .inr (.inl ⟨by omega, rfl, g4, by omega, rfl⟩)
    · rw [if_neg g4] at g
      exact absurd g (by decide)
/-- Any bytes are parsed, or not. -/
theorem parse_some (p : Option Addr) (n cap : Nat) (xs : List Int) (hn : n = xs.length) (hbig : n ≤ 1000000000) (hb : Byt xs) (w : World) (hp : RdSl w p u8V xs) :
    CallM Tryz.prog 88 [.slice p n cap] [] w fun v L => ∃ (PK : List Value) (E : Int), PK.length = 41 ∧ PK.all Value.oneCell' = true ∧ v = .tuple #[.agg ⟨PK⟩, .int .i64 E] := by
  refine (pkparse_ok p n cap xs hn hbig hb w hp).wk ?_
  rintro v L ⟨s, sc, _, _, _, _, (⟨_, rfl, _⟩ | ⟨_, ov, _, rfl, _⟩)⟩
  · exact ⟨_, _, pk_len _ _ _ _ _ _ _ _ rfl, pk_one _ _ _ _ _ _ _ _ _, rfl⟩
  · exact ⟨_, _, pk_len _ _ _ _ _ _ _ _ (Rs.raws_len _ _), pk_one _ _ _ _ _ _ _ _ _, rfl⟩
theorem parse_wrG (p : Option Addr) (n cap : Nat) (d : Cl) (hr : d.right) (s : List Int) (k to cn : Int) (body : List Int) (hk : wayI k = 1) (h0 : 0 ≤ to) (h1 : to ≤ 3) (hb : body.length ≤ 512) (hbb : Byt body) (hnr : NR 8 cn) (hn : n = (wrG d s k to 8 cn body).length) (w : World) (hp : RdSl w p u8V (wrG d s k to 8 cn body)) :
    CallM Tryz.prog 88 [.slice p n cap] [] w fun v L => ∃ ov t, t.length = 32 ∧ OvOk 1 ov body.length (u8s body) ∧ v = .tuple #[.agg ⟨pkC k d to 8 cn (ovp ov) body.length (ovc ov body.length) t⟩, .int .i64 0] ∧ L = blkL 5 ov (u8s body) :=
  (parse_wr p n cap k d to 8 cn body _ (wrT_len _ _ _ _ _ _ _) (wrT_byt9 _ _ _ _ _ _ _) hbb (wr_check (wrE_up hk h0 h1 hb) hr hnr s body) hn w hp).wk fun v L ⟨ov, h1, h2, h3⟩ => ⟨ov, _, wrT_len _ _ _ _ _ _ _, h1, h2, h3⟩
end Go.Proofs.YtidjnjlejhoalaaGreat
