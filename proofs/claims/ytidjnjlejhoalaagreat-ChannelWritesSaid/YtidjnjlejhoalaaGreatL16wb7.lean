/- Texts of the proof: Cw2, Lcw. -/
import Derived.Test.YtidjnjlejhoalaaGreatL16wb6
set_option linter.unusedSimpArgs false
set_option linter.unusedVariables false
namespace Go.Proofs.YtidjnjlejhoalaaGreat
open Go.RowKit Go.Shelf
set_option maxRecDepth 100000
/-- A letter that is to be written. -/
structure LT where
  k : Int
  to : Int
  p : Option Addr
  cap : Nat
  xs : List Int
instance : Inhabited LT := ⟨⟨0, 0, none, 0, []⟩⟩
def LT.v (x : LT) : List Value := [.int .i64 x.k, .int .i64 x.to, .slice x.p x.xs.length x.cap]
theorem LT.v_len (x : LT) : x.v.length = 3 := rfl
structure LT.okR (w : World) (x : LT) : Prop where
  rd : RdSl w x.p u8V x.xs
  byt : Byt x.xs
  cap : x.xs.length ≤ x.cap
theorem wboot_ok (bn : Nat) (boot cnt : Int) (w : World) (h : ∃ e f, w.heap[bn]? = some (.cells ⟨[.int .i64 boot, .int .i64 cnt]⟩ e f)) : CallW Tryz.prog 151 [.pointer (some ⟨bn, 0, none⟩)] w fun v _ => v = .int .i64 boot := by
  obtain ⟨e, f, h⟩ := h
  refine enterW (tb := tb) Tryz.func151 rfl Tryz.ntmps151 rfl ?_
  repeat' (first | (apply R.is1; first | (apply R.isBin; (apply R.pure; exact rfl; (apply Ok1.eqlP; (iterate 5 exact rfl)))) | (apply R.pure; exact rfl; first | (apply Ok1.load; exact rfl; (apply Ld.blk1; exact rfl; exact rfl; exact h; exact List.not_mem_nil; exact rfl)) | (apply Ok1.move; exact rfl) | (apply Ok1.fieldAddr; (iterate 5 exact rfl)) | (apply Ok1.assign; exact rfl) | (apply Ok1.nilCheck; exact rfl))) | apply R.nil | (apply T.is; first | apply T.seq | apply T.region | apply T.skip | apply T.ret | (apply T.cond_f; exact rfl)))
  (apply RetOk.t; exact rfl)
  rfl
theorem chboot_ok (bc bn br bb bd : Nat) (sd : List Value) (boot cnt : Int) (w : World) (h : ∃ e f, w.heap[bc]? = some (.cells ⟨chC bn br bb bd sd⟩ e f)) (h2 : ∃ e f, w.heap[bn]? = some (.cells ⟨[.int .i64 boot, .int .i64 cnt]⟩ e f)) : CallW Tryz.prog 58 [.pointer (some ⟨bc, 0, none⟩)] w fun v _ => v = .int .i64 boot := by
  obtain ⟨e, f, h⟩ := h
  have hb := fun w1 (hc : Chg [] w w1) => wboot_ok bn boot cnt w1 (by obtain ⟨e, f, h2⟩ := h2; exact ⟨e, f, hc.heap h2 List.not_mem_nil⟩)
  unfold chC at h
  refine enterW (tb := tb) Tryz.func58 rfl Tryz.ntmps58 rfl ?_
  repeat' (first | (apply R.is1; first | (apply R.isBin; (apply R.pure; exact rfl; (apply Ok1.eqlP; (iterate 5 exact rfl)))) | (apply R.isCall; (apply R.callV (vs := [.pointer (some ⟨bn, 0, none⟩)]); (iterate 3 exact rfl); intro w1 hw1; exact hb w1 hw1.chg)) | (apply R.pure; exact rfl; first | (apply Ok1.load; exact rfl; (apply Ld.blk1; exact rfl; exact rfl; exact h; exact List.not_mem_nil; exact rfl)) | (apply Ok1.move; exact rfl) | (apply Ok1.fieldAddr; (iterate 5 exact rfl)) | (apply Ok1.assign; exact rfl) | (apply Ok1.nilCheck; exact rfl))) | apply R.nil | (apply T.is; first | apply T.seq | apply T.region | apply T.skip | apply T.ret | (apply T.cond_f; exact rfl)))
  (apply RetOk.t; exact rfl)
  rfl
theorem writes16_ok (p0 : Option Addr) (n0 c0 : Nat) (x0 : List Int) (h0 : n0 = x0.length) (hc0 : n0 ≤ c0) (hb0 : Byt x0) (c : Cl) (boot : Int) (pl : Option Addr) (cl : Nat) (ls : List LT) (w : World) (hr0 : RdSl w p0 u8V x0) (hl : RdSl w pl LT.v ls) (hls : ∀ x ∈ ls, x.okR w) :
    CallW Tryz.prog 8 [.slice p0 n0 c0, kvC c, .int .i64 boot, .slice pl ls.length cl] w fun v _ => v = .bool true := by
  have hmk := fun w1 (h : Chg [] w w1) => make16_ok p0 n0 c0 x0 h0 hc0 hb0 c boot w1 (hr0.chg' h (fun _ => Off.nil _))
  have hr := tcl_right c
  have hnr := btI_nr boot
  have hvm := vmake_ok
  have htl := tab_len
  have hto : tabV.all Value.oneCell' = true := rfl
  simp only [kvC] at hmk ⊢
  generalize tcl c = d at *
  generalize btI boot = B at *
  refine enterW (tb := tb) Tryz.func8 rfl Tryz.ntmps8 rfl ?_
  repeat' (first | (apply R.is1; first | (apply R.isCall; (apply R.callE (vs := [.slice p0 n0 c0, .agg _, .int .i64 boot, .slice none 0 0, .slice none 0 0]); (iterate 3 exact rfl); exact Ext.none _; intro w1 hw1; exact hmk w1 hw1.chg; rintro v Lo ⟨s, bc, bn, br, bb, bd, bm, m1, m2, sd, dr, bM, bS, hsl, hsb, rfl, rfl⟩)) | (apply R.pure; exact rfl; first | (apply Ok1.move; exact rfl) | (apply Ok1.load; exact rfl; (apply Ld.ownk; exact rfl; exact rfl; exact At.head; exact rfl)) | (apply Ok1.assign; exact rfl) | (apply Ok1.extract; exact rfl; exact rfl)) | (apply R.box; (iterate 3 exact rfl); intro)) | apply R.nil | (apply T.is; first | (apply T.stop 2) | apply T.seq | apply T.region))
  refine ⟨?_⟩
  have htk : ∀ X Y Z : Lst, Keep (MB bM d s B 0 mbR0 :: (SetL bS [lg0, lg0, lg0, lg0] ++ ChL bc bn br bb bd bm m1 m2 d s B sd dr) ++ X) [MB bM d s B 0 mbR0, (bn, .cells ⟨[.int .i64 B, .int .i64 0]⟩ 379 (0, 0)), (bc, .cells ⟨chC bn br bb bd sd⟩ 275 (0, 0)), (br, .cells ⟨ringC d s m1 m2⟩ 300 (0, 0))] := fun X Y Z => by
    unfold ChL RL0
    generalize SetL bS [lg0, lg0, lg0, lg0] = SS
    generalize BL bb bm [] 0 = BB
    simp only [List.cons_append, List.append_assoc, List.nil_append]
    (focus ((repeat' (first | exact Keep.nil _ | exact Ext.one _ _ | apply Keep.cons | apply Ext.cons | apply Ext.app)); done))
  refine T.weakK (σ' := [(3, .slice pl ls.length cl), (9, .pointer (some ⟨bc, 0, none⟩)), (10, .pointer (some ⟨bM, 0, none⟩))]) (L' := [MB bM d s B 0 mbR0, (bn, .cells ⟨[.int .i64 B, .int .i64 0]⟩ 379 (0, 0)), (bc, .cells ⟨chC bn br bb bd sd⟩ 275 (0, 0)), (br, .cells ⟨ringC d s m1 m2⟩ 300 (0, 0))]) ?_ (htk _ [] []) ⟨rfl, rfl, rfl, trivial⟩
  clear htk hmk
  have hmb0 := fun n => mb_at (c := d) hsl B n mbR0 0
  have hbt := fun w1 L S (hw1 : Hp w S L w1) (g1 : At L bc (.cells ⟨chC bn br bb bd sd⟩ 275 (0, 0))) (g2 : At L bn (.cells ⟨[.int .i64 B, .int .i64 0]⟩ 379 (0, 0))) => chboot_ok bc bn br bb bd sd B 0 w1 ⟨_, _, hw1.get _ _ g1.mem⟩ ⟨_, _, hw1.get _ _ g2.mem⟩
  generalize htb : tabV = tbl at *
  unfold MB
  repeat' (first | (apply R.is1; first | (apply R.isCall; apply R.callP rfl rfl rfl hvm) | (apply R.alloc; (iterate 3 exact rfl); intro)) | (apply R.is0; (apply R.store; (iterate 4 exact rfl); exact htl; exact hto; exact Upd.head; exact setE_all htl)) | apply R.nil | (apply T.is; first | (apply T.stop 5) | (apply T.drawC (id := 2) [0] (by decide); ((apply A.take 0; exact rfl; exact rfl; kernel_rfl; kernel_rfl; kernel_rfl; (apply Ok1.move; exact rfl)) <;> ((apply A.take 1; exact rfl; exact rfl; kernel_rfl; kernel_rfl; kernel_rfl; (apply Ok1.eqlP; (iterate 5 exact rfl)))) <;> (apply A.take 2; exact rfl; exact rfl; kernel_rfl; kernel_rfl; kernel_rfl; (apply Ok1.move; exact rfl)) <;> ((apply A.takeG 3; exact rfl; exact rfl; rotate_left 3; exact rfl; exact rfl; rotate_right 3; kernel_rfl; kernel_rfl; kernel_rfl; (apply Ok1.move; exact rfl))) <;> ((apply A.takeG 5; exact rfl; exact rfl; rotate_left 3; exact rfl; exact rfl; rotate_right 3; kernel_rfl; kernel_rfl; kernel_rfl; (apply Ok1.move; exact rfl))) <;> ((apply A.takeG 6; exact rfl; exact rfl; rotate_left 3; exact rfl; exact rfl; rotate_right 3; kernel_rfl; kernel_rfl; kernel_rfl; (apply Ok1.nilCheck; exact rfl))) <;> ((apply A.takeG 7; exact rfl; exact rfl; rotate_left 3; exact rfl; exact rfl; rotate_right 3; kernel_rfl; kernel_rfl; kernel_rfl; (apply Ok1.fieldAddr; (iterate 5 exact rfl)))) <;> ((apply A.takeG 8; exact rfl; exact rfl; rotate_left 3; exact rfl; exact rfl; rotate_right 3; kernel_rfl; kernel_rfl; kernel_rfl; (apply Ok1.load; exact rfl; (apply Ld.own1; exact rfl; exact rfl; exact At.head; exact hmb0 0)))) <;> (apply A.one 4; kernel_rfl; exact rfl; (((apply R.isG; apply R.guard_run; exact rfl; exact rfl; ((apply R.callV (vs := [.pointer (some ⟨bc, 0, none⟩)]); (iterate 3 exact rfl); intro w1 hw1; exact hbt w1 _ _ hw1 (by (focus ((repeat' (first | exact At.head | apply At.tail)); done))) (by (focus ((repeat' (first | exact At.head | apply At.tail)); done)))))))); apply R.nil; refine ⟨?_, ?_⟩; (focus ((repeat' (first | exact trivial | (refine ⟨?_, ?_⟩; exact At.head)))))) <;> ((apply A.takeG 9; exact rfl; exact rfl; rotate_left 3; exact rfl; exact rfl; rotate_right 3; kernel_rfl; kernel_rfl; kernel_rfl; (apply Ok1.neq_f; exact rfl; exact rfl; omega))) <;> (apply A.take 10; exact rfl; exact rfl; kernel_rfl; kernel_rfl; kernel_rfl; (apply Ok1.pick_f; exact rfl; exact rfl)) <;> (apply A.done; kernel_rfl))) | apply T.seq | apply T.region | apply T.skip | (apply T.cond_f; exact rfl)))
  rename_i bt
  refine ⟨?_⟩
  repeat' (first | (apply R.is1; (apply R.pure; exact rfl; (apply Ok1.assign; exact rfl))) | apply R.nil | (apply T.is; first | apply T.seq | apply T.region | apply T.block))
  apply T.loopK (α := Nat × Int) (I := fun y => y.1 ≤ ls.length ∧ y.1 ≤ 8 ∧ 0 ≤ y.2 ∧ y.2 ≤ y.1) (σi := fun y => [(3, .slice pl ls.length cl), (9, .pointer (some ⟨bc, 0, none⟩)), (10, .pointer (some ⟨bM, 0, none⟩)), (12, .pointer (some ⟨bt, 0, none⟩)), (13, .int .i64 y.1)]) (Li := fun y => [(bt, .cells ⟨tbl⟩ 31 (0, 0)), (bM, .cells ⟨mbC d s B y.2 mbR0⟩ 133 (0, 0)), (bn, .cells ⟨[.int .i64 B, .int .i64 y.2]⟩ 379 (0, 0)), (bc, .cells ⟨chC bn br bb bd sd⟩ 275 (0, 0)), (br, .cells ⟨ringC d s m1 m2⟩ 300 (0, 0))]) (μ := fun y => ls.length - y.1) (i0 := (0, 0))
  · exact ⟨Nat.zero_le _, by decide, by decide, by decide⟩
  · exact ⟨rfl, rfl, rfl, rfl, rfl, trivial⟩
  · (focus ((repeat' (first | exact Keep.nil _ | exact Ext.one _ _ | apply Keep.cons)); done))
  rintro ⟨i, cnt⟩ ⟨hi, hi8, hcn0, hcn⟩
  simp only at hi hi8 hcn0 hcn ⊢
  by_cases hlt : i < ls.length ∧ i < 8
  case neg =>
    have hkn := known16_ok
    repeat' (first | (apply R.is1; first | (apply R.isBin; first | (apply R.pure; exact rfl; (apply Ok1.lss_f; exact rfl; exact rfl; omega)) | (apply R.lss rfl rfl rfl <;> intro)) | (apply R.isCall; first | apply R.callP rfl rfl rfl hkn | (apply R.pure; exact rfl; (apply Ok1.lenS; (iterate 3 exact rfl)))) | (apply R.pure; exact rfl; first | (apply Ok1.move; exact rfl) | (apply Ok1.assign; exact rfl) | (apply Ok1.pick_t; exact rfl; exact rfl) | (apply Ok1.pick_f; exact rfl; exact rfl))) | (apply R.isG; first | (apply R.guard_run; exact rfl; exact rfl) | (apply R.guard_not; (iterate 3 exact rfl))) | apply R.nil | (apply T.is; first | apply T.seq | apply T.region | apply T.exit | apply T.ret | (apply T.cond_f; exact rfl)))
    all_goals (apply RetOk.t; exact rfl)
    all_goals rfl
  obtain ⟨x, hx⟩ : ∃ x, ls[i]? = some x := ⟨_, List.getElem?_eq_getElem (by omega)⟩
  obtain ⟨b, o, hpe, H⟩ := hl.at hx
  replace H := H 3 LT.v_len
  obtain ⟨xrd, xbt, xcp⟩ := hls x (List.mem_of_getElem? hx)
  obtain ⟨m, hm⟩ : ∃ m, m = min x.xs.length 520 := ⟨_, rfl⟩
  have em : min (x.xs.length : Int) 520 = (m : Nat) := by omega
  have hml : m = (x.xs.take m).length := by rw [List.length_take]; omega
  have hbb : Byt (x.xs.take m) := fun y hy => xbt y (List.mem_of_mem_take hy)
  have hrd := xrd.pre u8V_len m
  generalize x.xs.take m = body at *
  have hnr2 : NR B (cnt + 1) := by unfold NR at *; omega
  obtain ⟨G, hG⟩ : ∃ G, G = if wrE x.k x.to m = 0 then wrG d s x.k x.to B (cnt + 1) body else [] := ⟨_, rfl⟩
  obtain ⟨cnt', hcnt'⟩ : ∃ n, n = if wrE x.k x.to m = 0 then cnt + 1 else cnt := ⟨_, rfl⟩
  have hwr := fun w1 L Lr S (hw1 : Hp w S L w1) (he : Ext L [(bn, .cells ⟨[.int .i64 B, .int .i64 cnt]⟩ 379 (0, 0))] Lr) (g1 : At L bc (.cells ⟨chC bn br bb bd sd⟩ 275 (0, 0))) (g2 : At L br (.cells ⟨ringC d s m1 m2⟩ 300 (0, 0))) (g3 : At L bn (.cells ⟨[.int .i64 B, .int .i64 cnt]⟩ 379 (0, 0))) (hch : Chg [] w w1) (hw2 : Hp w [] L w1) => (chwriteG bc bn br bb bd sd 275 (0, 0) d hr s hsl hsb m1 m2 300 x.k x.to B cnt hnr2 hcn0 x.p m x.cap body hml hbb w1 (hw1.get _ _ g1.mem) (hw1.get _ _ g2.mem) (hw1.neT g1 g3 (by decide)) (hw1.neT g2 g3 (by decide)) (hrd.chg' hch (fun _ => Off.nil _)) (RdSl.old u8V_len (by decide) hrd (fun _ => Off.nil _) hw2 he)).wk (R' := fun v L => ∃ ov, OvOk 1 ov G.length (u8s G) ∧ v = .tuple #[.slice (ovp ov) G.length (ovc ov G.length), .int .i64 (wrE x.k x.to m)] ∧ L = (bn, .cells ⟨[.int .i64 B, .int .i64 cnt']⟩ 379 (0, 0)) :: blkL 5 ov (u8s G)) (by
    rintro v L (⟨g, rfl, rfl⟩ | ⟨g, ov, hov, rfl, rfl⟩)
    · rw [if_neg g] at hG hcnt'
      subst hG hcnt'
      exact ⟨none, OvOk.start 1, rfl, rfl⟩
    · rw [if_pos g] at hG hcnt'
      subst hG hcnt'
      exact ⟨ov, hov, by rw [slV_eq hov, g], rfl⟩)
  have hvw := fun w1 L Lr S (hw1 : Hp w S L w1) (he : Ext L [(bM, .cells ⟨mbC d s B cnt mbR0⟩ 133 (0, 0))] Lr) (hch : Chg [] w w1) (hw2 : Hp w [] L w1) => (vwrite16_ok bM d hr s hsl hsb B cnt hnr2 hcn0 mbR0 x.k x.to x.p m x.cap body hml hbb w1 (hrd.chg' hch (fun _ => Off.nil _)) (RdSl.old u8V_len (by decide) hrd (fun _ => Off.nil _) hw2 he)).wk (R' := fun v L => ∃ ov, OvOk 1 ov G.length (u8s G) ∧ v = .tuple #[.slice (ovp ov) G.length (ovc ov G.length), .int .i64 (wrE x.k x.to m)] ∧ L = (bM, .cells ⟨mbC d s B cnt' mbR0⟩ 133 (0, 0)) :: blkL 5 ov (u8s G)) (by
    rintro v L (⟨g, rfl, rfl⟩ | ⟨g, ov, hov, rfl, rfl⟩)
    · rw [if_neg g] at hG hcnt'
      subst hG hcnt'
      exact ⟨none, OvOk.start 1, rfl, rfl⟩
    · rw [if_pos g] at hG hcnt'
      subst hG hcnt'
      exact ⟨ov, hov, by rw [slV_eq hov, g], rfl⟩)
  rw [htb] at hvw
  unfold MB at hvw
  have hGl : G.length ≤ 1000000 := by
    rw [hG]
    split
    · unfold wrG; rw [pkB_len _ _ _ _ _ _ (wrT_len _ _ _ _ _ _ _)]; omega
    · exact Nat.zero_le _
  have hcc : 0 ≤ cnt' ∧ cnt' ≤ i + 1 := by rw [hcnt']; split <;> omega
  have hsa := fun p c q e w1 h g => same_ok p q G.length G.length c e G G rfl rfl (by omega) w1 h g
  rw [decide_eq_true (rfl : G = G)] at hsa
  have hwy := way_ok x.k
  clear hG hcnt' hnr2
  generalize wrE x.k x.to m = E at *
  have hkk : (0 < x.k ∧ x.k < 15 ∧ CallP Tryz.prog 61 [.int .i64 x.k] (.int .i64 (wayI x.k))) ∨ (¬ (0 < x.k ∧ x.k < 15) ∧ wayI x.k = 0) := by
    by_cases h : 0 < x.k ∧ x.k < 15
    · exact .inl ⟨h.1, h.2, vway_ok x.k (by omega) (by omega)⟩
    · refine .inr ⟨h, ?_⟩
      unfold wayI
      (repeat' split) <;> omega
  generalize mbC d s B cnt mbR0 = MA at *
  generalize hMA2 : mbC d s B cnt' mbR0 = MA2 at *
  repeat' (first | (apply R.is1; first | (apply R.isBin; (apply R.pure; exact rfl; (apply Ok1.lss_t; exact rfl; exact rfl; omega))) | (apply R.isCall; (apply R.pure; exact rfl; (apply Ok1.lenS; (iterate 3 exact rfl)))) | (apply R.pure; exact rfl; first | (apply Ok1.move; exact rfl) | (apply Ok1.pick_t; exact rfl; exact rfl))) | (apply R.isG; (apply R.guard_run; exact rfl; exact rfl)) | apply R.nil | (apply T.is; first | (apply T.stop1 10) | (apply T.drawC (id := 8) [] (by decide); ((apply A.take 0; exact rfl; exact rfl; kernel_rfl; kernel_rfl; kernel_rfl; (apply Ok1.move; exact rfl)) <;> (apply A.take 1; exact rfl; exact rfl; kernel_rfl; kernel_rfl; kernel_rfl; (apply Ok1.move; exact rfl)) <;> (apply A.take 2; exact rfl; exact rfl; kernel_rfl; kernel_rfl; kernel_rfl; (apply Ok1.indexAddrP; (iterate 4 exact rfl); exact hpe; exact rfl; omega; omega)) <;> (apply A.take 3; exact rfl; exact rfl; kernel_rfl; kernel_rfl; kernel_rfl; (apply Ok1.fieldAddr; (iterate 5 exact rfl))) <;> (apply A.take 4; exact rfl; exact rfl; kernel_rfl; kernel_rfl; kernel_rfl; (apply Ok1.load; exact rfl; (apply Ld.row1 H; exact rfl; exact List.not_mem_nil; (iterate 3 exact rfl)))) <;> (apply A.take 5; exact rfl; exact rfl; kernel_rfl; kernel_rfl; kernel_rfl; (apply Ok1.move; exact rfl)) <;> (apply A.take 6; exact rfl; exact rfl; kernel_rfl; kernel_rfl; kernel_rfl; (apply Ok1.move; exact rfl)) <;> (apply A.take 7; exact rfl; exact rfl; kernel_rfl; kernel_rfl; kernel_rfl; (apply Ok1.indexAddrP; (iterate 4 exact rfl); exact hpe; exact rfl; omega; omega)) <;> (apply A.take 8; exact rfl; exact rfl; kernel_rfl; kernel_rfl; kernel_rfl; (apply Ok1.fieldAddr; (iterate 5 exact rfl))) <;> (apply A.take 9; exact rfl; exact rfl; kernel_rfl; kernel_rfl; kernel_rfl; (apply Ok1.load; exact rfl; (apply Ld.row1 H; exact rfl; exact List.not_mem_nil; (iterate 3 exact rfl)))) <;> (apply A.take 10; exact rfl; exact rfl; kernel_rfl; kernel_rfl; kernel_rfl; (apply Ok1.lenS; (iterate 3 exact rfl))) <;> (apply A.take 11; exact rfl; exact rfl; kernel_rfl; kernel_rfl; kernel_rfl; (apply Ok1.min2E; exact rfl; exact rfl; exact em)) <;> (apply A.take 12; exact rfl; exact rfl; kernel_rfl; kernel_rfl; kernel_rfl; (apply Ok1.preR (i := m); (iterate 5 exact rfl); omega)) <;> (apply A.take 13; exact rfl; exact rfl; kernel_rfl; kernel_rfl; kernel_rfl; (apply Ok1.assign; exact rfl)) <;> (apply A.done; kernel_rfl))) | (apply T.drawC (id := 9) [] (by decide); ((apply A.take 0; exact rfl; exact rfl; kernel_rfl; kernel_rfl; kernel_rfl; (apply Ok1.move; exact rfl)) <;> (apply A.take 1; exact rfl; exact rfl; kernel_rfl; kernel_rfl; kernel_rfl; (apply Ok1.move; exact rfl)) <;> (apply A.take 2; exact rfl; exact rfl; kernel_rfl; kernel_rfl; kernel_rfl; (apply Ok1.move; exact rfl)) <;> (apply A.take 3; exact rfl; exact rfl; kernel_rfl; kernel_rfl; kernel_rfl; (apply Ok1.indexAddrP; (iterate 4 exact rfl); exact hpe; exact rfl; omega; omega)) <;> (apply A.take 4; exact rfl; exact rfl; kernel_rfl; kernel_rfl; kernel_rfl; (apply Ok1.fieldAddr; (iterate 5 exact rfl))) <;> (apply A.take 5; exact rfl; exact rfl; kernel_rfl; kernel_rfl; kernel_rfl; (apply Ok1.load; exact rfl; (apply Ld.row0 H; exact rfl; exact List.not_mem_nil; (iterate 3 exact rfl)))) <;> (apply A.take 6; exact rfl; exact rfl; kernel_rfl; kernel_rfl; kernel_rfl; (apply Ok1.move; exact rfl)) <;> (apply A.take 7; exact rfl; exact rfl; kernel_rfl; kernel_rfl; kernel_rfl; (apply Ok1.move; exact rfl)) <;> (apply A.take 8; exact rfl; exact rfl; kernel_rfl; kernel_rfl; kernel_rfl; (apply Ok1.indexAddrP; (iterate 4 exact rfl); exact hpe; exact rfl; omega; omega)) <;> (apply A.take 9; exact rfl; exact rfl; kernel_rfl; kernel_rfl; kernel_rfl; (apply Ok1.fieldAddr; (iterate 5 exact rfl))) <;> (apply A.take 10; exact rfl; exact rfl; kernel_rfl; kernel_rfl; kernel_rfl; (apply Ok1.load; exact rfl; (apply Ld.row1 H; exact rfl; exact List.not_mem_nil; (iterate 3 exact rfl)))) <;> (apply A.take 11; exact rfl; exact rfl; kernel_rfl; kernel_rfl; kernel_rfl; (apply Ok1.move; exact rfl)) <;> (apply A.one 12; kernel_rfl; exact rfl; (((apply R.callE (Li := [(bn, .cells ⟨[.int .i64 B, .int .i64 cnt]⟩ 379 (0, 0))]) (vs := [.pointer (some ⟨bc, 0, none⟩), .int .i64 x.k, .int .i64 x.to, .slice x.p m x.cap]); (iterate 3 exact rfl); (focus ((repeat' (first | exact Ext.one _ _ | apply Ext.cons)); done)); intro w1 hw1; exact hwr w1 _ _ _ hw1 (by (focus ((repeat' (first | exact Ext.one _ _ | apply Ext.cons)); done))) (by (focus ((repeat' (first | exact At.head | apply At.tail)); done))) (by (focus ((repeat' (first | exact At.head | apply At.tail)); done))) (by (focus ((repeat' (first | exact At.head | apply At.tail)); done))) hw1.chg hw1; rintro v Lo ⟨ovx, hovx, rfl, rfl⟩))); apply R.nil; refine ⟨?_, ?_⟩; (focus ((repeat' (exact trivial))))) <;> (apply A.take 13; exact rfl; exact rfl; kernel_rfl; kernel_rfl; kernel_rfl; (apply Ok1.move; exact rfl)) <;> (apply A.take 14; exact rfl; exact rfl; kernel_rfl; kernel_rfl; kernel_rfl; (apply Ok1.extract; exact rfl; exact rfl)) <;> (apply A.take 15; exact rfl; exact rfl; kernel_rfl; kernel_rfl; kernel_rfl; (apply Ok1.extract; exact rfl; exact rfl)) <;> (apply A.take 16; exact rfl; exact rfl; kernel_rfl; kernel_rfl; kernel_rfl; (apply Ok1.assign; exact rfl)) <;> (apply A.take 17; exact rfl; exact rfl; kernel_rfl; kernel_rfl; kernel_rfl; (apply Ok1.assign; exact rfl)) <;> (apply A.done; kernel_rfl))) | apply T.seq | apply T.region | apply T.block | apply T.skip | (apply T.cond_t; exact rfl)))
  all_goals refine ⟨?_⟩
  all_goals refine T.weakK (σ' := [(3, .slice pl ls.length cl), (9, .pointer (some ⟨bc, 0, none⟩)), (10, .pointer (some ⟨bM, 0, none⟩)), (12, .pointer (some ⟨bt, 0, none⟩)), (13, .int .i64 i), (14, .slice x.p m x.cap), (15, .slice (ovp ovx) G.length (ovc ovx G.length)), (16, .int .i64 E)]) (L' := (bt, .cells ⟨tbl⟩ 31 (0, 0)) :: (bM, .cells ⟨MA⟩ 133 (0, 0)) :: (bn, .cells ⟨[.int .i64 B, .int .i64 cnt']⟩ 379 (0, 0)) :: (bc, .cells ⟨chC bn br bb bd sd⟩ 275 (0, 0)) :: (br, .cells ⟨ringC d s m1 m2⟩ 300 (0, 0)) :: blkL 5 ovx (u8s G)) ?_ (by (focus ((repeat' (first | exact Ext.one _ _ | exact Ext.here _ _ | apply Keep.cons | apply Keep.last | apply Ext.cons | apply Ext.app)); done))) ⟨rfl, rfl, rfl, rfl, rfl, rfl, rfl, rfl, trivial⟩
  rcases hkk with ⟨hk1, hk2, hkw⟩ | ⟨hk1, hk2⟩
  case' inr => rw [hk2] at hwy
  case' inl => generalize wayI x.k = wk at *
  case' inl => repeat' (first | (apply R.is1; first | (apply R.isBin; (apply R.pure; exact rfl; first | (apply Ok1.add64; exact rfl; exact rfl; omega; omega) | (apply Ok1.lss_t; exact rfl; exact rfl; omega) | (apply Ok1.gtr_t; exact rfl; exact rfl; omega) | (apply Ok1.neq_f; exact rfl; exact rfl; omega))) | (apply R.isCall; first | (apply R.callV (vs := [.slice (ovp ovx) G.length (ovc ovx G.length), .slice (ovp ovy) G.length (ovc ovy G.length)]); (iterate 3 exact rfl); intro w1 hw1; exact hsa _ _ _ _ w1 (RdSl.own' hw1 (Ext.mem (by rw [fl_u8]; (focus ((repeat' (first | exact Ext.all _ | apply Ext.cons | apply Ext.app)); done)))) (by rw [fl_u8]; exact hovx) u8V_len) (RdSl.own' hw1 (Ext.mem (by rw [fl_u8]; (focus ((repeat' (first | exact Ext.here _ _ | apply Ext.cons)); done)))) (by rw [fl_u8]; exact hovy) u8V_len)) | apply R.callP rfl rfl rfl hwy | apply R.callP rfl rfl rfl hkw) | (apply R.pure; exact rfl; first | (apply Ok1.indexAddrP; (iterate 4 exact rfl); exact hpe; exact rfl; omega; omega) | (apply Ok1.load; exact rfl; (apply Ld.row0 H; exact rfl; exact List.not_mem_nil; (iterate 3 exact rfl))) | (apply Ok1.move; exact rfl) | (apply Ok1.fieldAddr; (iterate 5 exact rfl)) | (apply Ok1.assign; exact rfl) | (apply Ok1.pick_t; exact rfl; exact rfl) | (apply Ok1.pick_f; exact rfl; exact rfl) | (apply Ok1.not_t; exact rfl))) | (apply R.isG; (apply R.guard_run; exact rfl; exact rfl)) | apply R.nil | (apply T.is; first | (apply T.drawC (id := 10) [0] (by decide); ((apply A.take 0; exact rfl; exact rfl; kernel_rfl; kernel_rfl; kernel_rfl; (apply Ok1.load; exact rfl; (apply Ld.ownk; exact rfl; exact rfl; exact At.head; exact subE_all htl))) <;> (apply A.take 1; exact rfl; exact rfl; kernel_rfl; kernel_rfl; kernel_rfl; (apply Ok1.move; exact rfl)) <;> (apply A.take 2; exact rfl; exact rfl; kernel_rfl; kernel_rfl; kernel_rfl; (apply Ok1.move; exact rfl)) <;> (apply A.take 3; exact rfl; exact rfl; kernel_rfl; kernel_rfl; kernel_rfl; (apply Ok1.move; exact rfl)) <;> (apply A.take 4; exact rfl; exact rfl; kernel_rfl; kernel_rfl; kernel_rfl; (apply Ok1.indexAddrP; (iterate 4 exact rfl); exact hpe; exact rfl; omega; omega)) <;> (apply A.take 5; exact rfl; exact rfl; kernel_rfl; kernel_rfl; kernel_rfl; (apply Ok1.fieldAddr; (iterate 5 exact rfl))) <;> (apply A.take 6; exact rfl; exact rfl; kernel_rfl; kernel_rfl; kernel_rfl; (apply Ok1.load; exact rfl; (apply Ld.row0 H; exact rfl; exact List.not_mem_nil; (iterate 3 exact rfl)))) <;> (apply A.take 7; exact rfl; exact rfl; kernel_rfl; kernel_rfl; kernel_rfl; (apply Ok1.move; exact rfl)) <;> (apply A.take 8; exact rfl; exact rfl; kernel_rfl; kernel_rfl; kernel_rfl; (apply Ok1.move; exact rfl)) <;> (apply A.take 9; exact rfl; exact rfl; kernel_rfl; kernel_rfl; kernel_rfl; (apply Ok1.indexAddrP; (iterate 4 exact rfl); exact hpe; exact rfl; omega; omega)) <;> (apply A.take 10; exact rfl; exact rfl; kernel_rfl; kernel_rfl; kernel_rfl; (apply Ok1.fieldAddr; (iterate 5 exact rfl))) <;> (apply A.take 11; exact rfl; exact rfl; kernel_rfl; kernel_rfl; kernel_rfl; (apply Ok1.load; exact rfl; (apply Ld.row1 H; exact rfl; exact List.not_mem_nil; (iterate 3 exact rfl)))) <;> (apply A.take 12; exact rfl; exact rfl; kernel_rfl; kernel_rfl; kernel_rfl; (apply Ok1.move; exact rfl)) <;> (apply A.one 13; kernel_rfl; exact rfl; (((apply R.callE (Li := [(bM, .cells ⟨MA⟩ 133 (0, 0))]) (vs := [.agg ⟨tbl⟩, .pointer (some ⟨bM, 0, none⟩), .int .i64 x.k, .int .i64 x.to, .slice x.p m x.cap]); (iterate 3 exact rfl); (focus ((repeat' (first | exact Ext.one _ _ | apply Ext.cons)); done)); intro w1 hw1; exact hvw w1 _ _ _ hw1 (by (focus ((repeat' (first | exact Ext.one _ _ | apply Ext.cons)); done))) hw1.chg hw1; rintro v Lo ⟨ovy, hovy, rfl, rfl⟩))); apply R.nil; refine ⟨?_, ?_⟩; (focus ((repeat' (first | exact trivial | (refine ⟨?_, ?_⟩; (focus ((repeat' (first | exact At.head | apply At.tail | apply At.right)); done)))))))) <;> (apply A.take 14; exact rfl; exact rfl; kernel_rfl; kernel_rfl; kernel_rfl; (apply Ok1.move; exact rfl)) <;> (apply A.take 15; exact rfl; exact rfl; kernel_rfl; kernel_rfl; kernel_rfl; (apply Ok1.extract; exact rfl; exact rfl)) <;> (apply A.take 16; exact rfl; exact rfl; kernel_rfl; kernel_rfl; kernel_rfl; (apply Ok1.extract; exact rfl; exact rfl)) <;> (apply A.take 17; exact rfl; exact rfl; kernel_rfl; kernel_rfl; kernel_rfl; (apply Ok1.assign; exact rfl)) <;> (apply A.take 18; exact rfl; exact rfl; kernel_rfl; kernel_rfl; kernel_rfl; (apply Ok1.assign; exact rfl)) <;> (apply A.done; kernel_rfl))) | apply T.seq | apply T.region | apply T.skip | (apply T.cond_t; exact rfl) | (apply T.cond_f; exact rfl)))
  case' inr => repeat' (first | (apply R.is1; first | (apply R.isBin; first | (apply R.pure; exact rfl; first | (apply Ok1.add64; exact rfl; exact rfl; omega; omega) | (apply Ok1.lss_f; exact rfl; exact rfl; omega) | (apply Ok1.neq_f; exact rfl; exact rfl; omega)) | (apply R.gtr rfl rfl rfl <;> intro)) | (apply R.isCall; first | (apply R.callV (vs := [.slice (ovp ovx) G.length (ovc ovx G.length), .slice (ovp ovy) G.length (ovc ovy G.length)]); (iterate 3 exact rfl); intro w1 hw1; exact hsa _ _ _ _ w1 (RdSl.own' hw1 (Ext.mem (by rw [fl_u8]; (focus ((repeat' (first | exact Ext.all _ | apply Ext.cons | apply Ext.app)); done)))) (by rw [fl_u8]; exact hovx) u8V_len) (RdSl.own' hw1 (Ext.mem (by rw [fl_u8]; (focus ((repeat' (first | exact Ext.here _ _ | apply Ext.cons)); done)))) (by rw [fl_u8]; exact hovy) u8V_len)) | apply R.callP rfl rfl rfl hwy) | (apply R.pure; exact rfl; first | (apply Ok1.indexAddrP; (iterate 4 exact rfl); exact hpe; exact rfl; omega; omega) | (apply Ok1.load; exact rfl; (apply Ld.row0 H; exact rfl; exact List.not_mem_nil; (iterate 3 exact rfl))) | (apply Ok1.move; exact rfl) | (apply Ok1.fieldAddr; (iterate 5 exact rfl)) | (apply Ok1.assign; exact rfl) | (apply Ok1.pick_t; exact rfl; exact rfl) | (apply Ok1.pick_f; exact rfl; exact rfl) | (apply Ok1.not_t; exact rfl))) | (apply R.isG; first | (apply R.guard_run; exact rfl; exact rfl) | (apply R.guard_not; (iterate 3 exact rfl))) | apply R.nil | (apply T.is; first | (apply T.drawC (id := 10) [0] (by decide); ((apply A.take 0; exact rfl; exact rfl; kernel_rfl; kernel_rfl; kernel_rfl; (apply Ok1.load; exact rfl; (apply Ld.ownk; exact rfl; exact rfl; exact At.head; exact subE_all htl))) <;> (apply A.take 1; exact rfl; exact rfl; kernel_rfl; kernel_rfl; kernel_rfl; (apply Ok1.move; exact rfl)) <;> (apply A.take 2; exact rfl; exact rfl; kernel_rfl; kernel_rfl; kernel_rfl; (apply Ok1.move; exact rfl)) <;> (apply A.take 3; exact rfl; exact rfl; kernel_rfl; kernel_rfl; kernel_rfl; (apply Ok1.move; exact rfl)) <;> (apply A.take 4; exact rfl; exact rfl; kernel_rfl; kernel_rfl; kernel_rfl; (apply Ok1.indexAddrP; (iterate 4 exact rfl); exact hpe; exact rfl; omega; omega)) <;> (apply A.take 5; exact rfl; exact rfl; kernel_rfl; kernel_rfl; kernel_rfl; (apply Ok1.fieldAddr; (iterate 5 exact rfl))) <;> (apply A.take 6; exact rfl; exact rfl; kernel_rfl; kernel_rfl; kernel_rfl; (apply Ok1.load; exact rfl; (apply Ld.row0 H; exact rfl; exact List.not_mem_nil; (iterate 3 exact rfl)))) <;> (apply A.take 7; exact rfl; exact rfl; kernel_rfl; kernel_rfl; kernel_rfl; (apply Ok1.move; exact rfl)) <;> (apply A.take 8; exact rfl; exact rfl; kernel_rfl; kernel_rfl; kernel_rfl; (apply Ok1.move; exact rfl)) <;> (apply A.take 9; exact rfl; exact rfl; kernel_rfl; kernel_rfl; kernel_rfl; (apply Ok1.indexAddrP; (iterate 4 exact rfl); exact hpe; exact rfl; omega; omega)) <;> (apply A.take 10; exact rfl; exact rfl; kernel_rfl; kernel_rfl; kernel_rfl; (apply Ok1.fieldAddr; (iterate 5 exact rfl))) <;> (apply A.take 11; exact rfl; exact rfl; kernel_rfl; kernel_rfl; kernel_rfl; (apply Ok1.load; exact rfl; (apply Ld.row1 H; exact rfl; exact List.not_mem_nil; (iterate 3 exact rfl)))) <;> (apply A.take 12; exact rfl; exact rfl; kernel_rfl; kernel_rfl; kernel_rfl; (apply Ok1.move; exact rfl)) <;> (apply A.one 13; kernel_rfl; exact rfl; (((apply R.callE (Li := [(bM, .cells ⟨MA⟩ 133 (0, 0))]) (vs := [.agg ⟨tbl⟩, .pointer (some ⟨bM, 0, none⟩), .int .i64 x.k, .int .i64 x.to, .slice x.p m x.cap]); (iterate 3 exact rfl); (focus ((repeat' (first | exact Ext.one _ _ | apply Ext.cons)); done)); intro w1 hw1; exact hvw w1 _ _ _ hw1 (by (focus ((repeat' (first | exact Ext.one _ _ | apply Ext.cons)); done))) hw1.chg hw1; rintro v Lo ⟨ovy, hovy, rfl, rfl⟩))); apply R.nil; refine ⟨?_, ?_⟩; (focus ((repeat' (first | exact trivial | (refine ⟨?_, ?_⟩; (focus ((repeat' (first | exact At.head | apply At.tail | apply At.right)); done)))))))) <;> (apply A.take 14; exact rfl; exact rfl; kernel_rfl; kernel_rfl; kernel_rfl; (apply Ok1.move; exact rfl)) <;> (apply A.take 15; exact rfl; exact rfl; kernel_rfl; kernel_rfl; kernel_rfl; (apply Ok1.extract; exact rfl; exact rfl)) <;> (apply A.take 16; exact rfl; exact rfl; kernel_rfl; kernel_rfl; kernel_rfl; (apply Ok1.extract; exact rfl; exact rfl)) <;> (apply A.take 17; exact rfl; exact rfl; kernel_rfl; kernel_rfl; kernel_rfl; (apply Ok1.assign; exact rfl)) <;> (apply A.take 18; exact rfl; exact rfl; kernel_rfl; kernel_rfl; kernel_rfl; (apply Ok1.assign; exact rfl)) <;> (apply A.done; kernel_rfl))) | apply T.seq | apply T.region | apply T.skip | (apply T.cond_f; exact rfl)))
  all_goals refine ⟨(i + 1, cnt'), ?_⟩
  all_goals simp only [hMA2]
  all_goals exact ⟨⟨by omega, by omega, by omega, by omega⟩, by omega, ⟨rfl, rfl, rfl, rfl, rfl, trivial⟩, by (focus ((repeat' (first | exact Keep.nil _ | exact Ext.one _ _ | apply Keep.cons | apply Ext.cons | apply Ext.app)); done))⟩
end Go.Proofs.YtidjnjlejhoalaaGreat
set_option linter.unusedSimpArgs false
set_option linter.unusedVariables false
namespace Go.Proofs.YtidjnjlejhoalaaGreat
open Go.ChangeShapes Go.WideShapes Go.ChangeAt Go.RowKit
theorem int1_decJ {cs : List Value} (h : allW [.int .i64] cs) : ∃ a : Int, cs = [.int .i64 a] := by
  match cs, h with
  | [.int k1 a], h =>
    obtain ⟨⟨rfl, _⟩, _⟩ := h
    exact ⟨a, rfl⟩
section
variable {H : Type} {enc : TypeId × Value → H} {w : World} {base : Nat} {spare : Nat → Bool} {held : Bool}
theorem u8_opensJ : Opens enc Tryz.prog w base spare held 5 fun cs => ∃ x : Int, u8V x = cs ∧ (0 ≤ x ∧ x ≤ 255) :=
  (Opens.flat (ks := [.int .u8]) tb rfl rfl rfl).mono fun cs h => by
    match cs, h with
    | [.int k1 a], h =>
      obtain ⟨⟨rfl, h2⟩, _⟩ := h
      have e0 : IntKind.u8.min = 0 := rfl
      have e1 : IntKind.u8.max = 255 := rfl
      exact ⟨a, rfl, by omega⟩
theorem lt_opens : Opens enc Tryz.prog w base spare held 135 fun cs => ∃ x : LT, x.v = cs ∧ x.okR w := by
  have hi : Opens enc Tryz.prog w base spare held 3 fun cs => ∃ a : Int, cs = [.int .i64 a] := (Opens.flat (ks := [.int .i64]) tb rfl rfl rfl).mono fun cs h => int1_decJ h
  have h0 := Opens.field (enc := enc) (w := w) (base := base) (spare := spare) (held := held) tb (t := 135) rfl rfl 0 rfl hi
  have h1 := Opens.field (enc := enc) (w := w) (base := base) (spare := spare) (held := held) tb (t := 135) rfl rfl 1 rfl hi
  have h3 := Opens.field (enc := enc) (w := w) (base := base) (spare := spare) (held := held) tb (t := 135) rfl rfl 2 rfl (Opens.slice u8V (fun x => 0 ≤ x ∧ x ≤ 255) tb rfl rfl rfl rfl (fun _ => rfl) u8_opensJ)
  refine ((h0.and h1).and h3).mono ?_
  rintro cs ⟨⟨⟨hl, a, g0⟩, ⟨_, b, g1⟩⟩, ⟨_, g3⟩⟩
  obtain ⟨p, xs, cap, e3, q1, q2, _, q4, _⟩ := g3
  refine ⟨⟨a, b, p, cap, xs⟩, ?_, q1, q4, q2⟩
  replace hl : cs.length = 3 := hl
  match cs, hl, g0, g1, e3 with
  | [x0, x1, x2], _, g0, g1, e3 =>
    simp at g0 g1 e3
    rw [g0, g1, e3]
    rfl
end
end Go.Proofs.YtidjnjlejhoalaaGreat
