/- Texts of the proof: Dg5, Dg6, Dg7, Eng28, Wi2, Mc3, Cl1, D0, Eng29, Sl3, Wr2, Rv3, Rv4, Rv5, Rv6, Rv7, Rv8, Rb3, Dn1, Rd6, Rr1, Rb5. -/
import Derived.Test.YtplhnkmmhndkjaaGreatL25bb2
import Derived.Lib.ConvBytes
import Derived.Sort.Statements
import Derived.Shelf.SlSortCmp.Insertion
set_option linter.unusedSimpArgs false
set_option linter.unusedVariables false
namespace Go.Proofs.YtplhnkmmhndkjaaGreat
open Go.RowKit Go.Shelf
set_option maxRecDepth 100000
theorem u8_mod (i : Int) : IntKind.u8.wrap i = i % 256 := by simp [IntKind.wrap, IntKind.bits, IntKind.signed]
theorem rdnone {n : Nat} {xs : List Int} {w : World} (hn : n = xs.length) (h : RdSl w none u8V xs) : n = 0 := by
  rcases h with h | ⟨b, o, h, _⟩
  · rw [hn, h]; rfl
  · cases h
theorem clone_ok (p : Option Addr) (n cap : Nat) (xs : List Int) (hn : n = xs.length) (hbig : n ≤ 1000000000) (w : World) (hp : RdSl w p u8V xs) : CallM Tryz.prog 88 [.slice p n cap] [] w fun v L => ∃ ov, OvOk 1 ov n (u8s xs) ∧ ov.isSome = p.isSome ∧ v = slV ov n ∧ L = blkL 5 ov (u8s xs) := by
  refine enterK (tb := tb) Tryz.func88 rfl Tryz.ntmps88 rfl ?_
  cases p with
  | none =>
    have h0 := rdnone hn hp
    have hx : xs = [] := List.eq_nil_of_length_eq_zero (by omega)
    subst hx
    repeat' (first | (apply R.is1; first | (apply R.isBin; first | (apply R.pure; exact rfl; first | (apply Ok1.eqlS; (iterate 5 exact rfl)) | (apply Ok1.eql_t; exact rfl; exact rfl; omega) | (apply Ok1.eql_f; exact rfl; exact rfl; omega) | (apply Ok1.eqlP; (iterate 5 exact rfl)) | (apply Ok1.eqlM; (iterate 5 exact rfl)) | (apply Ok1.eqlS; (iterate 5 exact rfl))) | (apply R.eql rfl rfl rfl <;> intro) | (apply R.eqlF; (iterate 8 exact rfl); all_goals intro)) | (apply R.pure; exact rfl; first | (apply Ok1.move; exact rfl) | (apply Ok1.assign; exact rfl)) | (apply R.buildSlice; (iterate 12 exact rfl); intro)) | (apply R.is0; first | fail) | (apply R.isG; first | (apply R.guard_run; exact rfl; exact rfl) | (apply R.guard_not; (iterate 3 exact rfl)) | (apply R.guard_not0; exact rfl; exact rfl) | (apply R.guard_un; (iterate 3 exact rfl)) | (apply R.guard_un0; exact rfl; exact rfl) | (apply R.guard rfl rfl ?_ (fun h => ⟨rfl, ?_⟩) <;> try intro)) | apply R.nil | (apply T.is; first | apply T.seq | apply T.region | apply T.block | apply T.scope | apply T.label | apply T.skip | apply T.exit | apply T.ret | (apply T.cond_t; exact rfl) | (apply T.cond_f; exact rfl) | (apply T.cond_h; exact rfl; assumption) | (apply T.cond_n; exact rfl; assumption) | (apply T.cond rfl <;> intro)) | apply Rnd.step)
    (apply RetOk.t; exact rfl)
    exact ⟨_, by (focus ((repeat' (first | exact Keep.nil _ | exact Ext.one _ _ | exact Ext.here _ _ | exact Ext.all _ | apply Keep.cons | apply Keep.app | apply Keep.last | apply Ext.cons | apply Ext.app)); done)), none, by rw [h0]; exact OvOk.start 1, rfl, rfl, rfl⟩
  | some a =>
    repeat' (first | (apply R.is1; first | (apply R.buildSlice0; (iterate 4 exact rfl); intro b0) | (apply R.isBin; first | (apply R.pure; exact rfl; first | (apply Ok1.eqlS; (iterate 5 exact rfl)) | (apply Ok1.eql_t; exact rfl; exact rfl; omega) | (apply Ok1.eql_f; exact rfl; exact rfl; omega) | (apply Ok1.eqlP; (iterate 5 exact rfl)) | (apply Ok1.eqlM; (iterate 5 exact rfl)) | (apply Ok1.eqlS; (iterate 5 exact rfl))) | (apply R.eql rfl rfl rfl <;> intro) | (apply R.eqlF; (iterate 8 exact rfl); all_goals intro)) | (apply R.isCall; first | (apply R.appendRd (xs := xs) (v := u8V) (sz := 1) (ov := some (b0, 0, [])) (n := 0) (old := []); (iterate 12 exact rfl); exact ⟨rfl, rfl⟩; (focus ((repeat' (first | exact Ext.none _ | exact Ext.one _ _ | exact Ext.here _ _ | exact Ext.all _ | apply Ext.cons | apply Ext.app | apply Ext.two)); done)); exact hn; exact u8V_len; exact rfl; (intro w1 hw1; exact hp.chg hw1.chg (Off.nil _)); (focus (rw [fl_u8]; exact u8s_one xs)); omega; intro ov1 hov1 hsome)) | (apply R.pure; exact rfl; first | (apply Ok1.move; exact rfl) | (apply Ok1.assign; exact rfl)) | (apply R.buildSlice; (iterate 12 exact rfl); intro)) | (apply R.is0; first | fail) | (apply R.isG; first | (apply R.guard_run; exact rfl; exact rfl) | (apply R.guard_not; (iterate 3 exact rfl)) | (apply R.guard_not0; exact rfl; exact rfl) | (apply R.guard_un; (iterate 3 exact rfl)) | (apply R.guard_un0; exact rfl; exact rfl) | (apply R.guard rfl rfl ?_ (fun h => ⟨rfl, ?_⟩) <;> try intro)) | apply R.nil | (apply T.is; first | apply T.seq | apply T.region | apply T.block | apply T.scope | apply T.label | apply T.skip | apply T.exit | apply T.ret | (apply T.cond_t; exact rfl) | (apply T.cond_f; exact rfl) | (apply T.cond_h; exact rfl; assumption) | (apply T.cond_n; exact rfl; assumption) | (apply T.cond rfl <;> intro)) | apply Rnd.step)
    rw [Nat.zero_add, List.nil_append, fl_u8] at hov1
    rw [Nat.zero_add, List.nil_append, fl_u8]
    repeat' (first | (apply R.is1; first | (apply R.isBin; first | (apply R.pure; exact rfl; first | (apply Ok1.eql_t; exact rfl; exact rfl; omega) | (apply Ok1.eql_f; exact rfl; exact rfl; omega) | (apply Ok1.eqlP; (iterate 5 exact rfl)) | (apply Ok1.eqlM; (iterate 5 exact rfl)) | (apply Ok1.eqlS; (iterate 5 exact rfl))) | (apply R.eql rfl rfl rfl <;> intro) | (apply R.eqlF; (iterate 8 exact rfl); all_goals intro)) | (apply R.pure; exact rfl; first | (apply Ok1.move; exact rfl) | (apply Ok1.assign; exact rfl)) | (apply R.buildSlice; (iterate 12 exact rfl); intro)) | (apply R.is0; first | fail) | (apply R.isG; first | (apply R.guard_run; exact rfl; exact rfl) | (apply R.guard_not; (iterate 3 exact rfl)) | (apply R.guard_not0; exact rfl; exact rfl) | (apply R.guard_un; (iterate 3 exact rfl)) | (apply R.guard_un0; exact rfl; exact rfl) | (apply R.guard rfl rfl ?_ (fun h => ⟨rfl, ?_⟩) <;> try intro)) | apply R.nil | (apply T.is; first | apply T.seq | apply T.region | apply T.block | apply T.scope | apply T.label | apply T.skip | apply T.exit | apply T.ret | (apply T.cond_t; exact rfl) | (apply T.cond_f; exact rfl) | (apply T.cond_h; exact rfl; assumption) | (apply T.cond_n; exact rfl; assumption) | (apply T.cond rfl <;> intro)) | apply Rnd.step)
    (apply RetOk.t; exact rfl)
    refine ⟨_, ?_, ov1, hov1, by rw [hsome rfl]; rfl, rfl, rfl⟩
    (focus ((repeat' (first | exact Keep.nil _ | exact Ext.one _ _ | exact Ext.here _ _ | exact Ext.all _ | apply Keep.cons | apply Keep.app | apply Keep.last | apply Ext.cons | apply Ext.app)); done))
theorem grow_ok (n : Nat) (hbig : n ≤ 1000000000) (w : World) : CallM Tryz.prog 81 [.slice none 0 0, .int .i64 n] [] w fun v L => ∃ ov, OvOk 1 ov 0 [] ∧ v = slV ov 0 ∧ L = blkL 5 ov [] := by
  refine enterK (tb := tb) Tryz.func81 rfl Tryz.ntmps81 rfl ?_
  rcases Nat.eq_zero_or_pos n with h0 | h0
  · subst h0
    repeat' (first | (apply R.is1; first | (apply R.isBin; first | (apply R.pure; exact rfl; first | (apply Ok1.sub64; exact rfl; exact rfl; omega; omega) | (apply Ok1.lss_t; exact rfl; exact rfl; omega) | (apply Ok1.lss_f; exact rfl; exact rfl; omega) | (apply Ok1.gtr_t; exact rfl; exact rfl; omega) | (apply Ok1.gtr_f; exact rfl; exact rfl; omega)) | (apply R.lss rfl rfl rfl <;> intro) | (apply R.gtr rfl rfl rfl <;> intro)) | (apply R.isCall; first | (apply R.pure; exact rfl; first | (apply Ok1.lenS; (iterate 3 exact rfl)) | (apply Ok1.lenStr; (iterate 3 exact rfl)) | (apply Ok1.lenMm; (iterate 3 exact rfl); (focus ((repeat' (first | exact At.head | apply At.tail | apply At.right)); done))) | (apply Ok1.lenM_nil; (iterate 3 exact rfl)))) | (apply R.pure; exact rfl; first | (apply Ok1.capS; (iterate 3 exact rfl)) | (apply Ok1.move; exact rfl) | (apply Ok1.assign; exact rfl) | (apply Ok1.slice0; (iterate 7 exact rfl); (refine ⟨?_, ?_, ?_⟩ <;> omega); (first | exact Or.inl rfl | exact Or.inr (fun e => by cases e))) | (apply Ok1.sliceTo; (iterate 6 exact rfl); omega; omega; omega; (first | exact Or.inl rfl | exact Or.inr (fun e => by cases e))) | (apply Ok1.sliceFrom; (iterate 7 exact rfl); omega; omega; omega; omega; omega; (first | exact Or.inl rfl | exact Or.inr (fun e => by cases e))))) | (apply R.is0; first | fail) | (apply R.isG; first | (apply R.guard_run; exact rfl; exact rfl) | (apply R.guard_not; (iterate 3 exact rfl)) | (apply R.guard_not0; exact rfl; exact rfl) | (apply R.guard_un; (iterate 3 exact rfl)) | (apply R.guard_un0; exact rfl; exact rfl) | (apply R.guard rfl rfl ?_ (fun h => ⟨rfl, ?_⟩) <;> try intro)) | apply R.nil | (apply T.is; first | apply T.seq | apply T.region | apply T.block | apply T.scope | apply T.label | apply T.skip | apply T.exit | apply T.ret | (apply T.cond_t; exact rfl) | (apply T.cond_f; exact rfl) | (apply T.cond_h; exact rfl; assumption) | (apply T.cond_n; exact rfl; assumption) | (apply T.cond rfl <;> intro)) | apply Rnd.step)
    (apply RetOk.t; exact rfl)
    exact ⟨_, by (focus ((repeat' (first | exact Keep.nil _ | exact Ext.one _ _ | exact Ext.here _ _ | exact Ext.all _ | apply Keep.cons | apply Keep.app | apply Keep.last | apply Ext.cons | apply Ext.app)); done)), none, OvOk.start 1, rfl, rfl⟩
  · repeat' (first | (apply R.is1; first | (apply R.isBin; first | (apply R.pure; exact rfl; first | (apply Ok1.sub64; exact rfl; exact rfl; omega; omega) | (apply Ok1.lss_t; exact rfl; exact rfl; omega) | (apply Ok1.lss_f; exact rfl; exact rfl; omega) | (apply Ok1.gtr_t; exact rfl; exact rfl; omega) | (apply Ok1.gtr_f; exact rfl; exact rfl; omega)) | (apply R.lss rfl rfl rfl <;> intro) | (apply R.gtr rfl rfl rfl <;> intro)) | (apply R.isCall; first | (apply R.growMk (n := n); (iterate 12 exact rfl); omega; omega; intro b0 j0) | (apply R.pure; exact rfl; first | (apply Ok1.lenS; (iterate 3 exact rfl)) | (apply Ok1.lenStr; (iterate 3 exact rfl)) | (apply Ok1.lenMm; (iterate 3 exact rfl); (focus ((repeat' (first | exact At.head | apply At.tail | apply At.right)); done))) | (apply Ok1.lenM_nil; (iterate 3 exact rfl)))) | (apply R.pure; exact rfl; first | (apply Ok1.capS; (iterate 3 exact rfl)) | (apply Ok1.move; exact rfl) | (apply Ok1.assign; exact rfl) | (apply Ok1.slice0; (iterate 7 exact rfl); (refine ⟨?_, ?_, ?_⟩ <;> omega); (first | exact Or.inl rfl | exact Or.inr (fun e => by cases e))) | (apply Ok1.sliceTo; (iterate 6 exact rfl); omega; omega; omega; (first | exact Or.inl rfl | exact Or.inr (fun e => by cases e))) | (apply Ok1.sliceFrom; (iterate 7 exact rfl); omega; omega; omega; omega; omega; (first | exact Or.inl rfl | exact Or.inr (fun e => by cases e))))) | (apply R.is0; first | fail) | (apply R.isG; first | (apply R.guard_run; exact rfl; exact rfl) | (apply R.guard_not; (iterate 3 exact rfl)) | (apply R.guard_not0; exact rfl; exact rfl) | (apply R.guard_un; (iterate 3 exact rfl)) | (apply R.guard_un0; exact rfl; exact rfl) | (apply R.guard rfl rfl ?_ (fun h => ⟨rfl, ?_⟩) <;> try intro)) | apply R.nil | (apply T.is; first | apply T.seq | apply T.region | apply T.block | apply T.scope | apply T.label | apply T.skip | apply T.exit | apply T.ret | (apply T.cond_t; exact rfl) | (apply T.cond_f; exact rfl) | (apply T.cond_h; exact rfl; assumption) | (apply T.cond_n; exact rfl; assumption) | (apply T.cond rfl <;> intro)) | apply Rnd.step)
    (apply RetOk.t; exact rfl)
    refine ⟨_, ?_, some (b0, n + j0, List.replicate (n + j0) (.int .u8 0)), ⟨rfl, by simp⟩, by simp [slV]; omega, rfl⟩
    simp only [blkL, List.nil_append]
    (focus ((repeat' (first | exact Keep.nil _ | exact Ext.one _ _ | exact Ext.here _ _ | exact Ext.all _ | apply Keep.cons | apply Keep.app | apply Keep.last | apply Ext.cons | apply Ext.app)); done))
/-- A part: a slice of bytes. -/
structure Pt where
  p : Option Addr
  cap : Nat
  xs : List Int
deriving Inhabited
def Pt.v (x : Pt) : List Value := [.slice x.p x.xs.length x.cap]
theorem Pt.v_len (x : Pt) : x.v.length = 1 := rfl
def cat (ps : List Pt) : List Int := ps.flatMap (·.xs)
theorem cat_nil : cat [] = [] := rfl
theorem cat_snoc {ps : List Pt} {i : Nat} {x : Pt} (h : ps[i]? = some x) : cat (ps.take (i + 1)) = cat (ps.take i) ++ x.xs := by
  unfold cat
  rw [List.take_add_one, h, List.flatMap_append]
  simp
theorem cat_le (ps : List Pt) (i : Nat) : (cat (ps.take i)).length ≤ (cat ps).length := by
  conv => rhs; rw [← List.take_append_drop i ps]
  unfold cat
  rw [List.flatMap_append, List.length_append]
  omega
theorem concat_ok (p : Option Addr) (n cap : Nat) (ps : List Pt) (hn : n = ps.length) (hbig : (cat ps).length ≤ 1000000000) (hbig2 : n ≤ 1000000000) (w : World) (hp : RdSl w p Pt.v ps) (hall : ∀ x ∈ ps, RdSl w x.p u8V x.xs) :
    CallM Tryz.prog 44 [.slice p n cap] [] w fun v L => ∃ ov, OvOk 1 ov (cat ps).length (u8s (cat ps)) ∧ v = slV ov (cat ps).length ∧ L = blkL 5 ov (u8s (cat ps)) := by
  subst hn
  refine enterK (tb := tb) Tryz.func44 rfl Tryz.ntmps44 rfl ?_
  repeat' (first | (apply R.is1; first | (apply R.isBin; first | (apply R.pure; exact rfl; first | (apply Ok1.add64; exact rfl; exact rfl; omega; omega) | (apply Ok1.lss_t; exact rfl; exact rfl; omega) | (apply Ok1.lss_f; exact rfl; exact rfl; omega)) | (apply R.lss rfl rfl rfl <;> intro)) | (apply R.isCall; first | (apply R.pure; exact rfl; first | (apply Ok1.lenS; (iterate 3 exact rfl)) | (apply Ok1.lenStr; (iterate 3 exact rfl)) | (apply Ok1.lenMm; (iterate 3 exact rfl); (focus ((repeat' (first | exact At.head | apply At.tail | apply At.right)); done))) | (apply Ok1.lenM_nil; (iterate 3 exact rfl)))) | (apply R.pure; exact rfl; first | (apply Ok1.move; exact rfl) | (apply Ok1.load; exact rfl; first | (apply Ld.own1; exact rfl; exact rfl; (focus ((repeat' (first | exact At.head | apply At.tail | apply At.right)); done)); exact rfl) | (apply Ld.ownk; exact rfl; exact rfl; (focus ((repeat' (first | exact At.head | apply At.tail | apply At.right)); done)); exact rfl) | (apply Ld.old1; exact rfl; exact rfl; assumption; (first | exact List.not_mem_nil | assumption)) | (apply Ld.blk1; exact rfl; exact rfl; assumption; (first | exact List.not_mem_nil | assumption); exact rfl) | (apply Ld.blkk; exact rfl; exact rfl; assumption; (first | exact List.not_mem_nil | assumption); exact rfl)) | (apply Ok1.assign; exact rfl) | (apply Ok1.indexAddr; (iterate 5 exact rfl); omega; omega) | (apply Ok1.indexAddrA; (iterate 5 exact rfl); omega; omega))) | (apply R.is0; first | fail) | (apply R.isG; first | (apply R.guard_run; exact rfl; exact rfl) | (apply R.guard_not; (iterate 3 exact rfl)) | (apply R.guard_not0; exact rfl; exact rfl) | (apply R.guard_un; (iterate 3 exact rfl)) | (apply R.guard_un0; exact rfl; exact rfl) | (apply R.guard rfl rfl ?_ (fun h => ⟨rfl, ?_⟩) <;> try intro)) | apply R.nil | (apply T.is; first | apply T.seq | apply T.region | apply T.block | apply T.scope | apply T.label | apply T.skip | apply T.exit | apply T.ret | (apply T.cond_t; exact rfl) | (apply T.cond_f; exact rfl) | (apply T.cond_h; exact rfl; assumption) | (apply T.cond_n; exact rfl; assumption) | (apply T.cond rfl <;> intro)) | apply Rnd.step)
  apply T.loopK (α := Nat) (I := fun i => i ≤ ps.length) (σi := fun i => [(0, .slice p ps.length cap), (3, .int .i64 (cat (ps.take i)).length), (9, .slice p ps.length cap), (10, .int .i64 ps.length), (11, .int .i64 i)]) (Li := fun _ => []) (μ := fun i => ps.length - i) (i0 := 0)
  · exact Nat.zero_le _
  · exact ⟨rfl, rfl, rfl, rfl, rfl, trivial⟩
  · (focus ((repeat' (first | exact Keep.nil _ | exact Ext.one _ _ | exact Ext.here _ _ | exact Ext.all _ | apply Keep.cons | apply Keep.app | apply Keep.last | apply Ext.cons | apply Ext.app)); done))
  · intro i hi
    have hle := cat_le ps i
    rcases Nat.lt_or_ge i ps.length with hlt | hge
    · obtain ⟨x, hx⟩ : ∃ x, ps[i]? = some x := ⟨_, List.getElem?_eq_getElem (by omega)⟩
      obtain ⟨b, o, hpe, H⟩ := hp.at hx
      replace H := H 1 Pt.v_len
      have hs := cat_snoc hx
      have hl := congrArg List.length hs
      rw [List.length_append] at hl
      have hle2 := cat_le ps (i + 1)
      repeat' (first | (apply R.is1; first | (apply R.isBin; first | (apply R.pure; exact rfl; first | (apply Ok1.add64; exact rfl; exact rfl; omega; omega) | (apply Ok1.lss_t; exact rfl; exact rfl; omega) | (apply Ok1.lss_f; exact rfl; exact rfl; omega)) | (apply R.lss rfl rfl rfl <;> intro)) | (apply R.isCall; first | (apply R.pure; exact rfl; first | (apply Ok1.lenS; (iterate 3 exact rfl)) | (apply Ok1.lenStr; (iterate 3 exact rfl)) | (apply Ok1.lenMm; (iterate 3 exact rfl); (focus ((repeat' (first | exact At.head | apply At.tail | apply At.right)); done))) | (apply Ok1.lenM_nil; (iterate 3 exact rfl)))) | (apply R.pure; exact rfl; first | (apply Ok1.indexAddrP; (iterate 4 exact rfl); exact hpe; exact rfl; omega; omega) | (apply Ok1.load; exact rfl; apply Ld.row0 H; exact rfl; exact List.not_mem_nil; (iterate 3 exact rfl)) | (apply Ok1.move; exact rfl) | (apply Ok1.load; exact rfl; first | (apply Ld.own1; exact rfl; exact rfl; (focus ((repeat' (first | exact At.head | apply At.tail | apply At.right)); done)); exact rfl) | (apply Ld.ownk; exact rfl; exact rfl; (focus ((repeat' (first | exact At.head | apply At.tail | apply At.right)); done)); exact rfl) | (apply Ld.old1; exact rfl; exact rfl; assumption; (first | exact List.not_mem_nil | assumption)) | (apply Ld.blk1; exact rfl; exact rfl; assumption; (first | exact List.not_mem_nil | assumption); exact rfl) | (apply Ld.blkk; exact rfl; exact rfl; assumption; (first | exact List.not_mem_nil | assumption); exact rfl)) | (apply Ok1.assign; exact rfl) | (apply Ok1.indexAddr; (iterate 5 exact rfl); omega; omega) | (apply Ok1.indexAddrA; (iterate 5 exact rfl); omega; omega))) | (apply R.is0; first | fail) | (apply R.isG; first | (apply R.guard_run; exact rfl; exact rfl) | (apply R.guard_not; (iterate 3 exact rfl)) | (apply R.guard_not0; exact rfl; exact rfl) | (apply R.guard_un; (iterate 3 exact rfl)) | (apply R.guard_un0; exact rfl; exact rfl) | (apply R.guard rfl rfl ?_ (fun h => ⟨rfl, ?_⟩) <;> try intro)) | apply R.nil | (apply T.is; first | apply T.seq | apply T.region | apply T.block | apply T.scope | apply T.label | apply T.skip | apply T.exit | apply T.ret | (apply T.cond_t; exact rfl) | (apply T.cond_f; exact rfl) | (apply T.cond_h; exact rfl; assumption) | (apply T.cond_n; exact rfl; assumption) | (apply T.cond rfl <;> intro)) | apply Rnd.step)
      refine ⟨i + 1, by omega, by omega, ⟨rfl, ?_, rfl, rfl, rfl, trivial⟩, by (focus ((repeat' (first | exact Keep.nil _ | exact Ext.one _ _ | exact Ext.here _ _ | exact Ext.all _ | apply Keep.cons | apply Keep.app | apply Keep.last | apply Ext.cons | apply Ext.app)); done))⟩
      rw [hl]
      rfl
    · have him : i = ps.length := by omega
      subst him
      rw [List.take_length]
      have hgr := fun w1 => grow_ok (cat ps).length hbig w1
      repeat' (first | (apply R.is1; first | (apply R.isBin; first | (apply R.pure; exact rfl; first | (apply Ok1.add64; exact rfl; exact rfl; omega; omega) | (apply Ok1.lss_t; exact rfl; exact rfl; omega) | (apply Ok1.lss_f; exact rfl; exact rfl; omega)) | (apply R.lss rfl rfl rfl <;> intro)) | (apply R.isCall; first | (apply R.callE; (iterate 3 exact rfl); exact Ext.none _; intro w1 hw1; exact hgr w1; rintro v Lo ⟨ov0, hov0, rfl, rfl⟩) | (apply R.pure; exact rfl; first | (apply Ok1.lenS; (iterate 3 exact rfl)) | (apply Ok1.lenStr; (iterate 3 exact rfl)) | (apply Ok1.lenMm; (iterate 3 exact rfl); (focus ((repeat' (first | exact At.head | apply At.tail | apply At.right)); done))) | (apply Ok1.lenM_nil; (iterate 3 exact rfl)))) | (apply R.pure; exact rfl; first | (apply Ok1.move; exact rfl) | (apply Ok1.load; exact rfl; first | (apply Ld.own1; exact rfl; exact rfl; (focus ((repeat' (first | exact At.head | apply At.tail | apply At.right)); done)); exact rfl) | (apply Ld.ownk; exact rfl; exact rfl; (focus ((repeat' (first | exact At.head | apply At.tail | apply At.right)); done)); exact rfl) | (apply Ld.old1; exact rfl; exact rfl; assumption; (first | exact List.not_mem_nil | assumption)) | (apply Ld.blk1; exact rfl; exact rfl; assumption; (first | exact List.not_mem_nil | assumption); exact rfl) | (apply Ld.blkk; exact rfl; exact rfl; assumption; (first | exact List.not_mem_nil | assumption); exact rfl)) | (apply Ok1.assign; exact rfl) | (apply Ok1.indexAddr; (iterate 5 exact rfl); omega; omega) | (apply Ok1.indexAddrA; (iterate 5 exact rfl); omega; omega))) | (apply R.is0; first | fail) | (apply R.isG; first | (apply R.guard_run; exact rfl; exact rfl) | (apply R.guard_not; (iterate 3 exact rfl)) | (apply R.guard_not0; exact rfl; exact rfl) | (apply R.guard_un; (iterate 3 exact rfl)) | (apply R.guard_un0; exact rfl; exact rfl) | (apply R.guard rfl rfl ?_ (fun h => ⟨rfl, ?_⟩) <;> try intro)) | apply R.nil | (apply T.is; first | apply T.seq | apply T.region | apply T.block | apply T.scope | apply T.label | apply T.skip | apply T.exit | apply T.ret | (apply T.cond_t; exact rfl) | (apply T.cond_f; exact rfl) | (apply T.cond_h; exact rfl; assumption) | (apply T.cond_n; exact rfl; assumption) | (apply T.cond rfl <;> intro)) | apply Rnd.step)
      apply T.loopK (α := Nat × Ov) (I := fun y => y.1 ≤ ps.length ∧ OvOk 1 y.2 (cat (ps.take y.1)).length (u8s (cat (ps.take y.1)))) (σi := fun y => [(6, slV y.2 (cat (ps.take y.1)).length), (25, .slice p ps.length cap), (26, .int .i64 ps.length), (27, .int .i64 y.1)]) (Li := fun y => blkL 5 y.2 (u8s (cat (ps.take y.1)))) (μ := fun y => ps.length - y.1) (i0 := (0, ov0))
      · exact ⟨Nat.zero_le _, hov0⟩
      · exact ⟨rfl, rfl, rfl, rfl, trivial⟩
      · simp only [List.take_zero, cat_nil]
        change Keep _ (blkL 5 ov0 [])
        (focus ((repeat' (first | exact Keep.nil _ | exact Ext.one _ _ | exact Ext.here _ _ | exact Ext.all _ | apply Keep.cons | apply Keep.app | apply Keep.last | apply Ext.cons | apply Ext.app)); done))
      · rintro ⟨i, ov⟩ ⟨hi, hov⟩
        simp only at hi hov ⊢
        rcases Nat.lt_or_ge i ps.length with hlt | hge
        · obtain ⟨x, hx⟩ : ∃ x, ps[i]? = some x := ⟨_, List.getElem?_eq_getElem (by omega)⟩
          obtain ⟨b, o, hpe, H⟩ := hp.at hx
          replace H := H 1 Pt.v_len
          have hs := cat_snoc hx
          have hl := congrArg List.length hs
          rw [List.length_append] at hl
          have hle2 := cat_le ps (i + 1)
          have hrd := hall x (List.mem_of_getElem? hx)
          repeat' (first | (apply R.is1; first | (apply R.isBin; first | (apply R.pure; exact rfl; first | (apply Ok1.add64; exact rfl; exact rfl; omega; omega) | (apply Ok1.lss_t; exact rfl; exact rfl; omega) | (apply Ok1.lss_f; exact rfl; exact rfl; omega)) | (apply R.lss rfl rfl rfl <;> intro)) | (apply R.isCall; first | (apply R.appendRd (xs := x.xs) (v := u8V) (sz := 1) (ov := ov) (n := (cat (ps.take i)).length) (old := u8s (cat (ps.take i))); (iterate 12 exact rfl); exact hov; (focus ((repeat' (first | exact Ext.none _ | exact Ext.one _ _ | exact Ext.here _ _ | exact Ext.all _ | apply Ext.cons | apply Ext.app | apply Ext.two)); done)); exact rfl; exact u8V_len; exact rfl; (intro w1 hw1; exact hrd.chg hw1.chg (Off.nil _)); (focus (rw [fl_u8]; exact u8s_one x.xs)); omega; intro ov1 hov1 hsome) | (apply R.pure; exact rfl; first | (apply Ok1.lenS; (iterate 3 exact rfl)) | (apply Ok1.lenStr; (iterate 3 exact rfl)) | (apply Ok1.lenMm; (iterate 3 exact rfl); (focus ((repeat' (first | exact At.head | apply At.tail | apply At.right)); done))) | (apply Ok1.lenM_nil; (iterate 3 exact rfl)))) | (apply R.pure; exact rfl; first | (apply Ok1.indexAddrP; (iterate 4 exact rfl); exact hpe; exact rfl; omega; omega) | (apply Ok1.load; exact rfl; apply Ld.row0 H; exact rfl; exact List.not_mem_nil; (iterate 3 exact rfl)) | (apply Ok1.move; exact rfl) | (apply Ok1.load; exact rfl; first | (apply Ld.own1; exact rfl; exact rfl; (focus ((repeat' (first | exact At.head | apply At.tail | apply At.right)); done)); exact rfl) | (apply Ld.ownk; exact rfl; exact rfl; (focus ((repeat' (first | exact At.head | apply At.tail | apply At.right)); done)); exact rfl) | (apply Ld.old1; exact rfl; exact rfl; assumption; (first | exact List.not_mem_nil | assumption)) | (apply Ld.blk1; exact rfl; exact rfl; assumption; (first | exact List.not_mem_nil | assumption); exact rfl) | (apply Ld.blkk; exact rfl; exact rfl; assumption; (first | exact List.not_mem_nil | assumption); exact rfl)) | (apply Ok1.assign; exact rfl) | (apply Ok1.indexAddr; (iterate 5 exact rfl); omega; omega) | (apply Ok1.indexAddrA; (iterate 5 exact rfl); omega; omega))) | (apply R.is0; first | fail) | (apply R.isG; first | (apply R.guard_run; exact rfl; exact rfl) | (apply R.guard_not; (iterate 3 exact rfl)) | (apply R.guard_not0; exact rfl; exact rfl) | (apply R.guard_un; (iterate 3 exact rfl)) | (apply R.guard_un0; exact rfl; exact rfl) | (apply R.guard rfl rfl ?_ (fun h => ⟨rfl, ?_⟩) <;> try intro)) | apply R.nil | (apply T.is; first | apply T.seq | apply T.region | apply T.block | apply T.scope | apply T.label | apply T.skip | apply T.exit | apply T.ret | (apply T.cond_t; exact rfl) | (apply T.cond_f; exact rfl) | (apply T.cond_h; exact rfl; assumption) | (apply T.cond_n; exact rfl; assumption) | (apply T.cond rfl <;> intro)) | apply Rnd.step)
          rw [fl_u8, ← u8s_app, ← hs, ← hl] at hov1
          rw [fl_u8, ← u8s_app, ← hs, ← hl]
          repeat' (first | (apply R.is1; first | (apply R.isBin; first | (apply R.pure; exact rfl; first | (apply Ok1.add64; exact rfl; exact rfl; omega; omega) | (apply Ok1.lss_t; exact rfl; exact rfl; omega) | (apply Ok1.lss_f; exact rfl; exact rfl; omega)) | (apply R.lss rfl rfl rfl <;> intro)) | (apply R.isCall; first | (apply R.pure; exact rfl; first | (apply Ok1.lenS; (iterate 3 exact rfl)) | (apply Ok1.lenStr; (iterate 3 exact rfl)) | (apply Ok1.lenMm; (iterate 3 exact rfl); (focus ((repeat' (first | exact At.head | apply At.tail | apply At.right)); done))) | (apply Ok1.lenM_nil; (iterate 3 exact rfl)))) | (apply R.pure; exact rfl; first | (apply Ok1.move; exact rfl) | (apply Ok1.load; exact rfl; first | (apply Ld.own1; exact rfl; exact rfl; (focus ((repeat' (first | exact At.head | apply At.tail | apply At.right)); done)); exact rfl) | (apply Ld.ownk; exact rfl; exact rfl; (focus ((repeat' (first | exact At.head | apply At.tail | apply At.right)); done)); exact rfl) | (apply Ld.old1; exact rfl; exact rfl; assumption; (first | exact List.not_mem_nil | assumption)) | (apply Ld.blk1; exact rfl; exact rfl; assumption; (first | exact List.not_mem_nil | assumption); exact rfl) | (apply Ld.blkk; exact rfl; exact rfl; assumption; (first | exact List.not_mem_nil | assumption); exact rfl)) | (apply Ok1.assign; exact rfl) | (apply Ok1.indexAddr; (iterate 5 exact rfl); omega; omega) | (apply Ok1.indexAddrA; (iterate 5 exact rfl); omega; omega))) | (apply R.is0; first | fail) | (apply R.isG; first | (apply R.guard_run; exact rfl; exact rfl) | (apply R.guard_not; (iterate 3 exact rfl)) | (apply R.guard_not0; exact rfl; exact rfl) | (apply R.guard_un; (iterate 3 exact rfl)) | (apply R.guard_un0; exact rfl; exact rfl) | (apply R.guard rfl rfl ?_ (fun h => ⟨rfl, ?_⟩) <;> try intro)) | apply R.nil | (apply T.is; first | apply T.seq | apply T.region | apply T.block | apply T.scope | apply T.label | apply T.skip | apply T.exit | apply T.ret | (apply T.cond_t; exact rfl) | (apply T.cond_f; exact rfl) | (apply T.cond_h; exact rfl; assumption) | (apply T.cond_n; exact rfl; assumption) | (apply T.cond rfl <;> intro)) | apply Rnd.step)
          exact ⟨(i + 1, ov1), ⟨by simp only; omega, hov1⟩, by simp only; omega, ⟨rfl, rfl, rfl, rfl, trivial⟩, by (focus ((repeat' (first | exact Keep.nil _ | exact Ext.one _ _ | exact Ext.here _ _ | exact Ext.all _ | apply Keep.cons | apply Keep.app | apply Keep.last | apply Ext.cons | apply Ext.app)); done))⟩
        · have him : i = ps.length := by omega
          subst him
          rw [List.take_length] at hov ⊢
          repeat' (first | (apply R.is1; first | (apply R.isBin; first | (apply R.pure; exact rfl; first | (apply Ok1.add64; exact rfl; exact rfl; omega; omega) | (apply Ok1.lss_t; exact rfl; exact rfl; omega) | (apply Ok1.lss_f; exact rfl; exact rfl; omega)) | (apply R.lss rfl rfl rfl <;> intro)) | (apply R.isCall; first | (apply R.pure; exact rfl; first | (apply Ok1.lenS; (iterate 3 exact rfl)) | (apply Ok1.lenStr; (iterate 3 exact rfl)) | (apply Ok1.lenMm; (iterate 3 exact rfl); (focus ((repeat' (first | exact At.head | apply At.tail | apply At.right)); done))) | (apply Ok1.lenM_nil; (iterate 3 exact rfl)))) | (apply R.pure; exact rfl; first | (apply Ok1.move; exact rfl) | (apply Ok1.load; exact rfl; first | (apply Ld.own1; exact rfl; exact rfl; (focus ((repeat' (first | exact At.head | apply At.tail | apply At.right)); done)); exact rfl) | (apply Ld.ownk; exact rfl; exact rfl; (focus ((repeat' (first | exact At.head | apply At.tail | apply At.right)); done)); exact rfl) | (apply Ld.old1; exact rfl; exact rfl; assumption; (first | exact List.not_mem_nil | assumption)) | (apply Ld.blk1; exact rfl; exact rfl; assumption; (first | exact List.not_mem_nil | assumption); exact rfl) | (apply Ld.blkk; exact rfl; exact rfl; assumption; (first | exact List.not_mem_nil | assumption); exact rfl)) | (apply Ok1.assign; exact rfl) | (apply Ok1.indexAddr; (iterate 5 exact rfl); omega; omega) | (apply Ok1.indexAddrA; (iterate 5 exact rfl); omega; omega))) | (apply R.is0; first | fail) | (apply R.isG; first | (apply R.guard_run; exact rfl; exact rfl) | (apply R.guard_not; (iterate 3 exact rfl)) | (apply R.guard_not0; exact rfl; exact rfl) | (apply R.guard_un; (iterate 3 exact rfl)) | (apply R.guard_un0; exact rfl; exact rfl) | (apply R.guard rfl rfl ?_ (fun h => ⟨rfl, ?_⟩) <;> try intro)) | apply R.nil | (apply T.is; first | apply T.seq | apply T.region | apply T.block | apply T.scope | apply T.label | apply T.skip | apply T.exit | apply T.ret | (apply T.cond_t; exact rfl) | (apply T.cond_f; exact rfl) | (apply T.cond_h; exact rfl; assumption) | (apply T.cond_n; exact rfl; assumption) | (apply T.cond rfl <;> intro)) | apply Rnd.step)
          (apply RetOk.t; exact rfl)
          exact ⟨_, by (focus ((repeat' (first | exact Keep.nil _ | exact Ext.one _ _ | exact Ext.here _ _ | exact Ext.all _ | apply Keep.cons | apply Keep.app | apply Keep.last | apply Ext.cons | apply Ext.app)); done)), ov, hov, rfl, rfl⟩
end Go.Proofs.YtplhnkmmhndkjaaGreat
set_option linter.unusedSimpArgs false
set_option linter.unusedVariables false
namespace Go.Proofs.YtplhnkmmhndkjaaGreat
open Go.RowKit Go.Shelf
set_option maxRecDepth 100000
/-- A running digest: on, its words; what is left of it lies in a slice of one's own, from k on. -/
structure RS where
  on : Bool
  s : H8
  ov : Ov
  xs : List Int
  p : Option Addr
  cap : Nat
  k : Nat
  lf : List Int
  n : Nat
structure RuI (st : RS) (b : List Int) : Prop where
  ov : OvOk 1 st.ov st.xs.length (u8s st.xs)
  sfx : Sfx (ovp st.ov) st.p st.xs.length st.k
  lf : st.lf = st.xs.drop st.k
  cap : st.lf.length ≤ st.cap
  n : st.n = b.length
  left : st.lf = leftI b
  byt : Byt b
  words : st.on = true → st.s = wordsI b
  off : st.on = false → b = []
theorem CallM.imp {P : Program} {f : FuncId} {vs : List Value} {L : Lst} {w : World} {R R' : Value → Lst → Prop} (h : CallM P f vs L w R) (hr : ∀ v L, R v L → R' v L) : CallM P f vs L w R' :=
  ⟨fun hw => (h.run hw).mono fun e w' ⟨v, L', h1, h2, h3⟩ => ⟨v, L', h1, hr _ _ h2, h3⟩⟩
end Go.Proofs.YtplhnkmmhndkjaaGreat
set_option linter.unusedSimpArgs false
set_option linter.unusedVariables false
namespace Go.Proofs.YtplhnkmmhndkjaaGreat
open Go.RowKit Go.Shelf
set_option maxRecDepth 100000
theorem rdown {ov : Ov} {xs : List Int} {e : Nat} (hov : OvOk 1 ov xs.length (u8s xs)) {w0 w : World} {S : List Nat} {L : Lst} (hw : Hp w0 S L w) (hin : ∀ x ∈ blkL e ov (u8s xs), x ∈ L) : RdSl w (ovp ov) u8V xs := by
  rw [← fl_u8] at hov hin
  exact RdSl.own' hw hin hov u8V_len
theorem RuI.rd {st : RS} {b : List Int} (hI : RuI st b) {w0 w : World} {S : List Nat} {L : Lst} (hw : Hp w0 S L w) (hin : ∀ x ∈ blkL 5 st.ov (u8s st.xs), x ∈ L) : RdSl w st.p u8V st.lf := by
  rw [hI.lf]
  exact hI.sfx.rd _ _ rfl (rdown hI.ov hw hin)
end Go.Proofs.YtplhnkmmhndkjaaGreat
set_option linter.unusedSimpArgs false
set_option linter.unusedVariables false
set_option linter.unusedSectionVars false
namespace Go.Proofs.YtplhnkmmhndkjaaGreat
open Go.RowKit Go.Shelf
section
variable {X : Cx} {σ : Env} {L L' Li Lr : Lst} {d : Option Nat} {dd c : Nat} {ty : TypeId} {pos : String} {af : Array Edge} {g : Option (Nat × Bool)} {x y : Operand} {t t2 e : TypeId} {r r2 re : TRow}
variable {all : Array Oper} {rest : List Oper} {K : Env → Lst → Prop} {p : Option Addr} {n m cap i b : Nat}
/-- An array's variable, cut to a slice of all of it. -/
theorem Ok1.sliceArr {o : Nat} (ht : X.tb.row t = some r) (hk : r.k = .arr n e) (he : X.tb.row e = some re) (hx : ev σ x = some (.pointer (some ⟨b, o, none⟩))) :
    Ok1 X ⟨d, .slice t x none none none, ty, pos, af, g⟩ σ L (.slice (some ⟨b, o, none⟩) n n) := .mk fun a w ha hw => by
  have h2 := (X.tb.get ht).is
  rw [hk] at h2
  simp only [TK.is] at h2
  simp [execOp, Instr.sliceAt, run_underlying h2, ha.ev hx, Instr.sureAddr, Instr.sliceBounds, (X.tb.get he).size, Addr.add_none]
end
end Go.Proofs.YtplhnkmmhndkjaaGreat
set_option linter.unusedSimpArgs false
set_option linter.unusedVariables false
namespace Go.Proofs.YtplhnkmmhndkjaaGreat
open Go.RowKit Go.Shelf
section
variable {X : Cx} {all : Array Oper} {C L L' : Lst} {fuel fuel' : Nat} {listed listed' : Array Bool} {K : Env → Lst → Prop} {σ σ' : Env}
theorem A.weak (h : A X all C fuel listed K σ' L') (hs : Sub σ' σ) (hk : Keep L L') : A X all C fuel listed K σ L := ⟨fun a w ha hw hC => h.run a w (ha.sub hs) (hw.keep hk) hC⟩
theorem A.merge (P : Env → Lst → Prop) (fuel' : Nat) (listed' : Array Bool) (h1 : ∀ σ L, P σ L → A X all C fuel' listed' K σ L) (h2 : (∀ σ L, P σ L → A X all C fuel' listed' K σ L) → A X all C fuel listed K σ L) : A X all C fuel listed K σ L := h2 h1
/-- Those of a list, one by one. -/
def AllOf (X : Cx) (all : Array Oper) (C : Lst) (fuel : Nat) (listed : Array Bool) (K : Env → Lst → Prop) (σ : Env) (L : Lst) : List Nat → Prop
  | [] => True
  | i :: is => (∃ o, all[i]? = some o ∧ R X all [o] (fun σ' L' => SubL C L' ∧ A X all C fuel (listed.setIfInBounds i true) K σ' L') σ L) ∧ AllOf X all C fuel listed K σ L is
theorem AllOf.get : ∀ {rs : List Nat}, AllOf X all C fuel listed K σ L rs → ∀ i ∈ rs, ∃ o, all[i]? = some o ∧ R X all [o] (fun σ' L' => SubL C L' ∧ A X all C fuel (listed.setIfInBounds i true) K σ' L') σ L
  | [], _, i, hi => by cases hi
  | j :: js, h, i, hi => by
    rcases List.mem_cons.1 hi with rfl | hi
    · exact h.1
    · exact AllOf.get h.2 i hi
theorem A.multi (rs : List Nat) (hr : Region.ready .any all listed = rs) (hne : rs ≠ []) (h : AllOf X all C fuel listed K σ L rs) : A X all C (fuel + 1) listed K σ L :=
  ⟨fun a w ha hw hC => wpAnyC_all hr hne fun w' hc i hi => by
    obtain ⟨o, ho, h2⟩ := h.get i hi
    exact A.step ho h2 ha (hw.step hc) (hC.step hc)⟩
end
section
variable {X : Cx} {σ : Env} {L L' : Lst} {d : Option Nat} {dd b : Nat} {ty : TypeId} {pos : String} {af : Array Edge} {g : Option (Nat × Bool)} {x : Operand} {t e : TypeId} {r re : TRow}
variable {all : Array Oper} {rest : List Oper} {K : Env → Lst → Prop}
end
end Go.Proofs.YtplhnkmmhndkjaaGreat
set_option linter.unusedSimpArgs false
set_option linter.unusedVariables false
namespace Go.Proofs.YtplhnkmmhndkjaaGreat
open Go.RowKit Go.Shelf
def len4 (n : Int) : List Int := [n / 16777216 % 256, n / 65536 % 256, n / 256 % 256, n % 256]
theorem len4_byt (n : Int) : Byt (len4 n) := by
  intro y hy
  simp only [len4, List.mem_cons, List.not_mem_nil, or_false] at hy
  rcases hy with rfl | rfl | rfl | rfl <;> omega
theorem cellsE_slV (ov : Ov) (n : Nat) : cellsE (slV ov n) = some [slV ov n] := by cases ov <;> rfl
theorem one_slV (ov : Ov) (n : Nat) : [slV ov n].all Value.oneCell' = true := by cases ov <;> rfl
end Go.Proofs.YtplhnkmmhndkjaaGreat
set_option linter.unusedSimpArgs false
set_option linter.unusedVariables false
namespace Go.Proofs.YtplhnkmmhndkjaaGreat
open Go.RowKit Go.Shelf
set_option maxRecDepth 100000
def numI (s : Nat) (n : Int) : List Int := match s with
  | 0 => [n % 256]
  | 1 => [n / 256 % 256, n % 256]
  | _ => len4 n
theorem num_byt (s : Nat) (n : Int) : Byt (numI s n) := by
  unfold numI
  split
  · intro y hy; rw [List.mem_singleton.1 hy]; omega
  · intro y hy; simp only [List.mem_cons, List.not_mem_nil, or_false] at hy; rcases hy with rfl | rfl <;> omega
  · exact len4_byt n
theorem width_ok (s v : Int) (h0 : 0 ≤ s) (h1 : s ≤ 10) (h : IntKind.i64.wrap (1 * pw s.toNat) = v) : CallP Tryz.prog 143 [.int .i64 s] (.int .i64 v) := by
  refine enterP (tb := tb) Tryz.func143 rfl Tryz.ntmps143 rfl fun w => ?_
  have hb : s.toNat ≤ IntKind.i64.bits := by show s.toNat ≤ 64; omega
  repeat' (first | (apply R.is1; first | (apply R.isBin; (apply R.pure; exact rfl; (apply Ok1.shl; exact rfl; exact rfl; omega; exact hb; exact rfl))) | (apply R.pure; exact rfl; first | (apply Ok1.move; exact rfl) | (apply Ok1.assign; exact rfl))) | apply R.nil | (apply T.is; first | apply T.seq | apply T.region | apply T.ret))
  (apply RetOk.t; exact rfl)
  rw [h]
theorem Keep.eq1 {b : Nat} {e : TypeId} {fz : Nat × Nat} {A B : List Value} (h : A = B) : Keep [(b, .cells ⟨A⟩ e fz)] [(b, .cells ⟨B⟩ e fz)] := by subst h; (focus ((repeat' (first | exact Keep.nil _ | exact Ext.one _ _ | apply Keep.cons)); done))
theorem number_ok (s : Nat) (n : Int) (hs : s = 0 ∨ s = 1 ∨ s = 2) (h0 : 0 ≤ n) (h1 : n ≤ 9223372036854775807) (w : World) : CallM Tryz.prog 144 [.int .i64 s, .int .i64 n] [] w fun v L => ∃ b, v = .slice (some ⟨b, 0, none⟩) (numI s n).length (numI s n).length ∧ L = [(b, .cells ⟨u8s (numI s n)⟩ 5 (0, 0))] := by
  have hc : IntKind.u64.wrap n = n := wrap_u64 h0 (by omega)
  rcases hs with rfl | rfl | rfl
  · refine enterK (tb := tb) Tryz.func144 rfl Tryz.ntmps144 rfl ?_
    repeat' (first | (apply R.is1; first | (apply R.make1 (n := 1); (iterate 9 exact rfl); omega; intro bt) | (apply R.isBin; (apply R.pure; exact rfl; first | (apply Ok1.shr; exact rfl; exact rfl; omega; exact Nat.le_of_ble_eq_true rfl; exact rfl) | (apply Ok1.add64; exact rfl; exact rfl; omega; omega) | (apply Ok1.sub64; exact rfl; exact rfl; omega; omega) | (apply Ok1.lss_t; exact rfl; exact rfl; omega) | (apply Ok1.lss_f; exact rfl; exact rfl; omega) | (apply Ok1.mul64; exact rfl; exact rfl; omega; omega))) | (apply R.isCall; first | apply R.callP rfl rfl rfl (width_ok 0 1 (by decide) (by decide) (by decide)) | (apply R.pure; exact rfl; (apply Ok1.lenS; (iterate 3 exact rfl)))) | (apply R.pure; exact rfl; first | (apply Ok1.move; exact rfl) | (apply Ok1.assign; exact rfl) | (apply Ok1.indexAddr; (iterate 5 exact rfl); omega; omega) | (apply Ok1.convU64; (iterate 5 exact rfl); omega; omega) | (apply Ok1.conv; (iterate 5 exact rfl)))) | (apply R.is0; (apply R.store; (iterate 6 exact rfl); exact Upd.head; exact rfl)) | apply R.nil | (apply T.is; first | apply T.rounds 2 | apply T.seq | apply T.region | apply T.block | apply T.skip | apply T.exit | apply T.ret | (apply T.cond_t; exact rfl) | (apply T.cond_f; exact rfl)))
    (apply RetOk.t; exact rfl)
    refine ⟨_, ?_, bt, rfl, rfl⟩
    simp only [u8_mod]
    apply Keep.eq1
    simp [numI, u8s, len4, pw]
  · refine enterK (tb := tb) Tryz.func144 rfl Tryz.ntmps144 rfl ?_
    repeat' (first | (apply R.is1; first | (apply R.make1 (n := 2); (iterate 9 exact rfl); omega; intro bt) | (apply R.isBin; (apply R.pure; exact rfl; first | (apply Ok1.shr; exact rfl; exact rfl; omega; exact Nat.le_of_ble_eq_true rfl; exact rfl) | (apply Ok1.add64; exact rfl; exact rfl; omega; omega) | (apply Ok1.sub64; exact rfl; exact rfl; omega; omega) | (apply Ok1.lss_t; exact rfl; exact rfl; omega) | (apply Ok1.lss_f; exact rfl; exact rfl; omega) | (apply Ok1.mul64; exact rfl; exact rfl; omega; omega))) | (apply R.isCall; first | apply R.callP rfl rfl rfl (width_ok 1 2 (by decide) (by decide) (by decide)) | (apply R.pure; exact rfl; (apply Ok1.lenS; (iterate 3 exact rfl)))) | (apply R.pure; exact rfl; first | (apply Ok1.move; exact rfl) | (apply Ok1.assign; exact rfl) | (apply Ok1.indexAddr; (iterate 5 exact rfl); omega; omega) | (apply Ok1.convU64; (iterate 5 exact rfl); omega; omega) | (apply Ok1.conv; (iterate 5 exact rfl)))) | (apply R.is0; (apply R.store; (iterate 6 exact rfl); exact Upd.head; exact rfl)) | apply R.nil | (apply T.is; first | apply T.rounds 3 | apply T.seq | apply T.region | apply T.block | apply T.skip | apply T.exit | apply T.ret | (apply T.cond_t; exact rfl) | (apply T.cond_f; exact rfl)))
    (apply RetOk.t; exact rfl)
    refine ⟨_, ?_, bt, rfl, rfl⟩
    simp only [u8_mod]
    apply Keep.eq1
    simp [numI, u8s, len4, pw]
  · refine enterK (tb := tb) Tryz.func144 rfl Tryz.ntmps144 rfl ?_
    repeat' (first | (apply R.is1; first | (apply R.make1 (n := 4); (iterate 9 exact rfl); omega; intro bt) | (apply R.isBin; (apply R.pure; exact rfl; first | (apply Ok1.shr; exact rfl; exact rfl; omega; exact Nat.le_of_ble_eq_true rfl; exact rfl) | (apply Ok1.add64; exact rfl; exact rfl; omega; omega) | (apply Ok1.sub64; exact rfl; exact rfl; omega; omega) | (apply Ok1.lss_t; exact rfl; exact rfl; omega) | (apply Ok1.lss_f; exact rfl; exact rfl; omega) | (apply Ok1.mul64; exact rfl; exact rfl; omega; omega))) | (apply R.isCall; first | apply R.callP rfl rfl rfl (width_ok 2 4 (by decide) (by decide) (by decide)) | (apply R.pure; exact rfl; (apply Ok1.lenS; (iterate 3 exact rfl)))) | (apply R.pure; exact rfl; first | (apply Ok1.move; exact rfl) | (apply Ok1.assign; exact rfl) | (apply Ok1.indexAddr; (iterate 5 exact rfl); omega; omega) | (apply Ok1.convU64; (iterate 5 exact rfl); omega; omega) | (apply Ok1.conv; (iterate 5 exact rfl)))) | (apply R.is0; (apply R.store; (iterate 6 exact rfl); exact Upd.head; exact rfl)) | apply R.nil | (apply T.is; first | apply T.rounds 5 | apply T.seq | apply T.region | apply T.block | apply T.skip | apply T.exit | apply T.ret | (apply T.cond_t; exact rfl) | (apply T.cond_f; exact rfl)))
    (apply RetOk.t; exact rfl)
    refine ⟨_, ?_, bt, rfl, rfl⟩
    simp only [u8_mod]
    apply Keep.eq1
    simp [numI, u8s, len4, pw]
end Go.Proofs.YtplhnkmmhndkjaaGreat
set_option linter.unusedSimpArgs false
set_option linter.unusedVariables false
namespace Go.Proofs.YtplhnkmmhndkjaaGreat
open Go.RowKit Go.Shelf
set_option maxRecDepth 100000
/-- A number that fits its size. -/
def Fits (s : Nat) (n : Int) : Prop := 0 ≤ n ∧ (s = 0 ∧ n ≤ 255 ∨ s = 1 ∧ n ≤ 65535 ∨ s = 2 ∧ n ≤ 4294967295)
def fldV (s : Nat) (n : Int) : List Value := [.int .i64 s, .int .i64 n, .slice none 0 0]
theorem wcheck_ok (s : Nat) (n : Int) (h : Fits s n) : CallP Tryz.prog 123 [.agg ⟨fldV s n⟩] (.int .i64 0) := by
  obtain ⟨h0, h⟩ := h
  unfold fldV
  rcases h with ⟨rfl, h1⟩ | ⟨rfl, h1⟩ | ⟨rfl, h1⟩
  · refine enterP (tb := tb) Tryz.func123 rfl Tryz.ntmps123 rfl fun w => ?_
    repeat' (first | (apply R.is1; first | (apply R.isBin; (apply R.pure; exact rfl; first | (apply Ok1.lss_t; exact rfl; exact rfl; omega) | (apply Ok1.lss_f; exact rfl; exact rfl; omega) | (apply Ok1.gtr_f; exact rfl; exact rfl; omega) | (apply Ok1.eql_f; exact rfl; exact rfl; omega))) | (apply R.isCall; (apply R.pure; exact rfl; (apply Ok1.lenS; (iterate 3 exact rfl)))) | (apply R.pure; exact rfl; first | (apply Ok1.move; exact rfl) | (apply Ok1.fieldAddr; (iterate 5 exact rfl)) | (apply Ok1.load; exact rfl; (apply Ld.own1; exact rfl; exact rfl; exact At.head; exact rfl)) | (apply Ok1.assign; exact rfl) | (apply Ok1.pick_t; exact rfl; exact rfl) | (apply Ok1.pick_f; exact rfl; exact rfl)) | (apply R.box; (iterate 3 exact rfl); intro)) | (apply R.isG; first | (apply R.guard_run; exact rfl; exact rfl) | (apply R.guard_not; (iterate 3 exact rfl))) | apply R.nil | (apply T.is; first | (apply T.drawC (id := 5) [0] (by decide); ((apply A.take 0; exact rfl; exact rfl; kernel_rfl; kernel_rfl; kernel_rfl; (apply Ok1.fieldAddr; (iterate 5 exact rfl))) <;> (apply A.take 1; exact rfl; exact rfl; kernel_rfl; kernel_rfl; kernel_rfl; (apply Ok1.load; exact rfl; (apply Ld.own1; exact rfl; exact rfl; exact At.head; exact rfl))) <;> ((apply A.take 2; exact rfl; exact rfl; kernel_rfl; kernel_rfl; kernel_rfl; (apply Ok1.lss_f; exact rfl; exact rfl; omega))) <;> (apply A.take 3; exact rfl; exact rfl; kernel_rfl; kernel_rfl; kernel_rfl; (apply Ok1.move; exact rfl)) <;> ((apply A.takeG 4; exact rfl; exact rfl; rotate_left 3; exact rfl; exact rfl; rotate_right 3; kernel_rfl; kernel_rfl; kernel_rfl; (apply Ok1.fieldAddr; (iterate 5 exact rfl)))) <;> ((apply A.takeG 5; exact rfl; exact rfl; rotate_left 3; exact rfl; exact rfl; rotate_right 3; kernel_rfl; kernel_rfl; kernel_rfl; (apply Ok1.load; exact rfl; (apply Ld.own1; exact rfl; exact rfl; exact At.head; exact rfl)))) <;> ((apply A.takeG 6; exact rfl; exact rfl; rotate_left 3; exact rfl; exact rfl; rotate_right 3; kernel_rfl; kernel_rfl; kernel_rfl; (apply Ok1.lss_t; exact rfl; exact rfl; omega))) <;> ((apply A.takeG 7; exact rfl; exact rfl; rotate_left 3; exact rfl; exact rfl; rotate_right 3; kernel_rfl; kernel_rfl; kernel_rfl; (apply Ok1.move; exact rfl))) <;> ((apply A.takeG 8; exact rfl; exact rfl; rotate_left 3; exact rfl; exact rfl; rotate_right 3; kernel_rfl; kernel_rfl; kernel_rfl; (apply Ok1.fieldAddr; (iterate 5 exact rfl)))) <;> ((apply A.takeG 9; exact rfl; exact rfl; rotate_left 3; exact rfl; exact rfl; rotate_right 3; kernel_rfl; kernel_rfl; kernel_rfl; (apply Ok1.load; exact rfl; (apply Ld.own1; exact rfl; exact rfl; exact At.head; exact rfl)))) <;> ((apply A.takeG 10; exact rfl; exact rfl; rotate_left 3; exact rfl; exact rfl; rotate_right 3; kernel_rfl; kernel_rfl; kernel_rfl; (apply Ok1.fieldAddr; (iterate 5 exact rfl)))) <;> ((apply A.takeG 11; exact rfl; exact rfl; rotate_left 3; exact rfl; exact rfl; rotate_right 3; kernel_rfl; kernel_rfl; kernel_rfl; (apply Ok1.load; exact rfl; (apply Ld.own1; exact rfl; exact rfl; exact At.head; exact rfl)))) <;> (apply A.one 12; kernel_rfl; exact rfl; (((apply R.isG; apply R.guard_run; exact rfl; exact rfl; (apply R.callP rfl rfl rfl (width_ok 0 1 (by decide) (by decide) (by decide)))))); apply R.nil; refine ⟨?_, ?_⟩; (focus ((repeat' (first | exact trivial | (refine ⟨?_, ?_⟩; exact At.head)))))) <;> ((apply A.takeG 13; exact rfl; exact rfl; rotate_left 3; exact rfl; exact rfl; rotate_right 3; kernel_rfl; kernel_rfl; kernel_rfl; (apply Ok1.mul64; exact rfl; exact rfl; omega; omega))) <;> ((apply A.takeG 14; exact rfl; exact rfl; rotate_left 3; exact rfl; exact rfl; rotate_right 3; kernel_rfl; kernel_rfl; kernel_rfl; (apply Ok1.shr (m := 256); exact rfl; exact rfl; omega; exact Nat.le_of_ble_eq_true rfl; exact rfl))) <;> ((apply A.takeG 15; exact rfl; exact rfl; rotate_left 3; exact rfl; exact rfl; rotate_right 3; kernel_rfl; kernel_rfl; kernel_rfl; (apply Ok1.neq_f; exact rfl; exact rfl; omega))) <;> ((apply A.takeG 16; exact rfl; exact rfl; rotate_left 3; exact rfl; exact rfl; rotate_right 3; kernel_rfl; kernel_rfl; kernel_rfl; (apply Ok1.pick_t; exact rfl; exact rfl))) <;> (apply A.take 17; exact rfl; exact rfl; kernel_rfl; kernel_rfl; kernel_rfl; (apply Ok1.pick_f; exact rfl; exact rfl)) <;> (apply A.take 18; exact rfl; exact rfl; kernel_rfl; kernel_rfl; kernel_rfl; (apply Ok1.assign; exact rfl)) <;> (apply A.done; kernel_rfl))) | apply T.seq | apply T.region | apply T.block | apply T.skip | apply T.ret | (apply T.cond_f; exact rfl)))
    (apply RetOk.t; exact rfl)
    rfl
  · refine enterP (tb := tb) Tryz.func123 rfl Tryz.ntmps123 rfl fun w => ?_
    repeat' (first | (apply R.is1; first | (apply R.isBin; (apply R.pure; exact rfl; first | (apply Ok1.lss_t; exact rfl; exact rfl; omega) | (apply Ok1.lss_f; exact rfl; exact rfl; omega) | (apply Ok1.gtr_f; exact rfl; exact rfl; omega) | (apply Ok1.eql_f; exact rfl; exact rfl; omega))) | (apply R.isCall; (apply R.pure; exact rfl; (apply Ok1.lenS; (iterate 3 exact rfl)))) | (apply R.pure; exact rfl; first | (apply Ok1.move; exact rfl) | (apply Ok1.fieldAddr; (iterate 5 exact rfl)) | (apply Ok1.load; exact rfl; (apply Ld.own1; exact rfl; exact rfl; exact At.head; exact rfl)) | (apply Ok1.assign; exact rfl) | (apply Ok1.pick_t; exact rfl; exact rfl) | (apply Ok1.pick_f; exact rfl; exact rfl)) | (apply R.box; (iterate 3 exact rfl); intro)) | (apply R.isG; first | (apply R.guard_run; exact rfl; exact rfl) | (apply R.guard_not; (iterate 3 exact rfl))) | apply R.nil | (apply T.is; first | (apply T.drawC (id := 5) [0] (by decide); ((apply A.take 0; exact rfl; exact rfl; kernel_rfl; kernel_rfl; kernel_rfl; (apply Ok1.fieldAddr; (iterate 5 exact rfl))) <;> (apply A.take 1; exact rfl; exact rfl; kernel_rfl; kernel_rfl; kernel_rfl; (apply Ok1.load; exact rfl; (apply Ld.own1; exact rfl; exact rfl; exact At.head; exact rfl))) <;> ((apply A.take 2; exact rfl; exact rfl; kernel_rfl; kernel_rfl; kernel_rfl; (apply Ok1.lss_f; exact rfl; exact rfl; omega))) <;> (apply A.take 3; exact rfl; exact rfl; kernel_rfl; kernel_rfl; kernel_rfl; (apply Ok1.move; exact rfl)) <;> ((apply A.takeG 4; exact rfl; exact rfl; rotate_left 3; exact rfl; exact rfl; rotate_right 3; kernel_rfl; kernel_rfl; kernel_rfl; (apply Ok1.fieldAddr; (iterate 5 exact rfl)))) <;> ((apply A.takeG 5; exact rfl; exact rfl; rotate_left 3; exact rfl; exact rfl; rotate_right 3; kernel_rfl; kernel_rfl; kernel_rfl; (apply Ok1.load; exact rfl; (apply Ld.own1; exact rfl; exact rfl; exact At.head; exact rfl)))) <;> ((apply A.takeG 6; exact rfl; exact rfl; rotate_left 3; exact rfl; exact rfl; rotate_right 3; kernel_rfl; kernel_rfl; kernel_rfl; (apply Ok1.lss_t; exact rfl; exact rfl; omega))) <;> ((apply A.takeG 7; exact rfl; exact rfl; rotate_left 3; exact rfl; exact rfl; rotate_right 3; kernel_rfl; kernel_rfl; kernel_rfl; (apply Ok1.move; exact rfl))) <;> ((apply A.takeG 8; exact rfl; exact rfl; rotate_left 3; exact rfl; exact rfl; rotate_right 3; kernel_rfl; kernel_rfl; kernel_rfl; (apply Ok1.fieldAddr; (iterate 5 exact rfl)))) <;> ((apply A.takeG 9; exact rfl; exact rfl; rotate_left 3; exact rfl; exact rfl; rotate_right 3; kernel_rfl; kernel_rfl; kernel_rfl; (apply Ok1.load; exact rfl; (apply Ld.own1; exact rfl; exact rfl; exact At.head; exact rfl)))) <;> ((apply A.takeG 10; exact rfl; exact rfl; rotate_left 3; exact rfl; exact rfl; rotate_right 3; kernel_rfl; kernel_rfl; kernel_rfl; (apply Ok1.fieldAddr; (iterate 5 exact rfl)))) <;> ((apply A.takeG 11; exact rfl; exact rfl; rotate_left 3; exact rfl; exact rfl; rotate_right 3; kernel_rfl; kernel_rfl; kernel_rfl; (apply Ok1.load; exact rfl; (apply Ld.own1; exact rfl; exact rfl; exact At.head; exact rfl)))) <;> (apply A.one 12; kernel_rfl; exact rfl; (((apply R.isG; apply R.guard_run; exact rfl; exact rfl; (apply R.callP rfl rfl rfl (width_ok 1 2 (by decide) (by decide) (by decide)))))); apply R.nil; refine ⟨?_, ?_⟩; (focus ((repeat' (first | exact trivial | (refine ⟨?_, ?_⟩; exact At.head)))))) <;> ((apply A.takeG 13; exact rfl; exact rfl; rotate_left 3; exact rfl; exact rfl; rotate_right 3; kernel_rfl; kernel_rfl; kernel_rfl; (apply Ok1.mul64; exact rfl; exact rfl; omega; omega))) <;> ((apply A.takeG 14; exact rfl; exact rfl; rotate_left 3; exact rfl; exact rfl; rotate_right 3; kernel_rfl; kernel_rfl; kernel_rfl; (apply Ok1.shr (m := 65536); exact rfl; exact rfl; omega; exact Nat.le_of_ble_eq_true rfl; exact rfl))) <;> ((apply A.takeG 15; exact rfl; exact rfl; rotate_left 3; exact rfl; exact rfl; rotate_right 3; kernel_rfl; kernel_rfl; kernel_rfl; (apply Ok1.neq_f; exact rfl; exact rfl; omega))) <;> ((apply A.takeG 16; exact rfl; exact rfl; rotate_left 3; exact rfl; exact rfl; rotate_right 3; kernel_rfl; kernel_rfl; kernel_rfl; (apply Ok1.pick_t; exact rfl; exact rfl))) <;> (apply A.take 17; exact rfl; exact rfl; kernel_rfl; kernel_rfl; kernel_rfl; (apply Ok1.pick_f; exact rfl; exact rfl)) <;> (apply A.take 18; exact rfl; exact rfl; kernel_rfl; kernel_rfl; kernel_rfl; (apply Ok1.assign; exact rfl)) <;> (apply A.done; kernel_rfl))) | apply T.seq | apply T.region | apply T.block | apply T.skip | apply T.ret | (apply T.cond_f; exact rfl)))
    (apply RetOk.t; exact rfl)
    rfl
  · refine enterP (tb := tb) Tryz.func123 rfl Tryz.ntmps123 rfl fun w => ?_
    repeat' (first | (apply R.is1; first | (apply R.isBin; (apply R.pure; exact rfl; first | (apply Ok1.lss_t; exact rfl; exact rfl; omega) | (apply Ok1.lss_f; exact rfl; exact rfl; omega) | (apply Ok1.gtr_f; exact rfl; exact rfl; omega) | (apply Ok1.eql_f; exact rfl; exact rfl; omega))) | (apply R.isCall; (apply R.pure; exact rfl; (apply Ok1.lenS; (iterate 3 exact rfl)))) | (apply R.pure; exact rfl; first | (apply Ok1.move; exact rfl) | (apply Ok1.fieldAddr; (iterate 5 exact rfl)) | (apply Ok1.load; exact rfl; (apply Ld.own1; exact rfl; exact rfl; exact At.head; exact rfl)) | (apply Ok1.assign; exact rfl) | (apply Ok1.pick_t; exact rfl; exact rfl) | (apply Ok1.pick_f; exact rfl; exact rfl)) | (apply R.box; (iterate 3 exact rfl); intro)) | (apply R.isG; first | (apply R.guard_run; exact rfl; exact rfl) | (apply R.guard_not; (iterate 3 exact rfl))) | apply R.nil | (apply T.is; first | (apply T.drawC (id := 5) [0] (by decide); ((apply A.take 0; exact rfl; exact rfl; kernel_rfl; kernel_rfl; kernel_rfl; (apply Ok1.fieldAddr; (iterate 5 exact rfl))) <;> (apply A.take 1; exact rfl; exact rfl; kernel_rfl; kernel_rfl; kernel_rfl; (apply Ok1.load; exact rfl; (apply Ld.own1; exact rfl; exact rfl; exact At.head; exact rfl))) <;> ((apply A.take 2; exact rfl; exact rfl; kernel_rfl; kernel_rfl; kernel_rfl; (apply Ok1.lss_f; exact rfl; exact rfl; omega))) <;> (apply A.take 3; exact rfl; exact rfl; kernel_rfl; kernel_rfl; kernel_rfl; (apply Ok1.move; exact rfl)) <;> ((apply A.takeG 4; exact rfl; exact rfl; rotate_left 3; exact rfl; exact rfl; rotate_right 3; kernel_rfl; kernel_rfl; kernel_rfl; (apply Ok1.fieldAddr; (iterate 5 exact rfl)))) <;> ((apply A.takeG 5; exact rfl; exact rfl; rotate_left 3; exact rfl; exact rfl; rotate_right 3; kernel_rfl; kernel_rfl; kernel_rfl; (apply Ok1.load; exact rfl; (apply Ld.own1; exact rfl; exact rfl; exact At.head; exact rfl)))) <;> ((apply A.takeG 6; exact rfl; exact rfl; rotate_left 3; exact rfl; exact rfl; rotate_right 3; kernel_rfl; kernel_rfl; kernel_rfl; (apply Ok1.lss_t; exact rfl; exact rfl; omega))) <;> ((apply A.takeG 7; exact rfl; exact rfl; rotate_left 3; exact rfl; exact rfl; rotate_right 3; kernel_rfl; kernel_rfl; kernel_rfl; (apply Ok1.move; exact rfl))) <;> ((apply A.takeG 8; exact rfl; exact rfl; rotate_left 3; exact rfl; exact rfl; rotate_right 3; kernel_rfl; kernel_rfl; kernel_rfl; (apply Ok1.fieldAddr; (iterate 5 exact rfl)))) <;> ((apply A.takeG 9; exact rfl; exact rfl; rotate_left 3; exact rfl; exact rfl; rotate_right 3; kernel_rfl; kernel_rfl; kernel_rfl; (apply Ok1.load; exact rfl; (apply Ld.own1; exact rfl; exact rfl; exact At.head; exact rfl)))) <;> ((apply A.takeG 10; exact rfl; exact rfl; rotate_left 3; exact rfl; exact rfl; rotate_right 3; kernel_rfl; kernel_rfl; kernel_rfl; (apply Ok1.fieldAddr; (iterate 5 exact rfl)))) <;> ((apply A.takeG 11; exact rfl; exact rfl; rotate_left 3; exact rfl; exact rfl; rotate_right 3; kernel_rfl; kernel_rfl; kernel_rfl; (apply Ok1.load; exact rfl; (apply Ld.own1; exact rfl; exact rfl; exact At.head; exact rfl)))) <;> (apply A.one 12; kernel_rfl; exact rfl; (((apply R.isG; apply R.guard_run; exact rfl; exact rfl; (apply R.callP rfl rfl rfl (width_ok 2 4 (by decide) (by decide) (by decide)))))); apply R.nil; refine ⟨?_, ?_⟩; (focus ((repeat' (first | exact trivial | (refine ⟨?_, ?_⟩; exact At.head)))))) <;> ((apply A.takeG 13; exact rfl; exact rfl; rotate_left 3; exact rfl; exact rfl; rotate_right 3; kernel_rfl; kernel_rfl; kernel_rfl; (apply Ok1.mul64; exact rfl; exact rfl; omega; omega))) <;> ((apply A.takeG 14; exact rfl; exact rfl; rotate_left 3; exact rfl; exact rfl; rotate_right 3; kernel_rfl; kernel_rfl; kernel_rfl; (apply Ok1.shr (m := 4294967296); exact rfl; exact rfl; omega; exact Nat.le_of_ble_eq_true rfl; exact rfl))) <;> ((apply A.takeG 15; exact rfl; exact rfl; rotate_left 3; exact rfl; exact rfl; rotate_right 3; kernel_rfl; kernel_rfl; kernel_rfl; (apply Ok1.neq_f; exact rfl; exact rfl; omega))) <;> ((apply A.takeG 16; exact rfl; exact rfl; rotate_left 3; exact rfl; exact rfl; rotate_right 3; kernel_rfl; kernel_rfl; kernel_rfl; (apply Ok1.pick_t; exact rfl; exact rfl))) <;> (apply A.take 17; exact rfl; exact rfl; kernel_rfl; kernel_rfl; kernel_rfl; (apply Ok1.pick_f; exact rfl; exact rfl)) <;> (apply A.take 18; exact rfl; exact rfl; kernel_rfl; kernel_rfl; kernel_rfl; (apply Ok1.assign; exact rfl)) <;> (apply A.done; kernel_rfl))) | apply T.seq | apply T.region | apply T.block | apply T.skip | apply T.ret | (apply T.cond_f; exact rfl)))
    (apply RetOk.t; exact rfl)
    rfl
theorem fout_ok (s : Nat) (n : Int) (h : Fits s n) (w : World) : CallM Tryz.prog 124 [.agg ⟨fldV s n⟩] [] w fun v L => ∃ b, v = .slice (some ⟨b, 0, none⟩) (numI s n).length (numI s n).length ∧ L = [(b, .cells ⟨u8s (numI s n)⟩ 5 (0, 0))] := by
  have hs : s = 0 ∨ s = 1 ∨ s = 2 := by unfold Fits at h; omega
  have hn : n ≤ 9223372036854775807 := by unfold Fits at h; omega
  have hnum := fun w1 => number_ok s n hs h.1 hn w1
  unfold fldV
  refine enterK (tb := tb) Tryz.func124 rfl Tryz.ntmps124 rfl ?_
  repeat' (first | (apply R.is1; first | (apply R.isBin; (apply R.pure; exact rfl; (apply Ok1.eql_f; exact rfl; exact rfl; omega))) | (apply R.isCall; (apply R.callE; (iterate 3 exact rfl); exact Ext.none _; intro w1 hw1; exact hnum w1; rintro v Lo ⟨b, rfl, rfl⟩)) | (apply R.pure; exact rfl; first | (apply Ok1.fieldAddr; (iterate 5 exact rfl)) | (apply Ok1.load; exact rfl; (apply Ld.own1; exact rfl; exact rfl; exact At.head; exact rfl)) | (apply Ok1.assign; exact rfl)) | (apply R.box; (iterate 3 exact rfl); intro)) | apply R.nil | (apply T.is; first | apply T.seq | apply T.region | apply T.skip | apply T.ret | (apply T.cond_f; exact rfl)))
  (apply RetOk.t; exact rfl)
  exact ⟨_, by (focus ((repeat' (first | exact Keep.nil _ | exact Ext.one _ _ | apply Keep.cons)); done)), b, rfl, rfl⟩
/-- A writer that has written, without an error. -/
def WL (bw : Nat) (ov : Ov) (bs : List Int) : Lst := (bw, .cells ⟨[slV ov bs.length, .int .i64 0]⟩ 152 (0, 0)) :: blkL 5 ov (u8s bs)
def WRes (bw : Nat) (bs : List Int) (v : Value) (L : Lst) : Prop := ∃ ov, v = .pointer (some ⟨bw, 0, none⟩) ∧ OvOk 1 ov bs.length (u8s bs) ∧ L = WL bw ov bs
theorem num_len (s : Nat) (n : Int) : 1 ≤ (numI s n).length ∧ (numI s n).length ≤ 4 := by unfold numI len4; split <;> simp
theorem put_ok (bw : Nat) (ov : Ov) (bs : List Int) (hov : OvOk 1 ov bs.length (u8s bs)) (s : Nat) (n : Int) (h : Fits s n) (hbig : bs.length ≤ 1000) (bf : Nat) (fz : Nat × Nat) (e : TypeId) (w : World) (hb : w.heap[bf]? = some (.cells ⟨fldV s n⟩ e fz)) (hoff : bf ∉ blks (WL bw ov bs)) :
    CallM Tryz.prog 108 [.pointer (some ⟨bw, 0, none⟩), .slice (some ⟨bf, 0, none⟩) 1 1] (WL bw ov bs) w (WRes bw (bs ++ numI s n)) := by
  have hck := wcheck_ok s n h
  have hfo := fun w1 => fout_ok s n h w1
  have hnl := num_len s n
  unfold WRes
  generalize numI s n = nb at *
  refine enterK (tb := tb) Tryz.func108 rfl Tryz.ntmps108 rfl ?_
  obtain ⟨S, hS⟩ : ∃ S, S = blks (WL bw ov bs) := ⟨_, rfl⟩
  rw [← hS] at hoff ⊢
  simp only [WL, fldV] at hb hck hfo ⊢
  repeat' (first | (apply R.is1; first | (apply R.isBin; (apply R.pure; exact rfl; first | (apply Ok1.add64; exact rfl; exact rfl; omega; omega) | (apply Ok1.lss_t; exact rfl; exact rfl; omega) | (apply Ok1.lss_f; exact rfl; exact rfl; omega) | (apply Ok1.gtr_f; exact rfl; exact rfl; omega) | (apply Ok1.neq_f; exact rfl; exact rfl; omega) | (apply Ok1.eqlP; (iterate 5 exact rfl)))) | (apply R.isCall; first | apply R.callP rfl rfl rfl hck | (apply R.callE; (iterate 3 exact rfl); exact Ext.none _; intro w1 hw1; exact hfo w1; rintro v Lo ⟨b7, rfl, rfl⟩) | (apply R.pure; exact rfl; apply Ok1.lenOv; (iterate 3 exact rfl); exact hov) | (apply R.appendRd (xs := nb) (v := u8V) (sz := 1) (ov := ov) (n := bs.length) (old := u8s bs); (iterate 12 exact rfl); exact hov; (focus ((repeat' (first | exact Ext.all _ | apply Ext.cons)); done)); exact rfl; exact u8V_len; exact rfl; (intro w1 hw1; exact RdSl.of (junk := []) hw1 (by exact At.head) (by rw [fl_u8, List.append_nil])); (focus (rw [fl_u8]; exact u8s_one nb)); omega; intro ov1 hov1 hsome; rw [fl_u8, ← u8s_app, ← List.length_append]; rw [fl_u8, ← u8s_app, ← List.length_append] at hov1) | (apply R.pure; exact rfl; (apply Ok1.lenS; (iterate 3 exact rfl)))) | (apply R.pure; exact rfl; first | (apply Ok1.move; exact rfl) | (apply Ok1.fieldAddr; (iterate 5 exact rfl)) | (apply Ok1.load; exact rfl; first | (apply Ld.own1; exact rfl; exact rfl; (focus ((repeat' (first | exact At.head | apply At.tail)); done)); exact rfl) | (apply Ld.ownk; exact rfl; exact rfl; (focus ((repeat' (first | exact At.head | apply At.tail)); done)); exact rfl) | (apply Ld.blkk; exact rfl; exact rfl; assumption; (assumption); exact rfl)) | (apply Ok1.assign; exact rfl) | (apply Ok1.indexAddr; (iterate 5 exact rfl); omega; omega) | (apply Ok1.nilCheck; exact rfl)) | (apply R.alloc; (iterate 3 exact rfl); intro)) | (apply R.is0; first | (apply R.store; (iterate 3 exact rfl); exact cellsE_slV _ _; exact rfl; exact one_slV _ _; (focus ((repeat' (first | exact Upd.head | apply Upd.tail | apply Upd.right)); done)); exact rfl) | (apply R.store; (iterate 6 exact rfl); (focus ((repeat' (first | exact Upd.head | apply Upd.tail)); done)); exact rfl)) | apply R.nil | (apply T.is; first | apply T.rounds 3 | apply T.seq | apply T.region | apply T.block | apply T.scope | apply T.label | apply T.skip | apply T.exit | apply T.ret | (apply T.cond_t; exact rfl) | (apply T.cond_f; exact rfl)))
  (apply RetOk.t; exact rfl)
  refine ⟨_, ?_, ov1, rfl, hov1, rfl⟩
  (focus ((repeat' (first | exact Ext.one _ _ | exact Ext.here _ _ | apply Keep.cons | apply Keep.last | apply Ext.cons | apply Ext.app)); done))
theorem number1_ok (bw : Nat) (ov : Ov) (bs : List Int) (hov : OvOk 1 ov bs.length (u8s bs)) (s : Nat) (n : Int) (h : Fits s n) (hbig : bs.length ≤ 1000) (bl : Nat) (fz : Nat × Nat) (e : TypeId) (w : World) (hb : w.heap[bl]? = some (.cells ⟨[.int .i64 n]⟩ e fz)) (hoff : bl ∉ blks (WL bw ov bs)) :
    CallM Tryz.prog 75 [.pointer (some ⟨bw, 0, none⟩), .int .i64 s, .slice (some ⟨bl, 0, none⟩) 1 1] (WL bw ov bs) w (WRes bw (bs ++ numI s n)) := by
  have hput := fun bf fz e w1 => put_ok bw ov bs hov s n h hbig bf fz e w1
  unfold WRes at hput ⊢
  generalize bs ++ numI s n = nb at *
  refine enterK (tb := tb) Tryz.func75 rfl Tryz.ntmps75 rfl ?_
  obtain ⟨S, hS⟩ : ∃ S, S = blks (WL bw ov bs) := ⟨_, rfl⟩
  rw [← hS] at hoff ⊢
  repeat' (first | (apply R.is1; first | (apply R.isBin; (apply R.pure; exact rfl; first | (apply Ok1.add64; exact rfl; exact rfl; omega; omega) | (apply Ok1.lss_t; exact rfl; exact rfl; omega) | (apply Ok1.lss_f; exact rfl; exact rfl; omega))) | (apply R.isCall; first | (apply R.callE (Li := WL bw ov bs); (iterate 3 exact rfl); (focus ((repeat' (first | exact Ext.all _ | apply Ext.cons)); done)); intro w1 hw1; exact hput _ _ _ w1 (hw1.get _ _ (At.mem (by exact At.head))) (RdSl.off hw1 (by (focus ((repeat' (first | exact Ext.all _ | apply Ext.cons)); done))) (At.mem (by exact At.head))); rintro v Lo ⟨ov1, rfl, hov1, rfl⟩) | (apply R.pure; exact rfl; (apply Ok1.lenS; (iterate 3 exact rfl)))) | (apply R.pure; exact rfl; first | (apply Ok1.move; exact rfl) | (apply Ok1.load; exact rfl; (apply Ld.blk1; exact rfl; exact rfl; assumption; (assumption); exact rfl)) | (apply Ok1.assign; exact rfl) | (apply Ok1.indexAddr; (iterate 5 exact rfl); omega; omega) | (apply Ok1.build; (iterate 5 exact rfl))) | (apply R.buildSlice; (iterate 12 exact rfl); intro)) | apply R.nil | (apply T.is; first | apply T.rounds 3 | apply T.seq | apply T.region | apply T.block | apply T.skip | apply T.exit | apply T.ret | (apply T.cond_t; exact rfl) | (apply T.cond_f; exact rfl)))
  (apply RetOk.t; exact rfl)
  refine ⟨_, ?_, ov1, rfl, hov1, rfl⟩
  (focus ((repeat' (first | exact Ext.one _ _ | exact Ext.here _ _ | apply Keep.cons | apply Keep.last)); done))
theorem wout_ok (bw : Nat) (ov : Ov) (bs : List Int) (hov : OvOk 1 ov bs.length (u8s bs)) (hbig : bs.length ≤ 1000000) (w : World) (hb : w.heap[bw]? = some (.cells ⟨[slV ov bs.length, .int .i64 0]⟩ 152 (0, 0))) (hr : RdSl w (ovp ov) u8V bs) :
    CallM Tryz.prog 76 [.pointer (some ⟨bw, 0, none⟩)] [] w fun v L => ∃ ov', OvOk 1 ov' bs.length (u8s bs) ∧ v = .tuple #[slV ov' bs.length, .int .i64 0] ∧ L = blkL 5 ov' (u8s bs) := by
  rw [slV_eq hov] at hb
  refine enterK (tb := tb) Tryz.func76 rfl Tryz.ntmps76 rfl ?_
  have hcl := fun w1 (hc : Chg [] w w1) => clone_ok (ovp ov) bs.length (ovc ov bs.length) bs rfl (by omega) w1 (hr.chg' hc (fun _ => Off.nil _))
  repeat' (first | (apply R.is1; first | (apply R.isBin; (apply R.pure; exact rfl; first | (apply Ok1.neq_f; exact rfl; exact rfl; omega) | (apply Ok1.eqlP; (iterate 5 exact rfl)))) | (apply R.isCall; (apply R.callE; (iterate 3 exact rfl); exact Ext.none _; intro w1 hw1; exact hcl w1 hw1.chg; rintro v Lo ⟨ov2, hov2, hsome, rfl, rfl⟩)) | (apply R.pure; exact rfl; first | (apply Ok1.move; exact rfl) | (apply Ok1.fieldAddr; (iterate 5 exact rfl)) | (apply Ok1.load; exact rfl; (apply Ld.blk1; exact rfl; exact rfl; assumption; (exact List.not_mem_nil); exact rfl)) | (apply Ok1.assign; exact rfl) | (apply Ok1.nilCheck; exact rfl))) | apply R.nil | (apply T.is; first | apply T.seq | apply T.region | apply T.block | apply T.skip | apply T.ret | (apply T.cond_f; exact rfl)))
  (apply RetOk.tt; exact rfl; exact rfl)
  exact ⟨_, by (focus ((repeat' (first | exact Ext.here _ _ | apply Keep.last)); done)), ov2, hov2, rfl, rfl⟩
end Go.Proofs.YtplhnkmmhndkjaaGreat
set_option linter.unusedSimpArgs false
set_option linter.unusedVariables false
namespace Go.Proofs.YtplhnkmmhndkjaaGreat
open Go.RowKit Go.Shelf
set_option maxRecDepth 100000
theorem RdSl.heap {α : Type} {v : α → List Value} {rs : List α} {w : World} {b : Nat} {e : TypeId} {fz : Nat × Nat} {junk : List Value} (h : w.heap[b]? = some (.cells ⟨fl v rs ++ junk⟩ e fz)) : RdSl w (some ⟨b, 0, none⟩) v rs := by
  right
  refine ⟨b, 0, rfl, fun k hk => ?_⟩
  simp only [World.cell?, h]
  simp [hk, List.getElem?_append_left]
end Go.Proofs.YtplhnkmmhndkjaaGreat
set_option linter.unusedSimpArgs false
set_option linter.unusedVariables false
namespace Go.Proofs.YtplhnkmmhndkjaaGreat
open Go.RowKit Go.Shelf
set_option maxRecDepth 100000
def clI (c : Cl) : List Int := ((([] ++ numI 1 c.id) ++ numI 0 c.roles) ++ numI 2 c.exp) ++ numI 1 c.ser
theorem clI_len (c : Cl) : (clI c).length = 9 := rfl
theorem byt_nil : Byt [] := fun x hx => by cases hx
theorem clI_byt (c : Cl) : Byt (clI c) := Byt.app (Byt.app (Byt.app (Byt.app byt_nil (num_byt _ _)) (num_byt _ _)) (num_byt _ _)) (num_byt _ _)
theorem clBytes_ok (c : Cl) (hr : c.right) (w : World) : CallM Tryz.prog 78 [kvC c] [] w fun v L => ∃ ov, OvOk 1 ov 9 (u8s (clI c)) ∧ v = .tuple #[slV ov 9, .int .i64 0] ∧ L = blkL 5 ov (u8s (clI c)) := by
  have hck := check_ok c.id c.roles c.exp c.ser
  rw [if_pos hr] at hck
  have hf1 : Fits 1 c.id := by unfold Cl.right at hr; unfold Fits; omega
  have hf2 : Fits 0 c.roles := by unfold Cl.right at hr; unfold Fits; omega
  have hf3 : Fits 2 c.exp := by unfold Cl.right at hr; unfold Fits; omega
  have hf4 : Fits 1 c.ser := by unfold Cl.right at hr; unfold Fits; omega
  refine enterK (tb := tb) Tryz.func78 rfl Tryz.ntmps78 rfl ?_
  simp only [kvC]
  repeat' (first | (apply R.is1; first | (apply R.isBin; (apply R.pure; exact rfl; (apply Ok1.neq_f; exact rfl; exact rfl; omega))) | (apply R.isCall; apply R.callP rfl rfl rfl hck) | (apply R.pure; exact rfl; first | (apply Ok1.move; exact rfl) | (apply Ok1.load; exact rfl; (apply Ld.ownk; exact rfl; exact rfl; exact At.head; exact rfl)) | (apply Ok1.assign; exact rfl)) | (apply R.box; (iterate 3 exact rfl); intro) | (apply R.alloc; (iterate 3 exact rfl); intro)) | apply R.nil | (apply T.is; first | apply T.seq | apply T.region | apply T.skip | (apply T.cond_f; exact rfl)))
  rename_i bc bw
  obtain ⟨B0, hB0⟩ : ∃ B : List Int, B = [] := ⟨_, rfl⟩
  obtain ⟨B1, hB1⟩ : ∃ B, B = B0 ++ numI 1 c.id := ⟨_, rfl⟩
  obtain ⟨B2, hB2⟩ : ∃ B, B = B1 ++ numI 0 c.roles := ⟨_, rfl⟩
  obtain ⟨B3, hB3⟩ : ∃ B, B = B2 ++ numI 2 c.exp := ⟨_, rfl⟩
  obtain ⟨B4, hB4⟩ : ∃ B, B = B3 ++ numI 1 c.ser := ⟨_, rfl⟩
  have hl0 : B0.length ≤ 1000 := by rw [hB0]; decide
  have hl1 : B1.length ≤ 1000 := by rw [hB1, hB0]; exact Nat.le_of_ble_eq_true rfl
  have hl2 : B2.length ≤ 1000 := by rw [hB2, hB1, hB0]; exact Nat.le_of_ble_eq_true rfl
  have hl3 : B3.length ≤ 1000 := by rw [hB3, hB2, hB1, hB0]; exact Nat.le_of_ble_eq_true rfl
  have hB : B4 = clI c := by rw [hB4, hB3, hB2, hB1, hB0]; rfl
  have hw0 : OvOk 1 none B0.length (u8s B0) := by rw [hB0]; exact OvOk.start 1
  apply T.drawC (id := 5) [1] (by decide)
  (apply A.take 0; exact rfl; exact rfl; kernel_rfl; kernel_rfl; kernel_rfl; (apply Ok1.fieldAddr; (iterate 5 exact rfl))) <;> (apply A.take 1; exact rfl; exact rfl; kernel_rfl; kernel_rfl; kernel_rfl; (apply Ok1.load; exact rfl; (apply Ld.own1; exact rfl; exact rfl; exact At.head; exact rfl))) <;> (apply A.take 4; exact rfl; exact rfl; kernel_rfl; kernel_rfl; kernel_rfl; (apply Ok1.fieldAddr; (iterate 5 exact rfl))) <;> (apply A.take 5; exact rfl; exact rfl; kernel_rfl; kernel_rfl; kernel_rfl; (apply Ok1.load; exact rfl; (apply Ld.own1; exact rfl; exact rfl; exact At.head; exact rfl))) <;> (apply A.take 8; exact rfl; exact rfl; kernel_rfl; kernel_rfl; kernel_rfl; (apply Ok1.fieldAddr; (iterate 5 exact rfl))) <;> (apply A.take 9; exact rfl; exact rfl; kernel_rfl; kernel_rfl; kernel_rfl; (apply Ok1.load; exact rfl; (apply Ld.own1; exact rfl; exact rfl; exact At.head; exact rfl))) <;> (apply A.take 12; exact rfl; exact rfl; kernel_rfl; kernel_rfl; kernel_rfl; (apply Ok1.fieldAddr; (iterate 5 exact rfl))) <;> (apply A.take 13; exact rfl; exact rfl; kernel_rfl; kernel_rfl; kernel_rfl; (apply Ok1.load; exact rfl; (apply Ld.own1; exact rfl; exact rfl; exact At.head; exact rfl)))
  refine A.merge (fun σ L => ∃ (ov : Ov), OvOk 1 ov B4.length (u8s B4) ∧ Sub [(5, .pointer (some ⟨bw, 0, none⟩)), (12, .int .i64 c.id), (16, .int .i64 c.roles), (20, .int .i64 c.exp), (24, .int .i64 c.ser), (26, .pointer (some ⟨bw, 0, none⟩))] σ ∧ Keep L (WL bw ov B4 ++ [(bc, .cells ⟨[.int .i64 c.id, .int .i64 c.roles, .int .i64 c.exp, .int .i64 c.ser]⟩ 71 (0, 0))])) 5 #[true, true, true, true, true, true, true, true, true, true, true, true, true, true, true, true, false, false, false, false, false] ?_ ?_
  rotate_left 1
  focus
    intro H4_
    refine A.merge (fun σ L => ∃ (ov : Ov) (b3 : Nat), OvOk 1 ov B3.length (u8s B3) ∧ Sub [(5, .pointer (some ⟨bw, 0, none⟩)), (12, .int .i64 c.id), (16, .int .i64 c.roles), (20, .int .i64 c.exp), (24, .int .i64 c.ser), (22, .pointer (some ⟨bw, 0, none⟩)), (25, .slice (some ⟨b3, 0, none⟩) 1 1)] σ ∧ Keep L (WL bw ov B3 ++ [(bc, .cells ⟨[.int .i64 c.id, .int .i64 c.roles, .int .i64 c.exp, .int .i64 c.ser]⟩ 71 (0, 0)), (b3, .cells ⟨[.int .i64 c.ser]⟩ 3 (0, 0))])) 6 #[true, true, true, true, true, true, true, true, true, true, true, true, true, true, true, false, false, false, false, false, false] ?_ ?_
    · rintro σ L ⟨ov, b3, hov, hs, hk⟩
      refine A.weak ?_ hs hk
      refine A.multi [15] (by kernel_rfl) (by decide) ⟨⟨_, rfl, ?_⟩, trivial⟩
      · (apply R.callE (Li := WL bw ov B3); (iterate 3 exact rfl); (focus ((repeat' (exact Ext.here _ _)); done)); intro w1 hw1; have h9 := number1_ok bw ov B3 hov 1 c.ser hf4 hl3 b3 _ _ w1 (hw1.get _ _ (At.mem (by (focus ((repeat' (first | exact At.head | apply At.tail | apply At.right)); done))))) (RdSl.off hw1 (by (focus ((repeat' (exact Ext.here _ _)); done))) (At.mem (by (focus ((repeat' (first | exact At.head | apply At.tail)); done))))); rw [← hB4] at h9; exact h9; rintro v Lo ⟨ov1, rfl, hov1, rfl⟩); apply R.nil; refine ⟨(by (focus ((repeat' (first | exact trivial | (refine ⟨?_, ?_⟩; (focus ((repeat' (first | exact At.head | apply At.tail | apply At.right)); done)))))))), A.cast (by kernel_rfl) (H4_ _ _ ⟨ov1, hov1, ⟨rfl, rfl, rfl, rfl, rfl, rfl, trivial⟩, (by (focus ((repeat' (first | exact Keep.nil _ | exact Ext.one _ _ | exact Ext.here _ _ | apply Keep.cons | apply Keep.app)); done)))⟩)⟩
    intro H3_3
    refine A.merge (fun σ L => ∃ (ov : Ov), OvOk 1 ov B3.length (u8s B3) ∧ Sub [(5, .pointer (some ⟨bw, 0, none⟩)), (12, .int .i64 c.id), (16, .int .i64 c.roles), (20, .int .i64 c.exp), (24, .int .i64 c.ser), (22, .pointer (some ⟨bw, 0, none⟩))] σ ∧ Keep L (WL bw ov B3 ++ [(bc, .cells ⟨[.int .i64 c.id, .int .i64 c.roles, .int .i64 c.exp, .int .i64 c.ser]⟩ 71 (0, 0))])) 7 #[true, true, true, true, true, true, true, true, true, true, true, true, true, true, false, false, false, false, false, false, false] ?_ ?_
    · rintro σ L ⟨ov, hov, hs, hk⟩
      refine A.weak ?_ hs hk
      refine A.multi [14] (by kernel_rfl) (by decide) ⟨⟨_, rfl, ?_⟩, trivial⟩
      · (((apply R.buildSlice; (iterate 12 exact rfl); intro))); rename_i b3; apply R.nil; refine ⟨(by (focus ((repeat' (first | exact trivial | (refine ⟨?_, ?_⟩; (focus ((repeat' (first | exact At.head | apply At.tail | apply At.right)); done)))))))), A.cast (by kernel_rfl) (H3_3 _ _ ⟨ov, b3, hov, ⟨rfl, rfl, rfl, rfl, rfl, rfl, rfl, trivial⟩, (by (focus ((repeat' (first | exact Keep.nil _ | exact Ext.one _ _ | exact Ext.here _ _ | apply Keep.cons | apply Keep.app | apply Ext.cons)); done)))⟩)⟩
    intro H3_
    refine A.merge (fun σ L => ∃ (ov : Ov) (b2 : Nat) (b3 : Nat), OvOk 1 ov B2.length (u8s B2) ∧ Sub [(5, .pointer (some ⟨bw, 0, none⟩)), (12, .int .i64 c.id), (16, .int .i64 c.roles), (20, .int .i64 c.exp), (24, .int .i64 c.ser), (18, .pointer (some ⟨bw, 0, none⟩)), (21, .slice (some ⟨b2, 0, none⟩) 1 1), (25, .slice (some ⟨b3, 0, none⟩) 1 1)] σ ∧ Keep L (WL bw ov B2 ++ [(bc, .cells ⟨[.int .i64 c.id, .int .i64 c.roles, .int .i64 c.exp, .int .i64 c.ser]⟩ 71 (0, 0)), (b2, .cells ⟨[.int .i64 c.exp]⟩ 3 (0, 0)), (b3, .cells ⟨[.int .i64 c.ser]⟩ 3 (0, 0))])) 7 #[true, true, true, true, true, true, true, true, true, true, true, false, true, true, true, false, false, false, false, false, false] ?_ ?_
    · rintro σ L ⟨ov, b2, b3, hov, hs, hk⟩
      refine A.weak ?_ hs hk
      refine A.multi [11] (by kernel_rfl) (by decide) ⟨⟨_, rfl, ?_⟩, trivial⟩
      · (apply R.callE (Li := WL bw ov B2); (iterate 3 exact rfl); (focus ((repeat' (exact Ext.here _ _)); done)); intro w1 hw1; have h9 := number1_ok bw ov B2 hov 2 c.exp hf3 hl2 b2 _ _ w1 (hw1.get _ _ (At.mem (by (focus ((repeat' (first | exact At.head | apply At.tail | apply At.right)); done))))) (RdSl.off hw1 (by (focus ((repeat' (exact Ext.here _ _)); done))) (At.mem (by (focus ((repeat' (first | exact At.head | apply At.tail)); done))))); rw [← hB3] at h9; exact h9; rintro v Lo ⟨ov1, rfl, hov1, rfl⟩); apply R.nil; refine ⟨(by (focus ((repeat' (first | exact trivial | (refine ⟨?_, ?_⟩; (focus ((repeat' (first | exact At.head | apply At.tail | apply At.right)); done)))))))), A.cast (by kernel_rfl) (H3_3 _ _ ⟨ov1, b3, hov1, ⟨rfl, rfl, rfl, rfl, rfl, rfl, rfl, trivial⟩, (by (focus ((repeat' (first | exact Keep.nil _ | exact Ext.one _ _ | exact Ext.here _ _ | apply Keep.cons | apply Keep.app | apply Ext.cons)); done)))⟩)⟩
    intro H2_23
    refine A.merge (fun σ L => ∃ (ov : Ov) (b2 : Nat), OvOk 1 ov B2.length (u8s B2) ∧ Sub [(5, .pointer (some ⟨bw, 0, none⟩)), (12, .int .i64 c.id), (16, .int .i64 c.roles), (20, .int .i64 c.exp), (24, .int .i64 c.ser), (18, .pointer (some ⟨bw, 0, none⟩)), (21, .slice (some ⟨b2, 0, none⟩) 1 1)] σ ∧ Keep L (WL bw ov B2 ++ [(bc, .cells ⟨[.int .i64 c.id, .int .i64 c.roles, .int .i64 c.exp, .int .i64 c.ser]⟩ 71 (0, 0)), (b2, .cells ⟨[.int .i64 c.exp]⟩ 3 (0, 0))])) 8 #[true, true, true, true, true, true, true, true, true, true, true, false, true, true, false, false, false, false, false, false, false] ?_ ?_
    · rintro σ L ⟨ov, b2, hov, hs, hk⟩
      refine A.weak ?_ hs hk
      refine A.multi [11, 14] (by kernel_rfl) (by decide) ⟨⟨_, rfl, ?_⟩, ⟨_, rfl, ?_⟩, trivial⟩
      · (apply R.callE (Li := WL bw ov B2); (iterate 3 exact rfl); (focus ((repeat' (exact Ext.here _ _)); done)); intro w1 hw1; have h9 := number1_ok bw ov B2 hov 2 c.exp hf3 hl2 b2 _ _ w1 (hw1.get _ _ (At.mem (by (focus ((repeat' (first | exact At.head | apply At.tail | apply At.right)); done))))) (RdSl.off hw1 (by (focus ((repeat' (exact Ext.here _ _)); done))) (At.mem (by (focus ((repeat' (first | exact At.head | apply At.tail)); done))))); rw [← hB3] at h9; exact h9; rintro v Lo ⟨ov1, rfl, hov1, rfl⟩); apply R.nil; refine ⟨(by (focus ((repeat' (first | exact trivial | (refine ⟨?_, ?_⟩; (focus ((repeat' (first | exact At.head | apply At.tail | apply At.right)); done)))))))), A.cast (by kernel_rfl) (H3_ _ _ ⟨ov1, hov1, ⟨rfl, rfl, rfl, rfl, rfl, rfl, trivial⟩, (by (focus ((repeat' (first | exact Keep.nil _ | exact Ext.one _ _ | exact Ext.here _ _ | apply Keep.cons | apply Keep.app)); done)))⟩)⟩
      · (((apply R.buildSlice; (iterate 12 exact rfl); intro))); rename_i b3; apply R.nil; refine ⟨(by (focus ((repeat' (first | exact trivial | (refine ⟨?_, ?_⟩; (focus ((repeat' (first | exact At.head | apply At.tail | apply At.right)); done)))))))), A.cast (by kernel_rfl) (H2_23 _ _ ⟨ov, b2, b3, hov, ⟨rfl, rfl, rfl, rfl, rfl, rfl, rfl, rfl, trivial⟩, (by (focus ((repeat' (first | exact Keep.nil _ | exact Ext.one _ _ | exact Ext.here _ _ | apply Keep.cons | apply Keep.app | apply Ext.cons)); done)))⟩)⟩
    intro H2_2
    refine A.merge (fun σ L => ∃ (ov : Ov) (b3 : Nat), OvOk 1 ov B2.length (u8s B2) ∧ Sub [(5, .pointer (some ⟨bw, 0, none⟩)), (12, .int .i64 c.id), (16, .int .i64 c.roles), (20, .int .i64 c.exp), (24, .int .i64 c.ser), (18, .pointer (some ⟨bw, 0, none⟩)), (25, .slice (some ⟨b3, 0, none⟩) 1 1)] σ ∧ Keep L (WL bw ov B2 ++ [(bc, .cells ⟨[.int .i64 c.id, .int .i64 c.roles, .int .i64 c.exp, .int .i64 c.ser]⟩ 71 (0, 0)), (b3, .cells ⟨[.int .i64 c.ser]⟩ 3 (0, 0))])) 8 #[true, true, true, true, true, true, true, true, true, true, false, false, true, true, true, false, false, false, false, false, false] ?_ ?_
    · rintro σ L ⟨ov, b3, hov, hs, hk⟩
      refine A.weak ?_ hs hk
      refine A.multi [10] (by kernel_rfl) (by decide) ⟨⟨_, rfl, ?_⟩, trivial⟩
      · (((apply R.buildSlice; (iterate 12 exact rfl); intro))); rename_i b2; apply R.nil; refine ⟨(by (focus ((repeat' (first | exact trivial | (refine ⟨?_, ?_⟩; (focus ((repeat' (first | exact At.head | apply At.tail | apply At.right)); done)))))))), A.cast (by kernel_rfl) (H2_23 _ _ ⟨ov, b2, b3, hov, ⟨rfl, rfl, rfl, rfl, rfl, rfl, rfl, rfl, trivial⟩, (by (focus ((repeat' (first | exact Keep.nil _ | exact Ext.one _ _ | exact Ext.here _ _ | apply Keep.cons | apply Keep.app | apply Ext.cons)); done)))⟩)⟩
    intro H2_3
    refine A.merge (fun σ L => ∃ (ov : Ov), OvOk 1 ov B2.length (u8s B2) ∧ Sub [(5, .pointer (some ⟨bw, 0, none⟩)), (12, .int .i64 c.id), (16, .int .i64 c.roles), (20, .int .i64 c.exp), (24, .int .i64 c.ser), (18, .pointer (some ⟨bw, 0, none⟩))] σ ∧ Keep L (WL bw ov B2 ++ [(bc, .cells ⟨[.int .i64 c.id, .int .i64 c.roles, .int .i64 c.exp, .int .i64 c.ser]⟩ 71 (0, 0))])) 9 #[true, true, true, true, true, true, true, true, true, true, false, false, true, true, false, false, false, false, false, false, false] ?_ ?_
    · rintro σ L ⟨ov, hov, hs, hk⟩
      refine A.weak ?_ hs hk
      refine A.multi [10, 14] (by kernel_rfl) (by decide) ⟨⟨_, rfl, ?_⟩, ⟨_, rfl, ?_⟩, trivial⟩
      · (((apply R.buildSlice; (iterate 12 exact rfl); intro))); rename_i b2; apply R.nil; refine ⟨(by (focus ((repeat' (first | exact trivial | (refine ⟨?_, ?_⟩; (focus ((repeat' (first | exact At.head | apply At.tail | apply At.right)); done)))))))), A.cast (by kernel_rfl) (H2_2 _ _ ⟨ov, b2, hov, ⟨rfl, rfl, rfl, rfl, rfl, rfl, rfl, trivial⟩, (by (focus ((repeat' (first | exact Keep.nil _ | exact Ext.one _ _ | exact Ext.here _ _ | apply Keep.cons | apply Keep.app | apply Ext.cons)); done)))⟩)⟩
      · (((apply R.buildSlice; (iterate 12 exact rfl); intro))); rename_i b3; apply R.nil; refine ⟨(by (focus ((repeat' (first | exact trivial | (refine ⟨?_, ?_⟩; (focus ((repeat' (first | exact At.head | apply At.tail | apply At.right)); done)))))))), A.cast (by kernel_rfl) (H2_3 _ _ ⟨ov, b3, hov, ⟨rfl, rfl, rfl, rfl, rfl, rfl, rfl, trivial⟩, (by (focus ((repeat' (first | exact Keep.nil _ | exact Ext.one _ _ | exact Ext.here _ _ | apply Keep.cons | apply Keep.app | apply Ext.cons)); done)))⟩)⟩
    intro H2_
    refine A.merge (fun σ L => ∃ (ov : Ov) (b1 : Nat) (b2 : Nat) (b3 : Nat), OvOk 1 ov B1.length (u8s B1) ∧ Sub [(5, .pointer (some ⟨bw, 0, none⟩)), (12, .int .i64 c.id), (16, .int .i64 c.roles), (20, .int .i64 c.exp), (24, .int .i64 c.ser), (14, .pointer (some ⟨bw, 0, none⟩)), (17, .slice (some ⟨b1, 0, none⟩) 1 1), (21, .slice (some ⟨b2, 0, none⟩) 1 1), (25, .slice (some ⟨b3, 0, none⟩) 1 1)] σ ∧ Keep L (WL bw ov B1 ++ [(bc, .cells ⟨[.int .i64 c.id, .int .i64 c.roles, .int .i64 c.exp, .int .i64 c.ser]⟩ 71 (0, 0)), (b1, .cells ⟨[.int .i64 c.roles]⟩ 3 (0, 0)), (b2, .cells ⟨[.int .i64 c.exp]⟩ 3 (0, 0)), (b3, .cells ⟨[.int .i64 c.ser]⟩ 3 (0, 0))])) 8 #[true, true, true, true, true, true, true, false, true, true, true, false, true, true, true, false, false, false, false, false, false] ?_ ?_
    · rintro σ L ⟨ov, b1, b2, b3, hov, hs, hk⟩
      refine A.weak ?_ hs hk
      refine A.multi [7] (by kernel_rfl) (by decide) ⟨⟨_, rfl, ?_⟩, trivial⟩
      · (apply R.callE (Li := WL bw ov B1); (iterate 3 exact rfl); (focus ((repeat' (exact Ext.here _ _)); done)); intro w1 hw1; have h9 := number1_ok bw ov B1 hov 0 c.roles hf2 hl1 b1 _ _ w1 (hw1.get _ _ (At.mem (by (focus ((repeat' (first | exact At.head | apply At.tail | apply At.right)); done))))) (RdSl.off hw1 (by (focus ((repeat' (exact Ext.here _ _)); done))) (At.mem (by (focus ((repeat' (first | exact At.head | apply At.tail)); done))))); rw [← hB2] at h9; exact h9; rintro v Lo ⟨ov1, rfl, hov1, rfl⟩); apply R.nil; refine ⟨(by (focus ((repeat' (first | exact trivial | (refine ⟨?_, ?_⟩; (focus ((repeat' (first | exact At.head | apply At.tail | apply At.right)); done)))))))), A.cast (by kernel_rfl) (H2_23 _ _ ⟨ov1, b2, b3, hov1, ⟨rfl, rfl, rfl, rfl, rfl, rfl, rfl, rfl, trivial⟩, (by (focus ((repeat' (first | exact Keep.nil _ | exact Ext.one _ _ | exact Ext.here _ _ | apply Keep.cons | apply Keep.app | apply Ext.cons)); done)))⟩)⟩
    intro H1_123
    refine A.merge (fun σ L => ∃ (ov : Ov) (b1 : Nat) (b2 : Nat), OvOk 1 ov B1.length (u8s B1) ∧ Sub [(5, .pointer (some ⟨bw, 0, none⟩)), (12, .int .i64 c.id), (16, .int .i64 c.roles), (20, .int .i64 c.exp), (24, .int .i64 c.ser), (14, .pointer (some ⟨bw, 0, none⟩)), (17, .slice (some ⟨b1, 0, none⟩) 1 1), (21, .slice (some ⟨b2, 0, none⟩) 1 1)] σ ∧ Keep L (WL bw ov B1 ++ [(bc, .cells ⟨[.int .i64 c.id, .int .i64 c.roles, .int .i64 c.exp, .int .i64 c.ser]⟩ 71 (0, 0)), (b1, .cells ⟨[.int .i64 c.roles]⟩ 3 (0, 0)), (b2, .cells ⟨[.int .i64 c.exp]⟩ 3 (0, 0))])) 9 #[true, true, true, true, true, true, true, false, true, true, true, false, true, true, false, false, false, false, false, false, false] ?_ ?_
    · rintro σ L ⟨ov, b1, b2, hov, hs, hk⟩
      refine A.weak ?_ hs hk
      refine A.multi [7, 14] (by kernel_rfl) (by decide) ⟨⟨_, rfl, ?_⟩, ⟨_, rfl, ?_⟩, trivial⟩
      · (apply R.callE (Li := WL bw ov B1); (iterate 3 exact rfl); (focus ((repeat' (exact Ext.here _ _)); done)); intro w1 hw1; have h9 := number1_ok bw ov B1 hov 0 c.roles hf2 hl1 b1 _ _ w1 (hw1.get _ _ (At.mem (by (focus ((repeat' (first | exact At.head | apply At.tail | apply At.right)); done))))) (RdSl.off hw1 (by (focus ((repeat' (exact Ext.here _ _)); done))) (At.mem (by (focus ((repeat' (first | exact At.head | apply At.tail)); done))))); rw [← hB2] at h9; exact h9; rintro v Lo ⟨ov1, rfl, hov1, rfl⟩); apply R.nil; refine ⟨(by (focus ((repeat' (first | exact trivial | (refine ⟨?_, ?_⟩; (focus ((repeat' (first | exact At.head | apply At.tail | apply At.right)); done)))))))), A.cast (by kernel_rfl) (H2_2 _ _ ⟨ov1, b2, hov1, ⟨rfl, rfl, rfl, rfl, rfl, rfl, rfl, trivial⟩, (by (focus ((repeat' (first | exact Keep.nil _ | exact Ext.one _ _ | exact Ext.here _ _ | apply Keep.cons | apply Keep.app | apply Ext.cons)); done)))⟩)⟩
      · (((apply R.buildSlice; (iterate 12 exact rfl); intro))); rename_i b3; apply R.nil; refine ⟨(by (focus ((repeat' (first | exact trivial | (refine ⟨?_, ?_⟩; (focus ((repeat' (first | exact At.head | apply At.tail | apply At.right)); done)))))))), A.cast (by kernel_rfl) (H1_123 _ _ ⟨ov, b1, b2, b3, hov, ⟨rfl, rfl, rfl, rfl, rfl, rfl, rfl, rfl, rfl, trivial⟩, (by (focus ((repeat' (first | exact Keep.nil _ | exact Ext.one _ _ | exact Ext.here _ _ | apply Keep.cons | apply Keep.app | apply Ext.cons)); done)))⟩)⟩
    intro H1_12
    refine A.merge (fun σ L => ∃ (ov : Ov) (b1 : Nat) (b3 : Nat), OvOk 1 ov B1.length (u8s B1) ∧ Sub [(5, .pointer (some ⟨bw, 0, none⟩)), (12, .int .i64 c.id), (16, .int .i64 c.roles), (20, .int .i64 c.exp), (24, .int .i64 c.ser), (14, .pointer (some ⟨bw, 0, none⟩)), (17, .slice (some ⟨b1, 0, none⟩) 1 1), (25, .slice (some ⟨b3, 0, none⟩) 1 1)] σ ∧ Keep L (WL bw ov B1 ++ [(bc, .cells ⟨[.int .i64 c.id, .int .i64 c.roles, .int .i64 c.exp, .int .i64 c.ser]⟩ 71 (0, 0)), (b1, .cells ⟨[.int .i64 c.roles]⟩ 3 (0, 0)), (b3, .cells ⟨[.int .i64 c.ser]⟩ 3 (0, 0))])) 9 #[true, true, true, true, true, true, true, false, true, true, false, false, true, true, true, false, false, false, false, false, false] ?_ ?_
    · rintro σ L ⟨ov, b1, b3, hov, hs, hk⟩
      refine A.weak ?_ hs hk
      refine A.multi [7, 10] (by kernel_rfl) (by decide) ⟨⟨_, rfl, ?_⟩, ⟨_, rfl, ?_⟩, trivial⟩
      · (apply R.callE (Li := WL bw ov B1); (iterate 3 exact rfl); (focus ((repeat' (exact Ext.here _ _)); done)); intro w1 hw1; have h9 := number1_ok bw ov B1 hov 0 c.roles hf2 hl1 b1 _ _ w1 (hw1.get _ _ (At.mem (by (focus ((repeat' (first | exact At.head | apply At.tail | apply At.right)); done))))) (RdSl.off hw1 (by (focus ((repeat' (exact Ext.here _ _)); done))) (At.mem (by (focus ((repeat' (first | exact At.head | apply At.tail)); done))))); rw [← hB2] at h9; exact h9; rintro v Lo ⟨ov1, rfl, hov1, rfl⟩); apply R.nil; refine ⟨(by (focus ((repeat' (first | exact trivial | (refine ⟨?_, ?_⟩; (focus ((repeat' (first | exact At.head | apply At.tail | apply At.right)); done)))))))), A.cast (by kernel_rfl) (H2_3 _ _ ⟨ov1, b3, hov1, ⟨rfl, rfl, rfl, rfl, rfl, rfl, rfl, trivial⟩, (by (focus ((repeat' (first | exact Keep.nil _ | exact Ext.one _ _ | exact Ext.here _ _ | apply Keep.cons | apply Keep.app | apply Ext.cons)); done)))⟩)⟩
      · (((apply R.buildSlice; (iterate 12 exact rfl); intro))); rename_i b2; apply R.nil; refine ⟨(by (focus ((repeat' (first | exact trivial | (refine ⟨?_, ?_⟩; (focus ((repeat' (first | exact At.head | apply At.tail | apply At.right)); done)))))))), A.cast (by kernel_rfl) (H1_123 _ _ ⟨ov, b1, b2, b3, hov, ⟨rfl, rfl, rfl, rfl, rfl, rfl, rfl, rfl, rfl, trivial⟩, (by (focus ((repeat' (first | exact Keep.nil _ | exact Ext.one _ _ | exact Ext.here _ _ | apply Keep.cons | apply Keep.app | apply Ext.cons)); done)))⟩)⟩
    intro H1_13
    refine A.merge (fun σ L => ∃ (ov : Ov) (b2 : Nat) (b3 : Nat), OvOk 1 ov B1.length (u8s B1) ∧ Sub [(5, .pointer (some ⟨bw, 0, none⟩)), (12, .int .i64 c.id), (16, .int .i64 c.roles), (20, .int .i64 c.exp), (24, .int .i64 c.ser), (14, .pointer (some ⟨bw, 0, none⟩)), (21, .slice (some ⟨b2, 0, none⟩) 1 1), (25, .slice (some ⟨b3, 0, none⟩) 1 1)] σ ∧ Keep L (WL bw ov B1 ++ [(bc, .cells ⟨[.int .i64 c.id, .int .i64 c.roles, .int .i64 c.exp, .int .i64 c.ser]⟩ 71 (0, 0)), (b2, .cells ⟨[.int .i64 c.exp]⟩ 3 (0, 0)), (b3, .cells ⟨[.int .i64 c.ser]⟩ 3 (0, 0))])) 9 #[true, true, true, true, true, true, false, false, true, true, true, false, true, true, true, false, false, false, false, false, false] ?_ ?_
    · rintro σ L ⟨ov, b2, b3, hov, hs, hk⟩
      refine A.weak ?_ hs hk
      refine A.multi [6] (by kernel_rfl) (by decide) ⟨⟨_, rfl, ?_⟩, trivial⟩
      · (((apply R.buildSlice; (iterate 12 exact rfl); intro))); rename_i b1; apply R.nil; refine ⟨(by (focus ((repeat' (first | exact trivial | (refine ⟨?_, ?_⟩; (focus ((repeat' (first | exact At.head | apply At.tail | apply At.right)); done)))))))), A.cast (by kernel_rfl) (H1_123 _ _ ⟨ov, b1, b2, b3, hov, ⟨rfl, rfl, rfl, rfl, rfl, rfl, rfl, rfl, rfl, trivial⟩, (by (focus ((repeat' (first | exact Keep.nil _ | exact Ext.one _ _ | exact Ext.here _ _ | apply Keep.cons | apply Keep.app | apply Ext.cons)); done)))⟩)⟩
    intro H1_23
    refine A.merge (fun σ L => ∃ (ov : Ov) (b1 : Nat), OvOk 1 ov B1.length (u8s B1) ∧ Sub [(5, .pointer (some ⟨bw, 0, none⟩)), (12, .int .i64 c.id), (16, .int .i64 c.roles), (20, .int .i64 c.exp), (24, .int .i64 c.ser), (14, .pointer (some ⟨bw, 0, none⟩)), (17, .slice (some ⟨b1, 0, none⟩) 1 1)] σ ∧ Keep L (WL bw ov B1 ++ [(bc, .cells ⟨[.int .i64 c.id, .int .i64 c.roles, .int .i64 c.exp, .int .i64 c.ser]⟩ 71 (0, 0)), (b1, .cells ⟨[.int .i64 c.roles]⟩ 3 (0, 0))])) 10 #[true, true, true, true, true, true, true, false, true, true, false, false, true, true, false, false, false, false, false, false, false] ?_ ?_
    · rintro σ L ⟨ov, b1, hov, hs, hk⟩
      refine A.weak ?_ hs hk
      refine A.multi [7, 10, 14] (by kernel_rfl) (by decide) ⟨⟨_, rfl, ?_⟩, ⟨_, rfl, ?_⟩, ⟨_, rfl, ?_⟩, trivial⟩
      · (apply R.callE (Li := WL bw ov B1); (iterate 3 exact rfl); (focus ((repeat' (exact Ext.here _ _)); done)); intro w1 hw1; have h9 := number1_ok bw ov B1 hov 0 c.roles hf2 hl1 b1 _ _ w1 (hw1.get _ _ (At.mem (by (focus ((repeat' (first | exact At.head | apply At.tail | apply At.right)); done))))) (RdSl.off hw1 (by (focus ((repeat' (exact Ext.here _ _)); done))) (At.mem (by (focus ((repeat' (first | exact At.head | apply At.tail)); done))))); rw [← hB2] at h9; exact h9; rintro v Lo ⟨ov1, rfl, hov1, rfl⟩); apply R.nil; refine ⟨(by (focus ((repeat' (first | exact trivial | (refine ⟨?_, ?_⟩; (focus ((repeat' (first | exact At.head | apply At.tail | apply At.right)); done)))))))), A.cast (by kernel_rfl) (H2_ _ _ ⟨ov1, hov1, ⟨rfl, rfl, rfl, rfl, rfl, rfl, trivial⟩, (by (focus ((repeat' (first | exact Keep.nil _ | exact Ext.one _ _ | exact Ext.here _ _ | apply Keep.cons | apply Keep.app)); done)))⟩)⟩
      · (((apply R.buildSlice; (iterate 12 exact rfl); intro))); rename_i b2; apply R.nil; refine ⟨(by (focus ((repeat' (first | exact trivial | (refine ⟨?_, ?_⟩; (focus ((repeat' (first | exact At.head | apply At.tail | apply At.right)); done)))))))), A.cast (by kernel_rfl) (H1_12 _ _ ⟨ov, b1, b2, hov, ⟨rfl, rfl, rfl, rfl, rfl, rfl, rfl, rfl, trivial⟩, (by (focus ((repeat' (first | exact Keep.nil _ | exact Ext.one _ _ | exact Ext.here _ _ | apply Keep.cons | apply Keep.app | apply Ext.cons)); done)))⟩)⟩
      · (((apply R.buildSlice; (iterate 12 exact rfl); intro))); rename_i b3; apply R.nil; refine ⟨(by (focus ((repeat' (first | exact trivial | (refine ⟨?_, ?_⟩; (focus ((repeat' (first | exact At.head | apply At.tail | apply At.right)); done)))))))), A.cast (by kernel_rfl) (H1_13 _ _ ⟨ov, b1, b3, hov, ⟨rfl, rfl, rfl, rfl, rfl, rfl, rfl, rfl, trivial⟩, (by (focus ((repeat' (first | exact Keep.nil _ | exact Ext.one _ _ | exact Ext.here _ _ | apply Keep.cons | apply Keep.app | apply Ext.cons)); done)))⟩)⟩
    intro H1_1
    refine A.merge (fun σ L => ∃ (ov : Ov) (b2 : Nat), OvOk 1 ov B1.length (u8s B1) ∧ Sub [(5, .pointer (some ⟨bw, 0, none⟩)), (12, .int .i64 c.id), (16, .int .i64 c.roles), (20, .int .i64 c.exp), (24, .int .i64 c.ser), (14, .pointer (some ⟨bw, 0, none⟩)), (21, .slice (some ⟨b2, 0, none⟩) 1 1)] σ ∧ Keep L (WL bw ov B1 ++ [(bc, .cells ⟨[.int .i64 c.id, .int .i64 c.roles, .int .i64 c.exp, .int .i64 c.ser]⟩ 71 (0, 0)), (b2, .cells ⟨[.int .i64 c.exp]⟩ 3 (0, 0))])) 10 #[true, true, true, true, true, true, false, false, true, true, true, false, true, true, false, false, false, false, false, false, false] ?_ ?_
    · rintro σ L ⟨ov, b2, hov, hs, hk⟩
      refine A.weak ?_ hs hk
      refine A.multi [6, 14] (by kernel_rfl) (by decide) ⟨⟨_, rfl, ?_⟩, ⟨_, rfl, ?_⟩, trivial⟩
      · (((apply R.buildSlice; (iterate 12 exact rfl); intro))); rename_i b1; apply R.nil; refine ⟨(by (focus ((repeat' (first | exact trivial | (refine ⟨?_, ?_⟩; (focus ((repeat' (first | exact At.head | apply At.tail | apply At.right)); done)))))))), A.cast (by kernel_rfl) (H1_12 _ _ ⟨ov, b1, b2, hov, ⟨rfl, rfl, rfl, rfl, rfl, rfl, rfl, rfl, trivial⟩, (by (focus ((repeat' (first | exact Keep.nil _ | exact Ext.one _ _ | exact Ext.here _ _ | apply Keep.cons | apply Keep.app | apply Ext.cons)); done)))⟩)⟩
      · (((apply R.buildSlice; (iterate 12 exact rfl); intro))); rename_i b3; apply R.nil; refine ⟨(by (focus ((repeat' (first | exact trivial | (refine ⟨?_, ?_⟩; (focus ((repeat' (first | exact At.head | apply At.tail | apply At.right)); done)))))))), A.cast (by kernel_rfl) (H1_23 _ _ ⟨ov, b2, b3, hov, ⟨rfl, rfl, rfl, rfl, rfl, rfl, rfl, rfl, trivial⟩, (by (focus ((repeat' (first | exact Keep.nil _ | exact Ext.one _ _ | exact Ext.here _ _ | apply Keep.cons | apply Keep.app | apply Ext.cons)); done)))⟩)⟩
    intro H1_2
    refine A.merge (fun σ L => ∃ (ov : Ov) (b3 : Nat), OvOk 1 ov B1.length (u8s B1) ∧ Sub [(5, .pointer (some ⟨bw, 0, none⟩)), (12, .int .i64 c.id), (16, .int .i64 c.roles), (20, .int .i64 c.exp), (24, .int .i64 c.ser), (14, .pointer (some ⟨bw, 0, none⟩)), (25, .slice (some ⟨b3, 0, none⟩) 1 1)] σ ∧ Keep L (WL bw ov B1 ++ [(bc, .cells ⟨[.int .i64 c.id, .int .i64 c.roles, .int .i64 c.exp, .int .i64 c.ser]⟩ 71 (0, 0)), (b3, .cells ⟨[.int .i64 c.ser]⟩ 3 (0, 0))])) 10 #[true, true, true, true, true, true, false, false, true, true, false, false, true, true, true, false, false, false, false, false, false] ?_ ?_
    · rintro σ L ⟨ov, b3, hov, hs, hk⟩
      refine A.weak ?_ hs hk
      refine A.multi [6, 10] (by kernel_rfl) (by decide) ⟨⟨_, rfl, ?_⟩, ⟨_, rfl, ?_⟩, trivial⟩
      · (((apply R.buildSlice; (iterate 12 exact rfl); intro))); rename_i b1; apply R.nil; refine ⟨(by (focus ((repeat' (first | exact trivial | (refine ⟨?_, ?_⟩; (focus ((repeat' (first | exact At.head | apply At.tail | apply At.right)); done)))))))), A.cast (by kernel_rfl) (H1_13 _ _ ⟨ov, b1, b3, hov, ⟨rfl, rfl, rfl, rfl, rfl, rfl, rfl, rfl, trivial⟩, (by (focus ((repeat' (first | exact Keep.nil _ | exact Ext.one _ _ | exact Ext.here _ _ | apply Keep.cons | apply Keep.app | apply Ext.cons)); done)))⟩)⟩
      · (((apply R.buildSlice; (iterate 12 exact rfl); intro))); rename_i b2; apply R.nil; refine ⟨(by (focus ((repeat' (first | exact trivial | (refine ⟨?_, ?_⟩; (focus ((repeat' (first | exact At.head | apply At.tail | apply At.right)); done)))))))), A.cast (by kernel_rfl) (H1_23 _ _ ⟨ov, b2, b3, hov, ⟨rfl, rfl, rfl, rfl, rfl, rfl, rfl, rfl, trivial⟩, (by (focus ((repeat' (first | exact Keep.nil _ | exact Ext.one _ _ | exact Ext.here _ _ | apply Keep.cons | apply Keep.app | apply Ext.cons)); done)))⟩)⟩
    intro H1_3
    refine A.merge (fun σ L => ∃ (ov : Ov), OvOk 1 ov B1.length (u8s B1) ∧ Sub [(5, .pointer (some ⟨bw, 0, none⟩)), (12, .int .i64 c.id), (16, .int .i64 c.roles), (20, .int .i64 c.exp), (24, .int .i64 c.ser), (14, .pointer (some ⟨bw, 0, none⟩))] σ ∧ Keep L (WL bw ov B1 ++ [(bc, .cells ⟨[.int .i64 c.id, .int .i64 c.roles, .int .i64 c.exp, .int .i64 c.ser]⟩ 71 (0, 0))])) 11 #[true, true, true, true, true, true, false, false, true, true, false, false, true, true, false, false, false, false, false, false, false] ?_ ?_
    · rintro σ L ⟨ov, hov, hs, hk⟩
      refine A.weak ?_ hs hk
      refine A.multi [6, 10, 14] (by kernel_rfl) (by decide) ⟨⟨_, rfl, ?_⟩, ⟨_, rfl, ?_⟩, ⟨_, rfl, ?_⟩, trivial⟩
      · (((apply R.buildSlice; (iterate 12 exact rfl); intro))); rename_i b1; apply R.nil; refine ⟨(by (focus ((repeat' (first | exact trivial | (refine ⟨?_, ?_⟩; (focus ((repeat' (first | exact At.head | apply At.tail | apply At.right)); done)))))))), A.cast (by kernel_rfl) (H1_1 _ _ ⟨ov, b1, hov, ⟨rfl, rfl, rfl, rfl, rfl, rfl, rfl, trivial⟩, (by (focus ((repeat' (first | exact Keep.nil _ | exact Ext.one _ _ | exact Ext.here _ _ | apply Keep.cons | apply Keep.app | apply Ext.cons)); done)))⟩)⟩
      · (((apply R.buildSlice; (iterate 12 exact rfl); intro))); rename_i b2; apply R.nil; refine ⟨(by (focus ((repeat' (first | exact trivial | (refine ⟨?_, ?_⟩; (focus ((repeat' (first | exact At.head | apply At.tail | apply At.right)); done)))))))), A.cast (by kernel_rfl) (H1_2 _ _ ⟨ov, b2, hov, ⟨rfl, rfl, rfl, rfl, rfl, rfl, rfl, trivial⟩, (by (focus ((repeat' (first | exact Keep.nil _ | exact Ext.one _ _ | exact Ext.here _ _ | apply Keep.cons | apply Keep.app | apply Ext.cons)); done)))⟩)⟩
      · (((apply R.buildSlice; (iterate 12 exact rfl); intro))); rename_i b3; apply R.nil; refine ⟨(by (focus ((repeat' (first | exact trivial | (refine ⟨?_, ?_⟩; (focus ((repeat' (first | exact At.head | apply At.tail | apply At.right)); done)))))))), A.cast (by kernel_rfl) (H1_3 _ _ ⟨ov, b3, hov, ⟨rfl, rfl, rfl, rfl, rfl, rfl, rfl, trivial⟩, (by (focus ((repeat' (first | exact Keep.nil _ | exact Ext.one _ _ | exact Ext.here _ _ | apply Keep.cons | apply Keep.app | apply Ext.cons)); done)))⟩)⟩
    intro H1_
    refine A.merge (fun σ L => ∃ (ov : Ov) (b0 : Nat) (b1 : Nat) (b2 : Nat) (b3 : Nat), OvOk 1 ov B0.length (u8s B0) ∧ Sub [(5, .pointer (some ⟨bw, 0, none⟩)), (12, .int .i64 c.id), (16, .int .i64 c.roles), (20, .int .i64 c.exp), (24, .int .i64 c.ser), (13, .slice (some ⟨b0, 0, none⟩) 1 1), (17, .slice (some ⟨b1, 0, none⟩) 1 1), (21, .slice (some ⟨b2, 0, none⟩) 1 1), (25, .slice (some ⟨b3, 0, none⟩) 1 1)] σ ∧ Keep L (WL bw ov B0 ++ [(bc, .cells ⟨[.int .i64 c.id, .int .i64 c.roles, .int .i64 c.exp, .int .i64 c.ser]⟩ 71 (0, 0)), (b0, .cells ⟨[.int .i64 c.id]⟩ 3 (0, 0)), (b1, .cells ⟨[.int .i64 c.roles]⟩ 3 (0, 0)), (b2, .cells ⟨[.int .i64 c.exp]⟩ 3 (0, 0)), (b3, .cells ⟨[.int .i64 c.ser]⟩ 3 (0, 0))])) 9 #[true, true, true, false, true, true, true, false, true, true, true, false, true, true, true, false, false, false, false, false, false] ?_ ?_
    · rintro σ L ⟨ov, b0, b1, b2, b3, hov, hs, hk⟩
      refine A.weak ?_ hs hk
      refine A.multi [3] (by kernel_rfl) (by decide) ⟨⟨_, rfl, ?_⟩, trivial⟩
      · (apply R.callE (Li := WL bw ov B0); (iterate 3 exact rfl); (focus ((repeat' (exact Ext.here _ _)); done)); intro w1 hw1; have h9 := number1_ok bw ov B0 hov 1 c.id hf1 hl0 b0 _ _ w1 (hw1.get _ _ (At.mem (by (focus ((repeat' (first | exact At.head | apply At.tail | apply At.right)); done))))) (RdSl.off hw1 (by (focus ((repeat' (exact Ext.here _ _)); done))) (At.mem (by (focus ((repeat' (first | exact At.head | apply At.tail)); done))))); rw [← hB1] at h9; exact h9; rintro v Lo ⟨ov1, rfl, hov1, rfl⟩); apply R.nil; refine ⟨(by (focus ((repeat' (first | exact trivial | (refine ⟨?_, ?_⟩; (focus ((repeat' (first | exact At.head | apply At.tail | apply At.right)); done)))))))), A.cast (by kernel_rfl) (H1_123 _ _ ⟨ov1, b1, b2, b3, hov1, ⟨rfl, rfl, rfl, rfl, rfl, rfl, rfl, rfl, rfl, trivial⟩, (by (focus ((repeat' (first | exact Keep.nil _ | exact Ext.one _ _ | exact Ext.here _ _ | apply Keep.cons | apply Keep.app | apply Ext.cons)); done)))⟩)⟩
    intro H0_0123
    refine A.merge (fun σ L => ∃ (ov : Ov) (b0 : Nat) (b1 : Nat) (b2 : Nat), OvOk 1 ov B0.length (u8s B0) ∧ Sub [(5, .pointer (some ⟨bw, 0, none⟩)), (12, .int .i64 c.id), (16, .int .i64 c.roles), (20, .int .i64 c.exp), (24, .int .i64 c.ser), (13, .slice (some ⟨b0, 0, none⟩) 1 1), (17, .slice (some ⟨b1, 0, none⟩) 1 1), (21, .slice (some ⟨b2, 0, none⟩) 1 1)] σ ∧ Keep L (WL bw ov B0 ++ [(bc, .cells ⟨[.int .i64 c.id, .int .i64 c.roles, .int .i64 c.exp, .int .i64 c.ser]⟩ 71 (0, 0)), (b0, .cells ⟨[.int .i64 c.id]⟩ 3 (0, 0)), (b1, .cells ⟨[.int .i64 c.roles]⟩ 3 (0, 0)), (b2, .cells ⟨[.int .i64 c.exp]⟩ 3 (0, 0))])) 10 #[true, true, true, false, true, true, true, false, true, true, true, false, true, true, false, false, false, false, false, false, false] ?_ ?_
    · rintro σ L ⟨ov, b0, b1, b2, hov, hs, hk⟩
      refine A.weak ?_ hs hk
      refine A.multi [3, 14] (by kernel_rfl) (by decide) ⟨⟨_, rfl, ?_⟩, ⟨_, rfl, ?_⟩, trivial⟩
      · (apply R.callE (Li := WL bw ov B0); (iterate 3 exact rfl); (focus ((repeat' (exact Ext.here _ _)); done)); intro w1 hw1; have h9 := number1_ok bw ov B0 hov 1 c.id hf1 hl0 b0 _ _ w1 (hw1.get _ _ (At.mem (by (focus ((repeat' (first | exact At.head | apply At.tail | apply At.right)); done))))) (RdSl.off hw1 (by (focus ((repeat' (exact Ext.here _ _)); done))) (At.mem (by (focus ((repeat' (first | exact At.head | apply At.tail)); done))))); rw [← hB1] at h9; exact h9; rintro v Lo ⟨ov1, rfl, hov1, rfl⟩); apply R.nil; refine ⟨(by (focus ((repeat' (first | exact trivial | (refine ⟨?_, ?_⟩; (focus ((repeat' (first | exact At.head | apply At.tail | apply At.right)); done)))))))), A.cast (by kernel_rfl) (H1_12 _ _ ⟨ov1, b1, b2, hov1, ⟨rfl, rfl, rfl, rfl, rfl, rfl, rfl, rfl, trivial⟩, (by (focus ((repeat' (first | exact Keep.nil _ | exact Ext.one _ _ | exact Ext.here _ _ | apply Keep.cons | apply Keep.app | apply Ext.cons)); done)))⟩)⟩
      · (((apply R.buildSlice; (iterate 12 exact rfl); intro))); rename_i b3; apply R.nil; refine ⟨(by (focus ((repeat' (first | exact trivial | (refine ⟨?_, ?_⟩; (focus ((repeat' (first | exact At.head | apply At.tail | apply At.right)); done)))))))), A.cast (by kernel_rfl) (H0_0123 _ _ ⟨ov, b0, b1, b2, b3, hov, ⟨rfl, rfl, rfl, rfl, rfl, rfl, rfl, rfl, rfl, trivial⟩, (by (focus ((repeat' (first | exact Keep.nil _ | exact Ext.one _ _ | exact Ext.here _ _ | apply Keep.cons | apply Keep.app | apply Ext.cons)); done)))⟩)⟩
    intro H0_012
    refine A.merge (fun σ L => ∃ (ov : Ov) (b0 : Nat) (b1 : Nat) (b3 : Nat), OvOk 1 ov B0.length (u8s B0) ∧ Sub [(5, .pointer (some ⟨bw, 0, none⟩)), (12, .int .i64 c.id), (16, .int .i64 c.roles), (20, .int .i64 c.exp), (24, .int .i64 c.ser), (13, .slice (some ⟨b0, 0, none⟩) 1 1), (17, .slice (some ⟨b1, 0, none⟩) 1 1), (25, .slice (some ⟨b3, 0, none⟩) 1 1)] σ ∧ Keep L (WL bw ov B0 ++ [(bc, .cells ⟨[.int .i64 c.id, .int .i64 c.roles, .int .i64 c.exp, .int .i64 c.ser]⟩ 71 (0, 0)), (b0, .cells ⟨[.int .i64 c.id]⟩ 3 (0, 0)), (b1, .cells ⟨[.int .i64 c.roles]⟩ 3 (0, 0)), (b3, .cells ⟨[.int .i64 c.ser]⟩ 3 (0, 0))])) 10 #[true, true, true, false, true, true, true, false, true, true, false, false, true, true, true, false, false, false, false, false, false] ?_ ?_
    · rintro σ L ⟨ov, b0, b1, b3, hov, hs, hk⟩
      refine A.weak ?_ hs hk
      refine A.multi [3, 10] (by kernel_rfl) (by decide) ⟨⟨_, rfl, ?_⟩, ⟨_, rfl, ?_⟩, trivial⟩
      · (apply R.callE (Li := WL bw ov B0); (iterate 3 exact rfl); (focus ((repeat' (exact Ext.here _ _)); done)); intro w1 hw1; have h9 := number1_ok bw ov B0 hov 1 c.id hf1 hl0 b0 _ _ w1 (hw1.get _ _ (At.mem (by (focus ((repeat' (first | exact At.head | apply At.tail | apply At.right)); done))))) (RdSl.off hw1 (by (focus ((repeat' (exact Ext.here _ _)); done))) (At.mem (by (focus ((repeat' (first | exact At.head | apply At.tail)); done))))); rw [← hB1] at h9; exact h9; rintro v Lo ⟨ov1, rfl, hov1, rfl⟩); apply R.nil; refine ⟨(by (focus ((repeat' (first | exact trivial | (refine ⟨?_, ?_⟩; (focus ((repeat' (first | exact At.head | apply At.tail | apply At.right)); done)))))))), A.cast (by kernel_rfl) (H1_13 _ _ ⟨ov1, b1, b3, hov1, ⟨rfl, rfl, rfl, rfl, rfl, rfl, rfl, rfl, trivial⟩, (by (focus ((repeat' (first | exact Keep.nil _ | exact Ext.one _ _ | exact Ext.here _ _ | apply Keep.cons | apply Keep.app | apply Ext.cons)); done)))⟩)⟩
      · (((apply R.buildSlice; (iterate 12 exact rfl); intro))); rename_i b2; apply R.nil; refine ⟨(by (focus ((repeat' (first | exact trivial | (refine ⟨?_, ?_⟩; (focus ((repeat' (first | exact At.head | apply At.tail | apply At.right)); done)))))))), A.cast (by kernel_rfl) (H0_0123 _ _ ⟨ov, b0, b1, b2, b3, hov, ⟨rfl, rfl, rfl, rfl, rfl, rfl, rfl, rfl, rfl, trivial⟩, (by (focus ((repeat' (first | exact Keep.nil _ | exact Ext.one _ _ | exact Ext.here _ _ | apply Keep.cons | apply Keep.app | apply Ext.cons)); done)))⟩)⟩
    intro H0_013
    refine A.merge (fun σ L => ∃ (ov : Ov) (b0 : Nat) (b2 : Nat) (b3 : Nat), OvOk 1 ov B0.length (u8s B0) ∧ Sub [(5, .pointer (some ⟨bw, 0, none⟩)), (12, .int .i64 c.id), (16, .int .i64 c.roles), (20, .int .i64 c.exp), (24, .int .i64 c.ser), (13, .slice (some ⟨b0, 0, none⟩) 1 1), (21, .slice (some ⟨b2, 0, none⟩) 1 1), (25, .slice (some ⟨b3, 0, none⟩) 1 1)] σ ∧ Keep L (WL bw ov B0 ++ [(bc, .cells ⟨[.int .i64 c.id, .int .i64 c.roles, .int .i64 c.exp, .int .i64 c.ser]⟩ 71 (0, 0)), (b0, .cells ⟨[.int .i64 c.id]⟩ 3 (0, 0)), (b2, .cells ⟨[.int .i64 c.exp]⟩ 3 (0, 0)), (b3, .cells ⟨[.int .i64 c.ser]⟩ 3 (0, 0))])) 10 #[true, true, true, false, true, true, false, false, true, true, true, false, true, true, true, false, false, false, false, false, false] ?_ ?_
    · rintro σ L ⟨ov, b0, b2, b3, hov, hs, hk⟩
      refine A.weak ?_ hs hk
      refine A.multi [3, 6] (by kernel_rfl) (by decide) ⟨⟨_, rfl, ?_⟩, ⟨_, rfl, ?_⟩, trivial⟩
      · (apply R.callE (Li := WL bw ov B0); (iterate 3 exact rfl); (focus ((repeat' (exact Ext.here _ _)); done)); intro w1 hw1; have h9 := number1_ok bw ov B0 hov 1 c.id hf1 hl0 b0 _ _ w1 (hw1.get _ _ (At.mem (by (focus ((repeat' (first | exact At.head | apply At.tail | apply At.right)); done))))) (RdSl.off hw1 (by (focus ((repeat' (exact Ext.here _ _)); done))) (At.mem (by (focus ((repeat' (first | exact At.head | apply At.tail)); done))))); rw [← hB1] at h9; exact h9; rintro v Lo ⟨ov1, rfl, hov1, rfl⟩); apply R.nil; refine ⟨(by (focus ((repeat' (first | exact trivial | (refine ⟨?_, ?_⟩; (focus ((repeat' (first | exact At.head | apply At.tail | apply At.right)); done)))))))), A.cast (by kernel_rfl) (H1_23 _ _ ⟨ov1, b2, b3, hov1, ⟨rfl, rfl, rfl, rfl, rfl, rfl, rfl, rfl, trivial⟩, (by (focus ((repeat' (first | exact Keep.nil _ | exact Ext.one _ _ | exact Ext.here _ _ | apply Keep.cons | apply Keep.app | apply Ext.cons)); done)))⟩)⟩
      · (((apply R.buildSlice; (iterate 12 exact rfl); intro))); rename_i b1; apply R.nil; refine ⟨(by (focus ((repeat' (first | exact trivial | (refine ⟨?_, ?_⟩; (focus ((repeat' (first | exact At.head | apply At.tail | apply At.right)); done)))))))), A.cast (by kernel_rfl) (H0_0123 _ _ ⟨ov, b0, b1, b2, b3, hov, ⟨rfl, rfl, rfl, rfl, rfl, rfl, rfl, rfl, rfl, trivial⟩, (by (focus ((repeat' (first | exact Keep.nil _ | exact Ext.one _ _ | exact Ext.here _ _ | apply Keep.cons | apply Keep.app | apply Ext.cons)); done)))⟩)⟩
    intro H0_023
    refine A.merge (fun σ L => ∃ (ov : Ov) (b1 : Nat) (b2 : Nat) (b3 : Nat), OvOk 1 ov B0.length (u8s B0) ∧ Sub [(5, .pointer (some ⟨bw, 0, none⟩)), (12, .int .i64 c.id), (16, .int .i64 c.roles), (20, .int .i64 c.exp), (24, .int .i64 c.ser), (17, .slice (some ⟨b1, 0, none⟩) 1 1), (21, .slice (some ⟨b2, 0, none⟩) 1 1), (25, .slice (some ⟨b3, 0, none⟩) 1 1)] σ ∧ Keep L (WL bw ov B0 ++ [(bc, .cells ⟨[.int .i64 c.id, .int .i64 c.roles, .int .i64 c.exp, .int .i64 c.ser]⟩ 71 (0, 0)), (b1, .cells ⟨[.int .i64 c.roles]⟩ 3 (0, 0)), (b2, .cells ⟨[.int .i64 c.exp]⟩ 3 (0, 0)), (b3, .cells ⟨[.int .i64 c.ser]⟩ 3 (0, 0))])) 10 #[true, true, false, false, true, true, true, false, true, true, true, false, true, true, true, false, false, false, false, false, false] ?_ ?_
    · rintro σ L ⟨ov, b1, b2, b3, hov, hs, hk⟩
      refine A.weak ?_ hs hk
      refine A.multi [2] (by kernel_rfl) (by decide) ⟨⟨_, rfl, ?_⟩, trivial⟩
      · (((apply R.buildSlice; (iterate 12 exact rfl); intro))); rename_i b0; apply R.nil; refine ⟨(by (focus ((repeat' (first | exact trivial | (refine ⟨?_, ?_⟩; (focus ((repeat' (first | exact At.head | apply At.tail | apply At.right)); done)))))))), A.cast (by kernel_rfl) (H0_0123 _ _ ⟨ov, b0, b1, b2, b3, hov, ⟨rfl, rfl, rfl, rfl, rfl, rfl, rfl, rfl, rfl, trivial⟩, (by (focus ((repeat' (first | exact Keep.nil _ | exact Ext.one _ _ | exact Ext.here _ _ | apply Keep.cons | apply Keep.app | apply Ext.cons)); done)))⟩)⟩
    intro H0_123
    refine A.merge (fun σ L => ∃ (ov : Ov) (b0 : Nat) (b1 : Nat), OvOk 1 ov B0.length (u8s B0) ∧ Sub [(5, .pointer (some ⟨bw, 0, none⟩)), (12, .int .i64 c.id), (16, .int .i64 c.roles), (20, .int .i64 c.exp), (24, .int .i64 c.ser), (13, .slice (some ⟨b0, 0, none⟩) 1 1), (17, .slice (some ⟨b1, 0, none⟩) 1 1)] σ ∧ Keep L (WL bw ov B0 ++ [(bc, .cells ⟨[.int .i64 c.id, .int .i64 c.roles, .int .i64 c.exp, .int .i64 c.ser]⟩ 71 (0, 0)), (b0, .cells ⟨[.int .i64 c.id]⟩ 3 (0, 0)), (b1, .cells ⟨[.int .i64 c.roles]⟩ 3 (0, 0))])) 11 #[true, true, true, false, true, true, true, false, true, true, false, false, true, true, false, false, false, false, false, false, false] ?_ ?_
    · rintro σ L ⟨ov, b0, b1, hov, hs, hk⟩
      refine A.weak ?_ hs hk
      refine A.multi [3, 10, 14] (by kernel_rfl) (by decide) ⟨⟨_, rfl, ?_⟩, ⟨_, rfl, ?_⟩, ⟨_, rfl, ?_⟩, trivial⟩
      · (apply R.callE (Li := WL bw ov B0); (iterate 3 exact rfl); (focus ((repeat' (exact Ext.here _ _)); done)); intro w1 hw1; have h9 := number1_ok bw ov B0 hov 1 c.id hf1 hl0 b0 _ _ w1 (hw1.get _ _ (At.mem (by (focus ((repeat' (first | exact At.head | apply At.tail | apply At.right)); done))))) (RdSl.off hw1 (by (focus ((repeat' (exact Ext.here _ _)); done))) (At.mem (by (focus ((repeat' (first | exact At.head | apply At.tail)); done))))); rw [← hB1] at h9; exact h9; rintro v Lo ⟨ov1, rfl, hov1, rfl⟩); apply R.nil; refine ⟨(by (focus ((repeat' (first | exact trivial | (refine ⟨?_, ?_⟩; (focus ((repeat' (first | exact At.head | apply At.tail | apply At.right)); done)))))))), A.cast (by kernel_rfl) (H1_1 _ _ ⟨ov1, b1, hov1, ⟨rfl, rfl, rfl, rfl, rfl, rfl, rfl, trivial⟩, (by (focus ((repeat' (first | exact Keep.nil _ | exact Ext.one _ _ | exact Ext.here _ _ | apply Keep.cons | apply Keep.app | apply Ext.cons)); done)))⟩)⟩
      · (((apply R.buildSlice; (iterate 12 exact rfl); intro))); rename_i b2; apply R.nil; refine ⟨(by (focus ((repeat' (first | exact trivial | (refine ⟨?_, ?_⟩; (focus ((repeat' (first | exact At.head | apply At.tail | apply At.right)); done)))))))), A.cast (by kernel_rfl) (H0_012 _ _ ⟨ov, b0, b1, b2, hov, ⟨rfl, rfl, rfl, rfl, rfl, rfl, rfl, rfl, trivial⟩, (by (focus ((repeat' (first | exact Keep.nil _ | exact Ext.one _ _ | exact Ext.here _ _ | apply Keep.cons | apply Keep.app | apply Ext.cons)); done)))⟩)⟩
      · (((apply R.buildSlice; (iterate 12 exact rfl); intro))); rename_i b3; apply R.nil; refine ⟨(by (focus ((repeat' (first | exact trivial | (refine ⟨?_, ?_⟩; (focus ((repeat' (first | exact At.head | apply At.tail | apply At.right)); done)))))))), A.cast (by kernel_rfl) (H0_013 _ _ ⟨ov, b0, b1, b3, hov, ⟨rfl, rfl, rfl, rfl, rfl, rfl, rfl, rfl, trivial⟩, (by (focus ((repeat' (first | exact Keep.nil _ | exact Ext.one _ _ | exact Ext.here _ _ | apply Keep.cons | apply Keep.app | apply Ext.cons)); done)))⟩)⟩
    intro H0_01
    refine A.merge (fun σ L => ∃ (ov : Ov) (b0 : Nat) (b2 : Nat), OvOk 1 ov B0.length (u8s B0) ∧ Sub [(5, .pointer (some ⟨bw, 0, none⟩)), (12, .int .i64 c.id), (16, .int .i64 c.roles), (20, .int .i64 c.exp), (24, .int .i64 c.ser), (13, .slice (some ⟨b0, 0, none⟩) 1 1), (21, .slice (some ⟨b2, 0, none⟩) 1 1)] σ ∧ Keep L (WL bw ov B0 ++ [(bc, .cells ⟨[.int .i64 c.id, .int .i64 c.roles, .int .i64 c.exp, .int .i64 c.ser]⟩ 71 (0, 0)), (b0, .cells ⟨[.int .i64 c.id]⟩ 3 (0, 0)), (b2, .cells ⟨[.int .i64 c.exp]⟩ 3 (0, 0))])) 11 #[true, true, true, false, true, true, false, false, true, true, true, false, true, true, false, false, false, false, false, false, false] ?_ ?_
    · rintro σ L ⟨ov, b0, b2, hov, hs, hk⟩
      refine A.weak ?_ hs hk
      refine A.multi [3, 6, 14] (by kernel_rfl) (by decide) ⟨⟨_, rfl, ?_⟩, ⟨_, rfl, ?_⟩, ⟨_, rfl, ?_⟩, trivial⟩
      · (apply R.callE (Li := WL bw ov B0); (iterate 3 exact rfl); (focus ((repeat' (exact Ext.here _ _)); done)); intro w1 hw1; have h9 := number1_ok bw ov B0 hov 1 c.id hf1 hl0 b0 _ _ w1 (hw1.get _ _ (At.mem (by (focus ((repeat' (first | exact At.head | apply At.tail | apply At.right)); done))))) (RdSl.off hw1 (by (focus ((repeat' (exact Ext.here _ _)); done))) (At.mem (by (focus ((repeat' (first | exact At.head | apply At.tail)); done))))); rw [← hB1] at h9; exact h9; rintro v Lo ⟨ov1, rfl, hov1, rfl⟩); apply R.nil; refine ⟨(by (focus ((repeat' (first | exact trivial | (refine ⟨?_, ?_⟩; (focus ((repeat' (first | exact At.head | apply At.tail | apply At.right)); done)))))))), A.cast (by kernel_rfl) (H1_2 _ _ ⟨ov1, b2, hov1, ⟨rfl, rfl, rfl, rfl, rfl, rfl, rfl, trivial⟩, (by (focus ((repeat' (first | exact Keep.nil _ | exact Ext.one _ _ | exact Ext.here _ _ | apply Keep.cons | apply Keep.app | apply Ext.cons)); done)))⟩)⟩
      · (((apply R.buildSlice; (iterate 12 exact rfl); intro))); rename_i b1; apply R.nil; refine ⟨(by (focus ((repeat' (first | exact trivial | (refine ⟨?_, ?_⟩; (focus ((repeat' (first | exact At.head | apply At.tail | apply At.right)); done)))))))), A.cast (by kernel_rfl) (H0_012 _ _ ⟨ov, b0, b1, b2, hov, ⟨rfl, rfl, rfl, rfl, rfl, rfl, rfl, rfl, trivial⟩, (by (focus ((repeat' (first | exact Keep.nil _ | exact Ext.one _ _ | exact Ext.here _ _ | apply Keep.cons | apply Keep.app | apply Ext.cons)); done)))⟩)⟩
      · (((apply R.buildSlice; (iterate 12 exact rfl); intro))); rename_i b3; apply R.nil; refine ⟨(by (focus ((repeat' (first | exact trivial | (refine ⟨?_, ?_⟩; (focus ((repeat' (first | exact At.head | apply At.tail | apply At.right)); done)))))))), A.cast (by kernel_rfl) (H0_023 _ _ ⟨ov, b0, b2, b3, hov, ⟨rfl, rfl, rfl, rfl, rfl, rfl, rfl, rfl, trivial⟩, (by (focus ((repeat' (first | exact Keep.nil _ | exact Ext.one _ _ | exact Ext.here _ _ | apply Keep.cons | apply Keep.app | apply Ext.cons)); done)))⟩)⟩
    intro H0_02
    refine A.merge (fun σ L => ∃ (ov : Ov) (b0 : Nat) (b3 : Nat), OvOk 1 ov B0.length (u8s B0) ∧ Sub [(5, .pointer (some ⟨bw, 0, none⟩)), (12, .int .i64 c.id), (16, .int .i64 c.roles), (20, .int .i64 c.exp), (24, .int .i64 c.ser), (13, .slice (some ⟨b0, 0, none⟩) 1 1), (25, .slice (some ⟨b3, 0, none⟩) 1 1)] σ ∧ Keep L (WL bw ov B0 ++ [(bc, .cells ⟨[.int .i64 c.id, .int .i64 c.roles, .int .i64 c.exp, .int .i64 c.ser]⟩ 71 (0, 0)), (b0, .cells ⟨[.int .i64 c.id]⟩ 3 (0, 0)), (b3, .cells ⟨[.int .i64 c.ser]⟩ 3 (0, 0))])) 11 #[true, true, true, false, true, true, false, false, true, true, false, false, true, true, true, false, false, false, false, false, false] ?_ ?_
    · rintro σ L ⟨ov, b0, b3, hov, hs, hk⟩
      refine A.weak ?_ hs hk
      refine A.multi [3, 6, 10] (by kernel_rfl) (by decide) ⟨⟨_, rfl, ?_⟩, ⟨_, rfl, ?_⟩, ⟨_, rfl, ?_⟩, trivial⟩
      · (apply R.callE (Li := WL bw ov B0); (iterate 3 exact rfl); (focus ((repeat' (exact Ext.here _ _)); done)); intro w1 hw1; have h9 := number1_ok bw ov B0 hov 1 c.id hf1 hl0 b0 _ _ w1 (hw1.get _ _ (At.mem (by (focus ((repeat' (first | exact At.head | apply At.tail | apply At.right)); done))))) (RdSl.off hw1 (by (focus ((repeat' (exact Ext.here _ _)); done))) (At.mem (by (focus ((repeat' (first | exact At.head | apply At.tail)); done))))); rw [← hB1] at h9; exact h9; rintro v Lo ⟨ov1, rfl, hov1, rfl⟩); apply R.nil; refine ⟨(by (focus ((repeat' (first | exact trivial | (refine ⟨?_, ?_⟩; (focus ((repeat' (first | exact At.head | apply At.tail | apply At.right)); done)))))))), A.cast (by kernel_rfl) (H1_3 _ _ ⟨ov1, b3, hov1, ⟨rfl, rfl, rfl, rfl, rfl, rfl, rfl, trivial⟩, (by (focus ((repeat' (first | exact Keep.nil _ | exact Ext.one _ _ | exact Ext.here _ _ | apply Keep.cons | apply Keep.app | apply Ext.cons)); done)))⟩)⟩
      · (((apply R.buildSlice; (iterate 12 exact rfl); intro))); rename_i b1; apply R.nil; refine ⟨(by (focus ((repeat' (first | exact trivial | (refine ⟨?_, ?_⟩; (focus ((repeat' (first | exact At.head | apply At.tail | apply At.right)); done)))))))), A.cast (by kernel_rfl) (H0_013 _ _ ⟨ov, b0, b1, b3, hov, ⟨rfl, rfl, rfl, rfl, rfl, rfl, rfl, rfl, trivial⟩, (by (focus ((repeat' (first | exact Keep.nil _ | exact Ext.one _ _ | exact Ext.here _ _ | apply Keep.cons | apply Keep.app | apply Ext.cons)); done)))⟩)⟩
      · (((apply R.buildSlice; (iterate 12 exact rfl); intro))); rename_i b2; apply R.nil; refine ⟨(by (focus ((repeat' (first | exact trivial | (refine ⟨?_, ?_⟩; (focus ((repeat' (first | exact At.head | apply At.tail | apply At.right)); done)))))))), A.cast (by kernel_rfl) (H0_023 _ _ ⟨ov, b0, b2, b3, hov, ⟨rfl, rfl, rfl, rfl, rfl, rfl, rfl, rfl, trivial⟩, (by (focus ((repeat' (first | exact Keep.nil _ | exact Ext.one _ _ | exact Ext.here _ _ | apply Keep.cons | apply Keep.app | apply Ext.cons)); done)))⟩)⟩
    intro H0_03
    refine A.merge (fun σ L => ∃ (ov : Ov) (b1 : Nat) (b2 : Nat), OvOk 1 ov B0.length (u8s B0) ∧ Sub [(5, .pointer (some ⟨bw, 0, none⟩)), (12, .int .i64 c.id), (16, .int .i64 c.roles), (20, .int .i64 c.exp), (24, .int .i64 c.ser), (17, .slice (some ⟨b1, 0, none⟩) 1 1), (21, .slice (some ⟨b2, 0, none⟩) 1 1)] σ ∧ Keep L (WL bw ov B0 ++ [(bc, .cells ⟨[.int .i64 c.id, .int .i64 c.roles, .int .i64 c.exp, .int .i64 c.ser]⟩ 71 (0, 0)), (b1, .cells ⟨[.int .i64 c.roles]⟩ 3 (0, 0)), (b2, .cells ⟨[.int .i64 c.exp]⟩ 3 (0, 0))])) 11 #[true, true, false, false, true, true, true, false, true, true, true, false, true, true, false, false, false, false, false, false, false] ?_ ?_
    · rintro σ L ⟨ov, b1, b2, hov, hs, hk⟩
      refine A.weak ?_ hs hk
      refine A.multi [2, 14] (by kernel_rfl) (by decide) ⟨⟨_, rfl, ?_⟩, ⟨_, rfl, ?_⟩, trivial⟩
      · (((apply R.buildSlice; (iterate 12 exact rfl); intro))); rename_i b0; apply R.nil; refine ⟨(by (focus ((repeat' (first | exact trivial | (refine ⟨?_, ?_⟩; (focus ((repeat' (first | exact At.head | apply At.tail | apply At.right)); done)))))))), A.cast (by kernel_rfl) (H0_012 _ _ ⟨ov, b0, b1, b2, hov, ⟨rfl, rfl, rfl, rfl, rfl, rfl, rfl, rfl, trivial⟩, (by (focus ((repeat' (first | exact Keep.nil _ | exact Ext.one _ _ | exact Ext.here _ _ | apply Keep.cons | apply Keep.app | apply Ext.cons)); done)))⟩)⟩
      · (((apply R.buildSlice; (iterate 12 exact rfl); intro))); rename_i b3; apply R.nil; refine ⟨(by (focus ((repeat' (first | exact trivial | (refine ⟨?_, ?_⟩; (focus ((repeat' (first | exact At.head | apply At.tail | apply At.right)); done)))))))), A.cast (by kernel_rfl) (H0_123 _ _ ⟨ov, b1, b2, b3, hov, ⟨rfl, rfl, rfl, rfl, rfl, rfl, rfl, rfl, trivial⟩, (by (focus ((repeat' (first | exact Keep.nil _ | exact Ext.one _ _ | exact Ext.here _ _ | apply Keep.cons | apply Keep.app | apply Ext.cons)); done)))⟩)⟩
    intro H0_12
    refine A.merge (fun σ L => ∃ (ov : Ov) (b1 : Nat) (b3 : Nat), OvOk 1 ov B0.length (u8s B0) ∧ Sub [(5, .pointer (some ⟨bw, 0, none⟩)), (12, .int .i64 c.id), (16, .int .i64 c.roles), (20, .int .i64 c.exp), (24, .int .i64 c.ser), (17, .slice (some ⟨b1, 0, none⟩) 1 1), (25, .slice (some ⟨b3, 0, none⟩) 1 1)] σ ∧ Keep L (WL bw ov B0 ++ [(bc, .cells ⟨[.int .i64 c.id, .int .i64 c.roles, .int .i64 c.exp, .int .i64 c.ser]⟩ 71 (0, 0)), (b1, .cells ⟨[.int .i64 c.roles]⟩ 3 (0, 0)), (b3, .cells ⟨[.int .i64 c.ser]⟩ 3 (0, 0))])) 11 #[true, true, false, false, true, true, true, false, true, true, false, false, true, true, true, false, false, false, false, false, false] ?_ ?_
    · rintro σ L ⟨ov, b1, b3, hov, hs, hk⟩
      refine A.weak ?_ hs hk
      refine A.multi [2, 10] (by kernel_rfl) (by decide) ⟨⟨_, rfl, ?_⟩, ⟨_, rfl, ?_⟩, trivial⟩
      · (((apply R.buildSlice; (iterate 12 exact rfl); intro))); rename_i b0; apply R.nil; refine ⟨(by (focus ((repeat' (first | exact trivial | (refine ⟨?_, ?_⟩; (focus ((repeat' (first | exact At.head | apply At.tail | apply At.right)); done)))))))), A.cast (by kernel_rfl) (H0_013 _ _ ⟨ov, b0, b1, b3, hov, ⟨rfl, rfl, rfl, rfl, rfl, rfl, rfl, rfl, trivial⟩, (by (focus ((repeat' (first | exact Keep.nil _ | exact Ext.one _ _ | exact Ext.here _ _ | apply Keep.cons | apply Keep.app | apply Ext.cons)); done)))⟩)⟩
      · (((apply R.buildSlice; (iterate 12 exact rfl); intro))); rename_i b2; apply R.nil; refine ⟨(by (focus ((repeat' (first | exact trivial | (refine ⟨?_, ?_⟩; (focus ((repeat' (first | exact At.head | apply At.tail | apply At.right)); done)))))))), A.cast (by kernel_rfl) (H0_123 _ _ ⟨ov, b1, b2, b3, hov, ⟨rfl, rfl, rfl, rfl, rfl, rfl, rfl, rfl, trivial⟩, (by (focus ((repeat' (first | exact Keep.nil _ | exact Ext.one _ _ | exact Ext.here _ _ | apply Keep.cons | apply Keep.app | apply Ext.cons)); done)))⟩)⟩
    intro H0_13
    refine A.merge (fun σ L => ∃ (ov : Ov) (b2 : Nat) (b3 : Nat), OvOk 1 ov B0.length (u8s B0) ∧ Sub [(5, .pointer (some ⟨bw, 0, none⟩)), (12, .int .i64 c.id), (16, .int .i64 c.roles), (20, .int .i64 c.exp), (24, .int .i64 c.ser), (21, .slice (some ⟨b2, 0, none⟩) 1 1), (25, .slice (some ⟨b3, 0, none⟩) 1 1)] σ ∧ Keep L (WL bw ov B0 ++ [(bc, .cells ⟨[.int .i64 c.id, .int .i64 c.roles, .int .i64 c.exp, .int .i64 c.ser]⟩ 71 (0, 0)), (b2, .cells ⟨[.int .i64 c.exp]⟩ 3 (0, 0)), (b3, .cells ⟨[.int .i64 c.ser]⟩ 3 (0, 0))])) 11 #[true, true, false, false, true, true, false, false, true, true, true, false, true, true, true, false, false, false, false, false, false] ?_ ?_
    · rintro σ L ⟨ov, b2, b3, hov, hs, hk⟩
      refine A.weak ?_ hs hk
      refine A.multi [2, 6] (by kernel_rfl) (by decide) ⟨⟨_, rfl, ?_⟩, ⟨_, rfl, ?_⟩, trivial⟩
      · (((apply R.buildSlice; (iterate 12 exact rfl); intro))); rename_i b0; apply R.nil; refine ⟨(by (focus ((repeat' (first | exact trivial | (refine ⟨?_, ?_⟩; (focus ((repeat' (first | exact At.head | apply At.tail | apply At.right)); done)))))))), A.cast (by kernel_rfl) (H0_023 _ _ ⟨ov, b0, b2, b3, hov, ⟨rfl, rfl, rfl, rfl, rfl, rfl, rfl, rfl, trivial⟩, (by (focus ((repeat' (first | exact Keep.nil _ | exact Ext.one _ _ | exact Ext.here _ _ | apply Keep.cons | apply Keep.app | apply Ext.cons)); done)))⟩)⟩
      · (((apply R.buildSlice; (iterate 12 exact rfl); intro))); rename_i b1; apply R.nil; refine ⟨(by (focus ((repeat' (first | exact trivial | (refine ⟨?_, ?_⟩; (focus ((repeat' (first | exact At.head | apply At.tail | apply At.right)); done)))))))), A.cast (by kernel_rfl) (H0_123 _ _ ⟨ov, b1, b2, b3, hov, ⟨rfl, rfl, rfl, rfl, rfl, rfl, rfl, rfl, trivial⟩, (by (focus ((repeat' (first | exact Keep.nil _ | exact Ext.one _ _ | exact Ext.here _ _ | apply Keep.cons | apply Keep.app | apply Ext.cons)); done)))⟩)⟩
    intro H0_23
    refine A.merge (fun σ L => ∃ (ov : Ov) (b0 : Nat), OvOk 1 ov B0.length (u8s B0) ∧ Sub [(5, .pointer (some ⟨bw, 0, none⟩)), (12, .int .i64 c.id), (16, .int .i64 c.roles), (20, .int .i64 c.exp), (24, .int .i64 c.ser), (13, .slice (some ⟨b0, 0, none⟩) 1 1)] σ ∧ Keep L (WL bw ov B0 ++ [(bc, .cells ⟨[.int .i64 c.id, .int .i64 c.roles, .int .i64 c.exp, .int .i64 c.ser]⟩ 71 (0, 0)), (b0, .cells ⟨[.int .i64 c.id]⟩ 3 (0, 0))])) 12 #[true, true, true, false, true, true, false, false, true, true, false, false, true, true, false, false, false, false, false, false, false] ?_ ?_
    · rintro σ L ⟨ov, b0, hov, hs, hk⟩
      refine A.weak ?_ hs hk
      refine A.multi [3, 6, 10, 14] (by kernel_rfl) (by decide) ⟨⟨_, rfl, ?_⟩, ⟨_, rfl, ?_⟩, ⟨_, rfl, ?_⟩, ⟨_, rfl, ?_⟩, trivial⟩
      · (apply R.callE (Li := WL bw ov B0); (iterate 3 exact rfl); (focus ((repeat' (exact Ext.here _ _)); done)); intro w1 hw1; have h9 := number1_ok bw ov B0 hov 1 c.id hf1 hl0 b0 _ _ w1 (hw1.get _ _ (At.mem (by (focus ((repeat' (first | exact At.head | apply At.tail | apply At.right)); done))))) (RdSl.off hw1 (by (focus ((repeat' (exact Ext.here _ _)); done))) (At.mem (by (focus ((repeat' (first | exact At.head | apply At.tail)); done))))); rw [← hB1] at h9; exact h9; rintro v Lo ⟨ov1, rfl, hov1, rfl⟩); apply R.nil; refine ⟨(by (focus ((repeat' (first | exact trivial | (refine ⟨?_, ?_⟩; (focus ((repeat' (first | exact At.head | apply At.tail | apply At.right)); done)))))))), A.cast (by kernel_rfl) (H1_ _ _ ⟨ov1, hov1, ⟨rfl, rfl, rfl, rfl, rfl, rfl, trivial⟩, (by (focus ((repeat' (first | exact Keep.nil _ | exact Ext.one _ _ | exact Ext.here _ _ | apply Keep.cons | apply Keep.app)); done)))⟩)⟩
      · (((apply R.buildSlice; (iterate 12 exact rfl); intro))); rename_i b1; apply R.nil; refine ⟨(by (focus ((repeat' (first | exact trivial | (refine ⟨?_, ?_⟩; (focus ((repeat' (first | exact At.head | apply At.tail | apply At.right)); done)))))))), A.cast (by kernel_rfl) (H0_01 _ _ ⟨ov, b0, b1, hov, ⟨rfl, rfl, rfl, rfl, rfl, rfl, rfl, trivial⟩, (by (focus ((repeat' (first | exact Keep.nil _ | exact Ext.one _ _ | exact Ext.here _ _ | apply Keep.cons | apply Keep.app | apply Ext.cons)); done)))⟩)⟩
      · (((apply R.buildSlice; (iterate 12 exact rfl); intro))); rename_i b2; apply R.nil; refine ⟨(by (focus ((repeat' (first | exact trivial | (refine ⟨?_, ?_⟩; (focus ((repeat' (first | exact At.head | apply At.tail | apply At.right)); done)))))))), A.cast (by kernel_rfl) (H0_02 _ _ ⟨ov, b0, b2, hov, ⟨rfl, rfl, rfl, rfl, rfl, rfl, rfl, trivial⟩, (by (focus ((repeat' (first | exact Keep.nil _ | exact Ext.one _ _ | exact Ext.here _ _ | apply Keep.cons | apply Keep.app | apply Ext.cons)); done)))⟩)⟩
      · (((apply R.buildSlice; (iterate 12 exact rfl); intro))); rename_i b3; apply R.nil; refine ⟨(by (focus ((repeat' (first | exact trivial | (refine ⟨?_, ?_⟩; (focus ((repeat' (first | exact At.head | apply At.tail | apply At.right)); done)))))))), A.cast (by kernel_rfl) (H0_03 _ _ ⟨ov, b0, b3, hov, ⟨rfl, rfl, rfl, rfl, rfl, rfl, rfl, trivial⟩, (by (focus ((repeat' (first | exact Keep.nil _ | exact Ext.one _ _ | exact Ext.here _ _ | apply Keep.cons | apply Keep.app | apply Ext.cons)); done)))⟩)⟩
    intro H0_0
    refine A.merge (fun σ L => ∃ (ov : Ov) (b1 : Nat), OvOk 1 ov B0.length (u8s B0) ∧ Sub [(5, .pointer (some ⟨bw, 0, none⟩)), (12, .int .i64 c.id), (16, .int .i64 c.roles), (20, .int .i64 c.exp), (24, .int .i64 c.ser), (17, .slice (some ⟨b1, 0, none⟩) 1 1)] σ ∧ Keep L (WL bw ov B0 ++ [(bc, .cells ⟨[.int .i64 c.id, .int .i64 c.roles, .int .i64 c.exp, .int .i64 c.ser]⟩ 71 (0, 0)), (b1, .cells ⟨[.int .i64 c.roles]⟩ 3 (0, 0))])) 12 #[true, true, false, false, true, true, true, false, true, true, false, false, true, true, false, false, false, false, false, false, false] ?_ ?_
    · rintro σ L ⟨ov, b1, hov, hs, hk⟩
      refine A.weak ?_ hs hk
      refine A.multi [2, 10, 14] (by kernel_rfl) (by decide) ⟨⟨_, rfl, ?_⟩, ⟨_, rfl, ?_⟩, ⟨_, rfl, ?_⟩, trivial⟩
      · (((apply R.buildSlice; (iterate 12 exact rfl); intro))); rename_i b0; apply R.nil; refine ⟨(by (focus ((repeat' (first | exact trivial | (refine ⟨?_, ?_⟩; (focus ((repeat' (first | exact At.head | apply At.tail | apply At.right)); done)))))))), A.cast (by kernel_rfl) (H0_01 _ _ ⟨ov, b0, b1, hov, ⟨rfl, rfl, rfl, rfl, rfl, rfl, rfl, trivial⟩, (by (focus ((repeat' (first | exact Keep.nil _ | exact Ext.one _ _ | exact Ext.here _ _ | apply Keep.cons | apply Keep.app | apply Ext.cons)); done)))⟩)⟩
      · (((apply R.buildSlice; (iterate 12 exact rfl); intro))); rename_i b2; apply R.nil; refine ⟨(by (focus ((repeat' (first | exact trivial | (refine ⟨?_, ?_⟩; (focus ((repeat' (first | exact At.head | apply At.tail | apply At.right)); done)))))))), A.cast (by kernel_rfl) (H0_12 _ _ ⟨ov, b1, b2, hov, ⟨rfl, rfl, rfl, rfl, rfl, rfl, rfl, trivial⟩, (by (focus ((repeat' (first | exact Keep.nil _ | exact Ext.one _ _ | exact Ext.here _ _ | apply Keep.cons | apply Keep.app | apply Ext.cons)); done)))⟩)⟩
      · (((apply R.buildSlice; (iterate 12 exact rfl); intro))); rename_i b3; apply R.nil; refine ⟨(by (focus ((repeat' (first | exact trivial | (refine ⟨?_, ?_⟩; (focus ((repeat' (first | exact At.head | apply At.tail | apply At.right)); done)))))))), A.cast (by kernel_rfl) (H0_13 _ _ ⟨ov, b1, b3, hov, ⟨rfl, rfl, rfl, rfl, rfl, rfl, rfl, trivial⟩, (by (focus ((repeat' (first | exact Keep.nil _ | exact Ext.one _ _ | exact Ext.here _ _ | apply Keep.cons | apply Keep.app | apply Ext.cons)); done)))⟩)⟩
    intro H0_1
    refine A.merge (fun σ L => ∃ (ov : Ov) (b2 : Nat), OvOk 1 ov B0.length (u8s B0) ∧ Sub [(5, .pointer (some ⟨bw, 0, none⟩)), (12, .int .i64 c.id), (16, .int .i64 c.roles), (20, .int .i64 c.exp), (24, .int .i64 c.ser), (21, .slice (some ⟨b2, 0, none⟩) 1 1)] σ ∧ Keep L (WL bw ov B0 ++ [(bc, .cells ⟨[.int .i64 c.id, .int .i64 c.roles, .int .i64 c.exp, .int .i64 c.ser]⟩ 71 (0, 0)), (b2, .cells ⟨[.int .i64 c.exp]⟩ 3 (0, 0))])) 12 #[true, true, false, false, true, true, false, false, true, true, true, false, true, true, false, false, false, false, false, false, false] ?_ ?_
    · rintro σ L ⟨ov, b2, hov, hs, hk⟩
      refine A.weak ?_ hs hk
      refine A.multi [2, 6, 14] (by kernel_rfl) (by decide) ⟨⟨_, rfl, ?_⟩, ⟨_, rfl, ?_⟩, ⟨_, rfl, ?_⟩, trivial⟩
      · (((apply R.buildSlice; (iterate 12 exact rfl); intro))); rename_i b0; apply R.nil; refine ⟨(by (focus ((repeat' (first | exact trivial | (refine ⟨?_, ?_⟩; (focus ((repeat' (first | exact At.head | apply At.tail | apply At.right)); done)))))))), A.cast (by kernel_rfl) (H0_02 _ _ ⟨ov, b0, b2, hov, ⟨rfl, rfl, rfl, rfl, rfl, rfl, rfl, trivial⟩, (by (focus ((repeat' (first | exact Keep.nil _ | exact Ext.one _ _ | exact Ext.here _ _ | apply Keep.cons | apply Keep.app | apply Ext.cons)); done)))⟩)⟩
      · (((apply R.buildSlice; (iterate 12 exact rfl); intro))); rename_i b1; apply R.nil; refine ⟨(by (focus ((repeat' (first | exact trivial | (refine ⟨?_, ?_⟩; (focus ((repeat' (first | exact At.head | apply At.tail | apply At.right)); done)))))))), A.cast (by kernel_rfl) (H0_12 _ _ ⟨ov, b1, b2, hov, ⟨rfl, rfl, rfl, rfl, rfl, rfl, rfl, trivial⟩, (by (focus ((repeat' (first | exact Keep.nil _ | exact Ext.one _ _ | exact Ext.here _ _ | apply Keep.cons | apply Keep.app | apply Ext.cons)); done)))⟩)⟩
      · (((apply R.buildSlice; (iterate 12 exact rfl); intro))); rename_i b3; apply R.nil; refine ⟨(by (focus ((repeat' (first | exact trivial | (refine ⟨?_, ?_⟩; (focus ((repeat' (first | exact At.head | apply At.tail | apply At.right)); done)))))))), A.cast (by kernel_rfl) (H0_23 _ _ ⟨ov, b2, b3, hov, ⟨rfl, rfl, rfl, rfl, rfl, rfl, rfl, trivial⟩, (by (focus ((repeat' (first | exact Keep.nil _ | exact Ext.one _ _ | exact Ext.here _ _ | apply Keep.cons | apply Keep.app | apply Ext.cons)); done)))⟩)⟩
    intro H0_2
    refine A.merge (fun σ L => ∃ (ov : Ov) (b3 : Nat), OvOk 1 ov B0.length (u8s B0) ∧ Sub [(5, .pointer (some ⟨bw, 0, none⟩)), (12, .int .i64 c.id), (16, .int .i64 c.roles), (20, .int .i64 c.exp), (24, .int .i64 c.ser), (25, .slice (some ⟨b3, 0, none⟩) 1 1)] σ ∧ Keep L (WL bw ov B0 ++ [(bc, .cells ⟨[.int .i64 c.id, .int .i64 c.roles, .int .i64 c.exp, .int .i64 c.ser]⟩ 71 (0, 0)), (b3, .cells ⟨[.int .i64 c.ser]⟩ 3 (0, 0))])) 12 #[true, true, false, false, true, true, false, false, true, true, false, false, true, true, true, false, false, false, false, false, false] ?_ ?_
    · rintro σ L ⟨ov, b3, hov, hs, hk⟩
      refine A.weak ?_ hs hk
      refine A.multi [2, 6, 10] (by kernel_rfl) (by decide) ⟨⟨_, rfl, ?_⟩, ⟨_, rfl, ?_⟩, ⟨_, rfl, ?_⟩, trivial⟩
      · (((apply R.buildSlice; (iterate 12 exact rfl); intro))); rename_i b0; apply R.nil; refine ⟨(by (focus ((repeat' (first | exact trivial | (refine ⟨?_, ?_⟩; (focus ((repeat' (first | exact At.head | apply At.tail | apply At.right)); done)))))))), A.cast (by kernel_rfl) (H0_03 _ _ ⟨ov, b0, b3, hov, ⟨rfl, rfl, rfl, rfl, rfl, rfl, rfl, trivial⟩, (by (focus ((repeat' (first | exact Keep.nil _ | exact Ext.one _ _ | exact Ext.here _ _ | apply Keep.cons | apply Keep.app | apply Ext.cons)); done)))⟩)⟩
      · (((apply R.buildSlice; (iterate 12 exact rfl); intro))); rename_i b1; apply R.nil; refine ⟨(by (focus ((repeat' (first | exact trivial | (refine ⟨?_, ?_⟩; (focus ((repeat' (first | exact At.head | apply At.tail | apply At.right)); done)))))))), A.cast (by kernel_rfl) (H0_13 _ _ ⟨ov, b1, b3, hov, ⟨rfl, rfl, rfl, rfl, rfl, rfl, rfl, trivial⟩, (by (focus ((repeat' (first | exact Keep.nil _ | exact Ext.one _ _ | exact Ext.here _ _ | apply Keep.cons | apply Keep.app | apply Ext.cons)); done)))⟩)⟩
      · (((apply R.buildSlice; (iterate 12 exact rfl); intro))); rename_i b2; apply R.nil; refine ⟨(by (focus ((repeat' (first | exact trivial | (refine ⟨?_, ?_⟩; (focus ((repeat' (first | exact At.head | apply At.tail | apply At.right)); done)))))))), A.cast (by kernel_rfl) (H0_23 _ _ ⟨ov, b2, b3, hov, ⟨rfl, rfl, rfl, rfl, rfl, rfl, rfl, trivial⟩, (by (focus ((repeat' (first | exact Keep.nil _ | exact Ext.one _ _ | exact Ext.here _ _ | apply Keep.cons | apply Keep.app | apply Ext.cons)); done)))⟩)⟩
    intro H0_3
    refine A.merge (fun σ L => ∃ (ov : Ov), OvOk 1 ov B0.length (u8s B0) ∧ Sub [(5, .pointer (some ⟨bw, 0, none⟩)), (12, .int .i64 c.id), (16, .int .i64 c.roles), (20, .int .i64 c.exp), (24, .int .i64 c.ser)] σ ∧ Keep L (WL bw ov B0 ++ [(bc, .cells ⟨[.int .i64 c.id, .int .i64 c.roles, .int .i64 c.exp, .int .i64 c.ser]⟩ 71 (0, 0))])) 13 #[true, true, false, false, true, true, false, false, true, true, false, false, true, true, false, false, false, false, false, false, false] ?_ ?_
    · rintro σ L ⟨ov, hov, hs, hk⟩
      refine A.weak ?_ hs hk
      refine A.multi [2, 6, 10, 14] (by kernel_rfl) (by decide) ⟨⟨_, rfl, ?_⟩, ⟨_, rfl, ?_⟩, ⟨_, rfl, ?_⟩, ⟨_, rfl, ?_⟩, trivial⟩
      · (((apply R.buildSlice; (iterate 12 exact rfl); intro))); rename_i b0; apply R.nil; refine ⟨(by (focus ((repeat' (first | exact trivial | (refine ⟨?_, ?_⟩; (focus ((repeat' (first | exact At.head | apply At.tail | apply At.right)); done)))))))), A.cast (by kernel_rfl) (H0_0 _ _ ⟨ov, b0, hov, ⟨rfl, rfl, rfl, rfl, rfl, rfl, trivial⟩, (by (focus ((repeat' (first | exact Keep.nil _ | exact Ext.one _ _ | exact Ext.here _ _ | apply Keep.cons | apply Keep.app | apply Ext.cons)); done)))⟩)⟩
      · (((apply R.buildSlice; (iterate 12 exact rfl); intro))); rename_i b1; apply R.nil; refine ⟨(by (focus ((repeat' (first | exact trivial | (refine ⟨?_, ?_⟩; (focus ((repeat' (first | exact At.head | apply At.tail | apply At.right)); done)))))))), A.cast (by kernel_rfl) (H0_1 _ _ ⟨ov, b1, hov, ⟨rfl, rfl, rfl, rfl, rfl, rfl, trivial⟩, (by (focus ((repeat' (first | exact Keep.nil _ | exact Ext.one _ _ | exact Ext.here _ _ | apply Keep.cons | apply Keep.app | apply Ext.cons)); done)))⟩)⟩
      · (((apply R.buildSlice; (iterate 12 exact rfl); intro))); rename_i b2; apply R.nil; refine ⟨(by (focus ((repeat' (first | exact trivial | (refine ⟨?_, ?_⟩; (focus ((repeat' (first | exact At.head | apply At.tail | apply At.right)); done)))))))), A.cast (by kernel_rfl) (H0_2 _ _ ⟨ov, b2, hov, ⟨rfl, rfl, rfl, rfl, rfl, rfl, trivial⟩, (by (focus ((repeat' (first | exact Keep.nil _ | exact Ext.one _ _ | exact Ext.here _ _ | apply Keep.cons | apply Keep.app | apply Ext.cons)); done)))⟩)⟩
      · (((apply R.buildSlice; (iterate 12 exact rfl); intro))); rename_i b3; apply R.nil; refine ⟨(by (focus ((repeat' (first | exact trivial | (refine ⟨?_, ?_⟩; (focus ((repeat' (first | exact At.head | apply At.tail | apply At.right)); done)))))))), A.cast (by kernel_rfl) (H0_3 _ _ ⟨ov, b3, hov, ⟨rfl, rfl, rfl, rfl, rfl, rfl, trivial⟩, (by (focus ((repeat' (first | exact Keep.nil _ | exact Ext.one _ _ | exact Ext.here _ _ | apply Keep.cons | apply Keep.app | apply Ext.cons)); done)))⟩)⟩
    intro H0_
    exact A.cast (by kernel_rfl) (H0_ _ _ ⟨none, hw0, ⟨rfl, rfl, rfl, rfl, rfl, trivial⟩, (by (focus ((repeat' (first | exact Keep.nil _ | exact Ext.one _ _ | apply Keep.cons)); done)))⟩)
  rintro σ L ⟨ov, hov, hs, hk⟩
  refine A.weak ?_ hs hk
  clear hs hk
  (apply A.one 16; kernel_rfl; exact rfl; (((simp only [WL, List.cons_append]; apply R.callE; (iterate 3 exact rfl); exact Ext.none _; intro w1 hw1; exact wout_ok bw ov B4 hov (by rw [hB, clI_len]; decide) w1 (hw1.get _ _ (At.mem (by exact At.head))) (rdown hov hw1 (Ext.mem (by (focus ((repeat' (first | exact Ext.here _ _ | apply Ext.cons)); done))))); rintro v Lo ⟨ov9, hov9, rfl, rfl⟩))); apply R.nil; refine ⟨?_, ?_⟩; (focus ((repeat' (first | exact trivial | (refine ⟨?_, ?_⟩; (focus ((repeat' (first | exact At.head | apply At.tail | apply At.right)); done)))))))) <;> (apply A.take 17; exact rfl; exact rfl; kernel_rfl; kernel_rfl; kernel_rfl; (apply Ok1.extract; exact rfl; exact rfl)) <;> (apply A.take 18; exact rfl; exact rfl; kernel_rfl; kernel_rfl; kernel_rfl; (apply Ok1.extract; exact rfl; exact rfl)) <;> (apply A.take 19; exact rfl; exact rfl; kernel_rfl; kernel_rfl; kernel_rfl; (apply Ok1.assign; exact rfl)) <;> (apply A.take 20; exact rfl; exact rfl; kernel_rfl; kernel_rfl; kernel_rfl; (apply Ok1.assign; exact rfl)) <;> (apply A.done; kernel_rfl)
  rw [hB, clI_len] at hov9
  repeat' ((apply T.is; apply T.ret))
  (apply RetOk.tt; exact rfl; exact rfl)
  refine ⟨_, ?_, ov9, hov9, by rw [hB, clI_len], rfl⟩
  rw [hB]
  (focus ((repeat' (first | exact Ext.here _ _ | apply Keep.last)); done))
end Go.Proofs.YtplhnkmmhndkjaaGreat
set_option linter.unusedSimpArgs false
set_option linter.unusedVariables false
namespace Go.Proofs.YtplhnkmmhndkjaaGreat
open Go.RowKit Go.Shelf Go.Sort
def ltC (c d : Cl) : Prop := c.ser < d.ser ∨ c.ser = d.ser ∧ (c.id < d.id ∨ c.id = d.id ∧ (c.exp < d.exp ∨ c.exp = d.exp ∧ c.roles < d.roles))
theorem cmpI_neg (x y : Int) : cmpI x y < 0 ↔ x < y := by
  unfold cmpI
  repeat' split
  all_goals omega
theorem cmpI_zero (x y : Int) : cmpI x y = 0 ↔ x = y := by
  unfold cmpI
  repeat' split
  all_goals omega
theorem cmpCl_neg (c d : Cl) : cmpCl c d < 0 ↔ ltC c d := by
  unfold cmpCl ltC
  split
  · rename_i h; subst h; simp
  · have h1 := cmpI_neg c.ser d.ser
    have h2 := cmpI_neg c.id d.id
    have h3 := cmpI_neg c.exp d.exp
    have h4 := cmpI_neg c.roles d.roles
    have z1 := cmpI_zero c.ser d.ser
    have z2 := cmpI_zero c.id d.id
    have z3 := cmpI_zero c.exp d.exp
    have z4 := cmpI_zero c.roles d.roles
    unfold or4
    repeat' split
    all_goals omega
end Go.Proofs.YtplhnkmmhndkjaaGreat
set_option linter.unusedSimpArgs false
set_option linter.unusedVariables false
namespace Go.Proofs.YtplhnkmmhndkjaaGreat
open Go.RowKit Go.Shelf
section
variable {X : Cx} {σ : Env} {L : Lst} {ty t : TypeId} {pos : String} {af : Array Edge} {x y : Operand} {r : TRow}
end
section
variable {X : Cx} {σ : Env} {L : Lst} {ty t : TypeId} {pos : String} {af : Array Edge} {x y : Operand} {r : TRow} {xs ys : List Value} {ks : List TK}
theorem Ok1.eqlFq2 {d : Option Nat} {g : Option (Nat × Bool)} {ty2 : TypeId} {q : Bool} (hx : ev σ x = some (.agg ⟨xs⟩)) (hy : ev σ y = some (.agg ⟨ys⟩)) (ht : X.tb.row t = some r) (hk : r.k.agg = some true) (hf : flatE X.tb 8 t = some ks) (h1 : allOk ks xs = true) (h2 : allOk ks ys = true) (hq : xs = ys ↔ q = true) :
    Ok1 X ⟨d, .binOp .eql t x y ty2, ty, pos, af, g⟩ σ L (.bool q) := by
  have h := Ok1.eqlF (X := X) (L := L) (ty2 := ty2) (d := d) (ty := ty) (pos := pos) (af := af) (g := g) hx hy ht hk hf h1 h2
  have e : ∀ (i : Decidable (xs = ys)), @decide (xs = ys) i = q := by intro i; cases q <;> simp_all
  rw [e] at h
  exact h
end
section
variable {X : Cx} {Q : Post} {σ : Env} {L : Lst}
end
section
variable {X : Cx} {σ : Env} {L Lr : Lst} {d : Option Nat} {dd : Nat} {ty : TypeId} {pos : String} {af : Array Edge} {g : Option (Nat × Bool)} {x y : Operand} {t t2 e : TypeId} {r r2 re : TRow}
variable {all : Array Oper} {rest : List Oper} {K : Env → Lst → Prop} {p : Option Addr} {n cap i : Nat}
end
section
variable {X : Cx} {σ : Env} {L Lr : Lst} {d : Option Nat} {ty : TypeId} {pos : String} {af : Array Edge} {g : Option (Nat × Bool)} {x : Operand} {t e : TypeId} {r re : TRow} {p : Option Addr} {n m cap b o i : Nat}
end
end Go.Proofs.YtplhnkmmhndkjaaGreat
set_option linter.unusedSimpArgs false
set_option linter.unusedVariables false
namespace Go.Proofs.YtplhnkmmhndkjaaGreat
open Go.RowKit Go.Shelf
def iV (x : Int) : List Value := [.int .i64 x]
theorem iV_len (x : Int) : (iV x).length = 1 := rfl
def iis (xs : List Int) : List Value := xs.map fun x => .int .i64 x
theorem iis_len (xs : List Int) : (iis xs).length = xs.length := by simp [iis]
theorem iis_one (xs : List Int) : (iis xs).all Value.oneCell' = true := by simp [iis, Value.oneCell']
theorem iis_app (xs ys : List Int) : iis (xs ++ ys) = iis xs ++ iis ys := by simp [iis]
theorem fl_i (xs : List Int) : fl iV xs = iis xs := by
  unfold fl iis
  induction xs with
  | nil => rfl
  | cons a l ih => simp only [List.map_cons, List.flatten_cons, ih]; rfl
theorem irdown {ov : Ov} {xs : List Int} {e : Nat} (hov : OvOk 1 ov xs.length (iis xs)) {w0 w : World} {S : List Nat} {L : Lst} (hw : Hp w0 S L w) (hin : ∀ x ∈ blkL e ov (iis xs), x ∈ L) : RdSl w (ovp ov) iV xs := by
  rw [← fl_i] at hov hin
  exact RdSl.own' hw hin hov iV_len
/-- A log: nothing, or a slice of one's own. -/
structure Lg where
  ov : Ov
  xs : List Int
def Lg.v (g : Lg) : Value := slV g.ov g.xs.length
def Lg.L (g : Lg) : Lst := blkL 3 g.ov (iis g.xs)
def Lg.ok (g : Lg) : Prop := OvOk 1 g.ov g.xs.length (iis g.xs)
theorem Lg.rd {g : Lg} (h : g.ok) {w0 w : World} {S : List Nat} {L : Lst} (hw : Hp w0 S L w) (hin : ∀ x ∈ g.L, x ∈ L) : RdSl w (ovp g.ov) iV g.xs := irdown h hw hin
end Go.Proofs.YtplhnkmmhndkjaaGreat
set_option linter.unusedSimpArgs false
set_option linter.unusedVariables false
namespace Go.Proofs.YtplhnkmmhndkjaaGreat
open Go.RowKit Go.Shelf
set_option maxRecDepth 100000
/-- A part: a slice of integers. -/
structure Pi where
  p : Option Addr
  cap : Nat
  xs : List Int
deriving Inhabited
def Pi.v (x : Pi) : List Value := [.slice x.p x.xs.length x.cap]
theorem Pi.v_len (x : Pi) : x.v.length = 1 := rfl
end Go.Proofs.YtplhnkmmhndkjaaGreat
set_option linter.unusedSimpArgs false
set_option linter.unusedVariables false
namespace Go.Proofs.YtplhnkmmhndkjaaGreat
open Go.RowKit Go.Shelf
set_option maxRecDepth 100000
theorem idxF_ok (p : Option Addr) (n cap : Nat) (xs : List Int) (hn : n = xs.length) (hbig : n ≤ 1000000000) (g : Nat) (hgc : tb.fns.contains g = true) (bad : Int → Bool) (hg : ∀ x, CallP Tryz.prog g [.int .i64 x] (.bool (bad x))) (w : World) (hp : RdSl w p iV xs) :
    CallW Tryz.prog 116 [.slice p n cap, .func (.func g) #[] #[]] w fun v _ => ∃ r, v = .int .i64 r ∧ (0 ≤ r ↔ ∃ x ∈ xs, bad x = true) := by
  subst hn
  refine enterW (tb := tb) Tryz.func116 rfl Tryz.ntmps116 rfl ?_
  repeat' (first | (apply R.is1; first | (apply R.isCall; (apply R.pure; exact rfl; (apply Ok1.lenS; (iterate 3 exact rfl)))) | (apply R.pure; exact rfl; first | (apply Ok1.move; exact rfl) | (apply Ok1.assign; exact rfl))) | apply R.nil | (apply T.is; first | apply T.seq | apply T.region | apply T.block))
  apply T.loopK (α := Nat) (I := fun i => i ≤ xs.length ∧ ∀ x ∈ xs.take i, bad x = false) (σi := fun i => [(0, .slice p xs.length cap), (1, .func (.func g) #[] #[]), (7, .int .i64 xs.length), (8, .int .i64 i)]) (Li := fun _ => []) (μ := fun i => xs.length - i) (i0 := 0)
  · exact ⟨Nat.zero_le _, by simp⟩
  · exact ⟨rfl, rfl, rfl, rfl, trivial⟩
  · (focus ((repeat' (exact Keep.nil _)); done))
  · intro i ⟨hi, hall⟩
    rcases Nat.lt_or_ge i xs.length with hlt | hge
    · obtain ⟨x, hx⟩ : ∃ x, xs[i]? = some x := ⟨_, List.getElem?_eq_getElem (by omega)⟩
      obtain ⟨b, o, hpe, H⟩ := hp.at hx
      replace H := H 1 iV_len
      have hgx := hg x
      cases hb : bad x with
      | true =>
        rw [hb] at hgx
        repeat' (first | (apply R.is1; first | (apply R.isBin; (apply R.pure; exact rfl; (apply Ok1.lss_t; exact rfl; exact rfl; omega))) | (apply R.isCall; (apply R.callFP (fa := []) (cb := []); exact rfl; exact hgc; exact rfl; exact rfl; exact hgx)) | (apply R.pure; exact rfl; first | (apply Ok1.indexAddrP; (iterate 4 exact rfl); exact hpe; exact rfl; omega; omega) | (apply Ok1.load; exact rfl; apply Ld.row0 H; exact rfl; exact List.not_mem_nil; (iterate 3 exact rfl)) | (apply Ok1.move; exact rfl) | (apply Ok1.assign; exact rfl))) | apply R.nil | (apply T.is; first | apply T.seq | apply T.region | apply T.block | apply T.skip | apply T.ret | (apply T.cond_t; exact rfl)))
        (apply RetOk.t; exact rfl)
        exact ⟨_, rfl, ⟨fun _ => ⟨x, List.mem_of_getElem? hx, hb⟩, fun _ => by omega⟩⟩
      | false =>
        rw [hb] at hgx
        repeat' (first | (apply R.is1; first | (apply R.isBin; (apply R.pure; exact rfl; first | (apply Ok1.add64; exact rfl; exact rfl; omega; omega) | (apply Ok1.lss_t; exact rfl; exact rfl; omega))) | (apply R.isCall; (apply R.callFP (fa := []) (cb := []); exact rfl; exact hgc; exact rfl; exact rfl; exact hgx)) | (apply R.pure; exact rfl; first | (apply Ok1.indexAddrP; (iterate 4 exact rfl); exact hpe; exact rfl; omega; omega) | (apply Ok1.load; exact rfl; apply Ld.row0 H; exact rfl; exact List.not_mem_nil; (iterate 3 exact rfl)) | (apply Ok1.move; exact rfl) | (apply Ok1.assign; exact rfl))) | apply R.nil | (apply T.is; first | apply T.seq | apply T.region | apply T.block | apply T.skip | (apply T.cond_t; exact rfl) | (apply T.cond_f; exact rfl)))
        refine ⟨i + 1, ⟨by omega, ?_⟩, by omega, ⟨rfl, rfl, rfl, rfl, trivial⟩, by (focus ((repeat' (exact Keep.nil _)); done))⟩
        intro y hy
        rw [List.take_add_one, hx, List.mem_append] at hy
        rcases hy with hy | hy
        · exact hall y hy
        · simp only [Option.toList_some, List.mem_singleton] at hy
          rw [hy]; exact hb
    · have him : i = xs.length := by omega
      subst him
      rw [List.take_length] at hall
      repeat' (first | (apply R.is1; first | (apply R.isBin; (apply R.pure; exact rfl; (apply Ok1.lss_f; exact rfl; exact rfl; omega))) | (apply R.pure; exact rfl; (apply Ok1.assign; exact rfl))) | apply R.nil | (apply T.is; first | apply T.seq | apply T.region | apply T.exit | apply T.ret | (apply T.cond_f; exact rfl)))
      (apply RetOk.t; exact rfl)
      refine ⟨_, rfl, ⟨fun h => absurd h (by decide), ?_⟩⟩
      rintro ⟨x, hx, hb⟩
      rw [hall x hx] at hb
      cases hb
theorem conF_ok (p : Option Addr) (n cap : Nat) (xs : List Int) (hn : n = xs.length) (hbig : n ≤ 1000000000) (g : Nat) (hgc : tb.fns.contains g = true) (bad : Int → Bool) (hg : ∀ x, CallP Tryz.prog g [.int .i64 x] (.bool (bad x))) (w : World) (hp : RdSl w p iV xs) :
    CallW Tryz.prog 96 [.slice p n cap, .func (.func g) #[] #[]] w fun v _ => v = .bool (xs.any bad) := by
  have h := fun w1 (hc : Chg [] w w1) => idxF_ok p n cap xs hn hbig g hgc bad hg w1 (hp.chg' hc (fun _ => Off.nil _))
  refine enterW (tb := tb) Tryz.func96 rfl Tryz.ntmps96 rfl ?_
  repeat' (first | (apply R.is1; first | (apply R.isBin; (apply R.geq rfl rfl rfl <;> intro)) | (apply R.isCall; (apply R.callW (vs := [.slice p n cap, .func (.func g) #[] #[]]); (iterate 3 exact rfl); intro w1 hw1; exact h w1 hw1.chg; rintro v ⟨r, rfl, hr⟩)) | (apply R.pure; exact rfl; first | (apply Ok1.move; exact rfl) | (apply Ok1.assign; exact rfl))) | apply R.nil | (apply T.is; first | apply T.seq | apply T.region | apply T.ret))
  all_goals have hq : 0 ≤ r ↔ xs.any bad = true := hr.trans List.any_eq_true.symm
  all_goals (apply RetOk.t; exact rfl)
  all_goals cases hqq : xs.any bad with
    | true => first | rfl | (have := hq.2 hqq; omega)
    | false => first | rfl | (have h5 := hq.1 ‹0 ≤ r›; rw [hqq] at h5; cases h5)
/-- Serials are as they must be. -/
def SR (xs : List Int) : Prop := ∀ x ∈ xs, 1 ≤ x ∧ x ≤ 65535
instance (xs : List Int) : Decidable (SR xs) := by unfold SR; infer_instance
end Go.Proofs.YtplhnkmmhndkjaaGreat
set_option linter.unusedSimpArgs false
set_option linter.unusedVariables false
namespace Go.Proofs.YtplhnkmmhndkjaaGreat
open Go.RowKit Go.Shelf
set_option maxRecDepth 100000
end Go.Proofs.YtplhnkmmhndkjaaGreat
set_option linter.unusedSimpArgs false
set_option linter.unusedVariables false
namespace Go.Proofs.YtplhnkmmhndkjaaGreat
open Go.RowKit Go.Shelf
set_option maxRecDepth 100000
def numsI (s : Nat) (xs : List Int) : List Int := xs.flatMap (numI s)
theorem nums_take {s : Nat} {xs : List Int} {i : Nat} {x : Int} (h : xs[i]? = some x) : numsI s (xs.take (i + 1)) = numsI s (xs.take i) ++ numI s x := by
  unfold numsI
  rw [List.take_add_one, h, List.flatMap_append]
  simp
theorem nums_le (s : Nat) (xs : List Int) : (numsI s xs).length ≤ 4 * xs.length := by
  induction xs with
  | nil => exact Nat.le_refl _
  | cons x l ih =>
    have := (num_len s x).2
    simp only [numsI, List.flatMap_cons, List.length_append, List.length_cons] at *
    omega
theorem numbers_ok (bw : Nat) (ov : Ov) (bs : List Int) (hov : OvOk 1 ov bs.length (u8s bs)) (s : Nat) (p : Option Addr) (n cap : Nat) (xs : List Int) (hn : n = xs.length) (hf : ∀ x ∈ xs, Fits s x) (hbig : bs.length + 4 * xs.length ≤ 1000) (w : World) (hp : RdSl w p iV xs) (hoff : xs ≠ [] → Off p (blks (WL bw ov bs))) :
    CallM Tryz.prog 75 [.pointer (some ⟨bw, 0, none⟩), .int .i64 s, .slice p n cap] (WL bw ov bs) w (WRes bw (bs ++ numsI s xs)) := by
  subst hn
  refine enterK (tb := tb) Tryz.func75 rfl Tryz.ntmps75 rfl ?_
  repeat' (first | (apply R.is1; first | (apply R.isBin; first | (apply R.pure; exact rfl; first | (apply Ok1.add64; exact rfl; exact rfl; omega; omega) | (apply Ok1.lss_t; exact rfl; exact rfl; omega) | (apply Ok1.lss_f; exact rfl; exact rfl; omega)) | (apply R.lss rfl rfl rfl <;> intro)) | (apply R.isCall; first | (apply R.pure; exact rfl; first | (apply Ok1.lenS; (iterate 3 exact rfl)) | (apply Ok1.lenStr; (iterate 3 exact rfl)) | (apply Ok1.lenMm; (iterate 3 exact rfl); (focus ((repeat' (first | exact At.head | apply At.tail | apply At.right)); done))) | (apply Ok1.lenM_nil; (iterate 3 exact rfl)))) | (apply R.pure; exact rfl; first | (apply Ok1.move; exact rfl) | (apply Ok1.load; exact rfl; first | (apply Ld.own1; exact rfl; exact rfl; (focus ((repeat' (first | exact At.head | apply At.tail | apply At.right)); done)); exact rfl) | (apply Ld.ownk; exact rfl; exact rfl; (focus ((repeat' (first | exact At.head | apply At.tail | apply At.right)); done)); exact rfl) | (apply Ld.old1; exact rfl; exact rfl; assumption; (first | exact List.not_mem_nil | assumption)) | (apply Ld.blk1; exact rfl; exact rfl; assumption; (first | exact List.not_mem_nil | assumption); exact rfl) | (apply Ld.blkk; exact rfl; exact rfl; assumption; (first | exact List.not_mem_nil | assumption); exact rfl)) | (apply Ok1.assign; exact rfl) | (apply Ok1.indexAddr; (iterate 5 exact rfl); omega; omega) | (apply Ok1.indexAddrA; (iterate 5 exact rfl); omega; omega) | (apply Ok1.build; (iterate 5 exact rfl)) | (apply Ok1.buildA; (iterate 6 exact rfl))) | (apply R.buildSlice; (iterate 12 exact rfl); intro)) | (apply R.is0; first | fail) | (apply R.isG; first | (apply R.guard_run; exact rfl; exact rfl) | (apply R.guard_not; (iterate 3 exact rfl)) | (apply R.guard_not0; exact rfl; exact rfl) | (apply R.guard_un; (iterate 3 exact rfl)) | (apply R.guard_un0; exact rfl; exact rfl) | (apply R.guard rfl rfl ?_ (fun h => ⟨rfl, ?_⟩) <;> try intro)) | apply R.nil | (apply T.is; first | apply T.seq | apply T.region | apply T.block | apply T.scope | apply T.label | apply T.skip | apply T.exit | apply T.ret | (apply T.cond_t; exact rfl) | (apply T.cond_f; exact rfl) | (apply T.cond_h; exact rfl; assumption) | (apply T.cond_n; exact rfl; assumption) | (apply T.cond rfl <;> intro)) | apply Rnd.step)
  apply T.loopK (α := Nat × Ov) (I := fun y => y.1 ≤ xs.length ∧ OvOk 1 y.2 (bs ++ numsI s (xs.take y.1)).length (u8s (bs ++ numsI s (xs.take y.1)))) (σi := fun y => [(0, .pointer (some ⟨bw, 0, none⟩)), (1, .int .i64 s), (9, .slice p xs.length cap), (10, .int .i64 xs.length), (11, .int .i64 y.1)]) (Li := fun y => WL bw y.2 (bs ++ numsI s (xs.take y.1))) (μ := fun y => xs.length - y.1) (i0 := (0, ov))
  · refine ⟨Nat.zero_le _, ?_⟩
    simpa [numsI] using hov
  · exact ⟨rfl, rfl, rfl, rfl, rfl, trivial⟩
  · simp only [List.take_zero, numsI, List.flatMap_nil, List.append_nil]
    (focus ((repeat' (first | exact Keep.nil _ | exact Ext.one _ _ | exact Ext.here _ _ | exact Ext.all _ | apply Keep.cons | apply Keep.app | apply Keep.last | apply Ext.cons | apply Ext.app)); done))
  · rintro ⟨i, ov1⟩ ⟨hi, hov1⟩
    simp only at hi hov1 ⊢
    rcases Nat.lt_or_ge i xs.length with hlt | hge
    · obtain ⟨x, hx⟩ : ∃ x, xs[i]? = some x := ⟨_, List.getElem?_eq_getElem (by omega)⟩
      obtain ⟨b, o, hpe, H⟩ := hp.at hx
      replace H := H 1 iV_len
      have hxf := hf x (List.mem_of_getElem? hx)
      have htk : (xs.take i).length = i := by rw [List.length_take]; omega
      have hnl := nums_le s (xs.take i)
      have hput := fun bf fz e w1 => put_ok bw ov1 (bs ++ numsI s (xs.take i)) hov1 s x hxf (by rw [List.length_append]; omega) bf fz e w1
      have hoff1 := hoff (by rintro rfl; cases hx)
      unfold WRes at hput
      rw [List.append_assoc, ← nums_take hx] at hput
      repeat' (first | (apply R.is1; first | (apply R.isBin; first | (apply R.pure; exact rfl; first | (apply Ok1.add64; exact rfl; exact rfl; omega; omega) | (apply Ok1.lss_t; exact rfl; exact rfl; omega) | (apply Ok1.lss_f; exact rfl; exact rfl; omega)) | (apply R.lss rfl rfl rfl <;> intro)) | (apply R.isCall; first | (apply R.callE (Li := WL bw ov1 (bs ++ numsI s (xs.take i))); (iterate 3 exact rfl); (focus ((repeat' (first | exact Ext.none _ | exact Ext.one _ _ | exact Ext.here _ _ | exact Ext.all _ | apply Ext.cons | apply Ext.app | apply Ext.two)); done)); intro w1 hw1; exact hput _ _ _ w1 (hw1.get _ _ (At.mem (by (focus ((repeat' (first | exact At.head | apply At.tail | apply At.right)); done))))) (RdSl.off hw1 (by (focus ((repeat' (first | exact Ext.none _ | exact Ext.one _ _ | exact Ext.here _ _ | exact Ext.all _ | apply Ext.cons | apply Ext.app | apply Ext.two)); done))) (At.mem (by (focus ((repeat' (first | exact At.head | apply At.tail | apply At.right)); done))))); rintro v Lo ⟨ov2, rfl, hov2, rfl⟩) | (apply R.pure; exact rfl; first | (apply Ok1.lenS; (iterate 3 exact rfl)) | (apply Ok1.lenStr; (iterate 3 exact rfl)) | (apply Ok1.lenMm; (iterate 3 exact rfl); (focus ((repeat' (first | exact At.head | apply At.tail | apply At.right)); done))) | (apply Ok1.lenM_nil; (iterate 3 exact rfl)))) | (apply R.pure; exact rfl; first | (apply Ok1.indexAddrP; (iterate 4 exact rfl); exact hpe; exact rfl; omega; omega) | (apply Ok1.load; exact rfl; apply Ld.row1 (f := 0) H; exact rfl; exact hoff1 _ hpe; (iterate 3 exact rfl)) | (apply Ok1.move; exact rfl) | (apply Ok1.load; exact rfl; first | (apply Ld.own1; exact rfl; exact rfl; (focus ((repeat' (first | exact At.head | apply At.tail | apply At.right)); done)); exact rfl) | (apply Ld.ownk; exact rfl; exact rfl; (focus ((repeat' (first | exact At.head | apply At.tail | apply At.right)); done)); exact rfl) | (apply Ld.old1; exact rfl; exact rfl; assumption; (first | exact List.not_mem_nil | assumption)) | (apply Ld.blk1; exact rfl; exact rfl; assumption; (first | exact List.not_mem_nil | assumption); exact rfl) | (apply Ld.blkk; exact rfl; exact rfl; assumption; (first | exact List.not_mem_nil | assumption); exact rfl)) | (apply Ok1.assign; exact rfl) | (apply Ok1.indexAddr; (iterate 5 exact rfl); omega; omega) | (apply Ok1.indexAddrA; (iterate 5 exact rfl); omega; omega) | (apply Ok1.build; (iterate 5 exact rfl)) | (apply Ok1.buildA; (iterate 6 exact rfl))) | (apply R.buildSlice; (iterate 12 exact rfl); intro)) | (apply R.is0; first | fail) | (apply R.isG; first | (apply R.guard_run; exact rfl; exact rfl) | (apply R.guard_not; (iterate 3 exact rfl)) | (apply R.guard_not0; exact rfl; exact rfl) | (apply R.guard_un; (iterate 3 exact rfl)) | (apply R.guard_un0; exact rfl; exact rfl) | (apply R.guard rfl rfl ?_ (fun h => ⟨rfl, ?_⟩) <;> try intro)) | apply R.nil | (apply T.is; first | apply T.seq | apply T.region | apply T.block | apply T.scope | apply T.label | apply T.skip | apply T.exit | apply T.ret | (apply T.cond_t; exact rfl) | (apply T.cond_f; exact rfl) | (apply T.cond_h; exact rfl; assumption) | (apply T.cond_n; exact rfl; assumption) | (apply T.cond rfl <;> intro)) | apply Rnd.step)
      exact ⟨(i + 1, ov2), ⟨by simp only; omega, hov2⟩, by simp only; omega, ⟨rfl, rfl, rfl, rfl, rfl, trivial⟩, by (focus ((repeat' (first | exact Keep.nil _ | exact Ext.one _ _ | exact Ext.here _ _ | exact Ext.all _ | apply Keep.cons | apply Keep.app | apply Keep.last | apply Ext.cons | apply Ext.app)); done))⟩
    · have him : i = xs.length := by omega
      subst him
      rw [List.take_length] at hov1 ⊢
      repeat' (first | (apply R.is1; first | (apply R.isBin; first | (apply R.pure; exact rfl; first | (apply Ok1.add64; exact rfl; exact rfl; omega; omega) | (apply Ok1.lss_t; exact rfl; exact rfl; omega) | (apply Ok1.lss_f; exact rfl; exact rfl; omega)) | (apply R.lss rfl rfl rfl <;> intro)) | (apply R.isCall; first | (apply R.pure; exact rfl; first | (apply Ok1.lenS; (iterate 3 exact rfl)) | (apply Ok1.lenStr; (iterate 3 exact rfl)) | (apply Ok1.lenMm; (iterate 3 exact rfl); (focus ((repeat' (first | exact At.head | apply At.tail | apply At.right)); done))) | (apply Ok1.lenM_nil; (iterate 3 exact rfl)))) | (apply R.pure; exact rfl; first | (apply Ok1.move; exact rfl) | (apply Ok1.load; exact rfl; first | (apply Ld.own1; exact rfl; exact rfl; (focus ((repeat' (first | exact At.head | apply At.tail | apply At.right)); done)); exact rfl) | (apply Ld.ownk; exact rfl; exact rfl; (focus ((repeat' (first | exact At.head | apply At.tail | apply At.right)); done)); exact rfl) | (apply Ld.old1; exact rfl; exact rfl; assumption; (first | exact List.not_mem_nil | assumption)) | (apply Ld.blk1; exact rfl; exact rfl; assumption; (first | exact List.not_mem_nil | assumption); exact rfl) | (apply Ld.blkk; exact rfl; exact rfl; assumption; (first | exact List.not_mem_nil | assumption); exact rfl)) | (apply Ok1.assign; exact rfl) | (apply Ok1.indexAddr; (iterate 5 exact rfl); omega; omega) | (apply Ok1.indexAddrA; (iterate 5 exact rfl); omega; omega) | (apply Ok1.build; (iterate 5 exact rfl)) | (apply Ok1.buildA; (iterate 6 exact rfl))) | (apply R.buildSlice; (iterate 12 exact rfl); intro)) | (apply R.is0; first | fail) | (apply R.isG; first | (apply R.guard_run; exact rfl; exact rfl) | (apply R.guard_not; (iterate 3 exact rfl)) | (apply R.guard_not0; exact rfl; exact rfl) | (apply R.guard_un; (iterate 3 exact rfl)) | (apply R.guard_un0; exact rfl; exact rfl) | (apply R.guard rfl rfl ?_ (fun h => ⟨rfl, ?_⟩) <;> try intro)) | apply R.nil | (apply T.is; first | apply T.seq | apply T.region | apply T.block | apply T.scope | apply T.label | apply T.skip | apply T.exit | apply T.ret | (apply T.cond_t; exact rfl) | (apply T.cond_f; exact rfl) | (apply T.cond_h; exact rfl; assumption) | (apply T.cond_n; exact rfl; assumption) | (apply T.cond rfl <;> intro)) | apply Rnd.step)
      (apply RetOk.t; exact rfl)
      exact ⟨_, by (focus ((repeat' (first | exact Keep.nil _ | exact Ext.one _ _ | exact Ext.here _ _ | exact Ext.all _ | apply Keep.cons | apply Keep.app | apply Keep.last | apply Ext.cons | apply Ext.app)); done)), ov1, rfl, hov1, rfl⟩
end Go.Proofs.YtplhnkmmhndkjaaGreat
set_option linter.unusedSimpArgs false
set_option linter.unusedVariables false
namespace Go.Proofs.YtplhnkmmhndkjaaGreat
open Go.RowKit Go.Shelf
set_option maxRecDepth 100000
theorem dwidth_ok (s : Nat) (k : Int) (hs : s = 0 ∨ s = 1 ∨ s = 2 ∨ s = 3) (hk : (pw s : Int) = k) : CallP Tryz.prog 114 [.int .i64 s] (.int .i64 k) := by
  subst hk
  rcases hs with rfl | rfl | rfl | rfl
  all_goals
    refine enterP (tb := tb) Tryz.func114 rfl Tryz.ntmps114 rfl fun w => ?_
    repeat' (first | (apply R.is1; first | (apply R.pure; exact rfl; first | (apply Ok1.move; exact rfl) | (apply Ok1.assign; exact rfl) | (apply Ok1.build; (iterate 5 exact rfl)) | (apply Ok1.index1; (iterate 6 exact rfl); omega; omega; exact rfl) | (apply Ok1.indexk; (iterate 6 exact rfl); omega; omega; exact rfl) | (apply Ok1.buildA; (iterate 6 exact rfl)))) | (apply R.is0; first | fail) | (apply R.isG; first | (apply R.guard_run; exact rfl; exact rfl) | (apply R.guard_not; (iterate 3 exact rfl)) | (apply R.guard_not0; exact rfl; exact rfl) | (apply R.guard_un; (iterate 3 exact rfl)) | (apply R.guard_un0; exact rfl; exact rfl) | (apply R.guard rfl rfl ?_ (fun h => ⟨rfl, ?_⟩) <;> try intro)) | apply R.nil | (apply T.is; first | apply T.seq | apply T.region | apply T.block | apply T.scope | apply T.label | apply T.skip | apply T.exit | apply T.ret | (apply T.cond_t; exact rfl) | (apply T.cond_f; exact rfl) | (apply T.cond_h; exact rfl; assumption) | (apply T.cond_n; exact rfl; assumption) | (apply T.cond rfl <;> intro)) | apply Rnd.step)
    (apply RetOk.t; exact rfl)
    rfl
theorem dout_ok (s : Nat) (n : Int) (h : Fits s n) (w : World) : CallM Tryz.prog 82 [.agg ⟨fldV s n⟩] [] w fun v L => ∃ ov, OvOk 1 ov (numI s n).length (u8s (numI s n)) ∧ v = slV ov (numI s n).length ∧ L = blkL 5 ov (u8s (numI s n)) := by
  have hn : n ≤ 4294967295 := by unfold Fits at h; omega
  have h0 := h.1
  have hs : s = 0 ∨ s = 1 ∨ s = 2 := by unfold Fits at h; omega
  unfold fldV
  rcases hs with rfl | rfl | rfl
  · refine enterK (tb := tb) Tryz.func82 rfl Tryz.ntmps82 rfl ?_
    repeat' (first | (apply R.is1; first | (apply R.isBin; first | (apply R.pure; exact rfl; first | (apply Ok1.add64; exact rfl; exact rfl; omega; omega) | (apply Ok1.lss_t; exact rfl; exact rfl; omega) | (apply Ok1.lss_f; exact rfl; exact rfl; omega) | (apply Ok1.eql_t; exact rfl; exact rfl; omega) | (apply Ok1.eql_f; exact rfl; exact rfl; omega) | (apply Ok1.quo64; exact rfl; exact rfl; omega; omega; omega) | (apply Ok1.remN; exact rfl; exact rfl; omega; omega) | (apply Ok1.eqlP; (iterate 5 exact rfl)) | (apply Ok1.eqlM; (iterate 5 exact rfl)) | (apply Ok1.eqlS; (iterate 5 exact rfl))) | (apply R.lss rfl rfl rfl <;> intro) | (apply R.eql rfl rfl rfl <;> intro) | (apply R.eqlF; (iterate 8 exact rfl); all_goals intro)) | (apply R.isCall; first | apply R.callP rfl rfl rfl (dwidth_ok 0 1 (by decide) rfl) | (apply R.appendSl (ov := some (_, 0, [])) (n := 1) (old := [_]) (ov2 := none) (m := 0) (news := []) (e3 := 5); (iterate 12 exact rfl); exact ⟨rfl, rfl⟩; exact ⟨rfl, rfl⟩; exact Ext.one _ _; exact (by simp [blkL]); exact rfl; omega; intro ov1 hov1) | (apply R.appendSl (ov := some (_, 0, [])) (n := 1) (old := [_]); (iterate 12 exact rfl); exact ⟨rfl, rfl⟩; assumption; exact Ext.one _ _; exact Ext.mem (by (focus ((repeat' (first | exact Ext.none _ | exact Ext.one _ _ | exact Ext.here _ _ | exact Ext.all _ | apply Ext.cons | apply Ext.app | apply Ext.two)); done))); exact rfl; omega; intro ov1 hov1) | (apply R.pure; exact rfl; first | (apply Ok1.lenS; (iterate 3 exact rfl)) | (apply Ok1.lenStr; (iterate 3 exact rfl)) | (apply Ok1.lenMm; (iterate 3 exact rfl); (focus ((repeat' (first | exact At.head | apply At.tail | apply At.right)); done))) | (apply Ok1.lenM_nil; (iterate 3 exact rfl)))) | (apply R.pure; exact rfl; first | (apply Ok1.move; exact rfl) | (apply Ok1.fieldAddr; (iterate 5 exact rfl)) | (apply Ok1.load; exact rfl; first | (apply Ld.own1; exact rfl; exact rfl; (focus ((repeat' (first | exact At.head | apply At.tail | apply At.right)); done)); exact rfl) | (apply Ld.ownk; exact rfl; exact rfl; (focus ((repeat' (first | exact At.head | apply At.tail | apply At.right)); done)); exact rfl) | (apply Ld.old1; exact rfl; exact rfl; assumption; (first | exact List.not_mem_nil | assumption)) | (apply Ld.blk1; exact rfl; exact rfl; assumption; (first | exact List.not_mem_nil | assumption); exact rfl) | (apply Ld.blkk; exact rfl; exact rfl; assumption; (first | exact List.not_mem_nil | assumption); exact rfl)) | (apply Ok1.assign; exact rfl) | (apply Ok1.convI64; (iterate 5 exact rfl); omega; omega) | (apply Ok1.convU64; (iterate 5 exact rfl); omega; omega) | (apply Ok1.convU32; (iterate 5 exact rfl); omega; omega) | (apply Ok1.convU8; (iterate 5 exact rfl); omega; omega) | (apply Ok1.conv; (iterate 5 exact rfl))) | (apply R.box; (iterate 3 exact rfl); intro) | (apply R.buildSlice; (iterate 12 exact rfl); intro)) | (apply R.is0; first | fail) | (apply R.isG; first | (apply R.guard_run; exact rfl; exact rfl) | (apply R.guard_not; (iterate 3 exact rfl)) | (apply R.guard_not0; exact rfl; exact rfl) | (apply R.guard_un; (iterate 3 exact rfl)) | (apply R.guard_un0; exact rfl; exact rfl) | (apply R.guard rfl rfl ?_ (fun h => ⟨rfl, ?_⟩) <;> try intro)) | apply R.nil | (apply T.is; first | apply T.rounds 2 | apply T.seq | apply T.region | apply T.block | apply T.scope | apply T.label | apply T.skip | apply T.exit | apply T.ret | (apply T.cond_t; exact rfl) | (apply T.cond_f; exact rfl) | (apply T.cond_h; exact rfl; assumption) | (apply T.cond_n; exact rfl; assumption) | (apply T.cond rfl <;> intro)) | apply Rnd.step)
    (apply RetOk.t; exact rfl)
    exact ⟨_, by (focus ((repeat' (first | exact Keep.nil _ | exact Ext.one _ _ | exact Ext.here _ _ | exact Ext.all _ | apply Keep.cons | apply Keep.app | apply Keep.last | apply Ext.cons | apply Ext.app)); done)), ov1, hov1, rfl, rfl⟩
  · refine enterK (tb := tb) Tryz.func82 rfl Tryz.ntmps82 rfl ?_
    repeat' (first | (apply R.is1; first | (apply R.isBin; first | (apply R.pure; exact rfl; first | (apply Ok1.add64; exact rfl; exact rfl; omega; omega) | (apply Ok1.lss_t; exact rfl; exact rfl; omega) | (apply Ok1.lss_f; exact rfl; exact rfl; omega) | (apply Ok1.eql_t; exact rfl; exact rfl; omega) | (apply Ok1.eql_f; exact rfl; exact rfl; omega) | (apply Ok1.quo64; exact rfl; exact rfl; omega; omega; omega) | (apply Ok1.remN; exact rfl; exact rfl; omega; omega) | (apply Ok1.eqlP; (iterate 5 exact rfl)) | (apply Ok1.eqlM; (iterate 5 exact rfl)) | (apply Ok1.eqlS; (iterate 5 exact rfl))) | (apply R.lss rfl rfl rfl <;> intro) | (apply R.eql rfl rfl rfl <;> intro) | (apply R.eqlF; (iterate 8 exact rfl); all_goals intro)) | (apply R.isCall; first | apply R.callP rfl rfl rfl (dwidth_ok 1 2 (by decide) rfl) | (apply R.appendSl (ov := some (_, 0, [])) (n := 1) (old := [_]) (ov2 := none) (m := 0) (news := []) (e3 := 5); (iterate 12 exact rfl); exact ⟨rfl, rfl⟩; exact ⟨rfl, rfl⟩; exact Ext.one _ _; exact (by simp [blkL]); exact rfl; omega; intro ov1 hov1) | (apply R.appendSl (ov := some (_, 0, [])) (n := 1) (old := [_]); (iterate 12 exact rfl); exact ⟨rfl, rfl⟩; assumption; exact Ext.one _ _; exact Ext.mem (by (focus ((repeat' (first | exact Ext.none _ | exact Ext.one _ _ | exact Ext.here _ _ | exact Ext.all _ | apply Ext.cons | apply Ext.app | apply Ext.two)); done))); exact rfl; omega; intro ov1 hov1) | (apply R.pure; exact rfl; first | (apply Ok1.lenS; (iterate 3 exact rfl)) | (apply Ok1.lenStr; (iterate 3 exact rfl)) | (apply Ok1.lenMm; (iterate 3 exact rfl); (focus ((repeat' (first | exact At.head | apply At.tail | apply At.right)); done))) | (apply Ok1.lenM_nil; (iterate 3 exact rfl)))) | (apply R.pure; exact rfl; first | (apply Ok1.move; exact rfl) | (apply Ok1.fieldAddr; (iterate 5 exact rfl)) | (apply Ok1.load; exact rfl; first | (apply Ld.own1; exact rfl; exact rfl; (focus ((repeat' (first | exact At.head | apply At.tail | apply At.right)); done)); exact rfl) | (apply Ld.ownk; exact rfl; exact rfl; (focus ((repeat' (first | exact At.head | apply At.tail | apply At.right)); done)); exact rfl) | (apply Ld.old1; exact rfl; exact rfl; assumption; (first | exact List.not_mem_nil | assumption)) | (apply Ld.blk1; exact rfl; exact rfl; assumption; (first | exact List.not_mem_nil | assumption); exact rfl) | (apply Ld.blkk; exact rfl; exact rfl; assumption; (first | exact List.not_mem_nil | assumption); exact rfl)) | (apply Ok1.assign; exact rfl) | (apply Ok1.convI64; (iterate 5 exact rfl); omega; omega) | (apply Ok1.convU64; (iterate 5 exact rfl); omega; omega) | (apply Ok1.convU32; (iterate 5 exact rfl); omega; omega) | (apply Ok1.convU8; (iterate 5 exact rfl); omega; omega) | (apply Ok1.conv; (iterate 5 exact rfl))) | (apply R.box; (iterate 3 exact rfl); intro) | (apply R.buildSlice; (iterate 12 exact rfl); intro)) | (apply R.is0; first | fail) | (apply R.isG; first | (apply R.guard_run; exact rfl; exact rfl) | (apply R.guard_not; (iterate 3 exact rfl)) | (apply R.guard_not0; exact rfl; exact rfl) | (apply R.guard_un; (iterate 3 exact rfl)) | (apply R.guard_un0; exact rfl; exact rfl) | (apply R.guard rfl rfl ?_ (fun h => ⟨rfl, ?_⟩) <;> try intro)) | apply R.nil | (apply T.is; first | apply T.rounds 3 | apply T.seq | apply T.region | apply T.block | apply T.scope | apply T.label | apply T.skip | apply T.exit | apply T.ret | (apply T.cond_t; exact rfl) | (apply T.cond_f; exact rfl) | (apply T.cond_h; exact rfl; assumption) | (apply T.cond_n; exact rfl; assumption) | (apply T.cond rfl <;> intro)) | apply Rnd.step)
    (apply RetOk.t; exact rfl)
    exact ⟨_, by (focus ((repeat' (first | exact Keep.nil _ | exact Ext.one _ _ | exact Ext.here _ _ | exact Ext.all _ | apply Keep.cons | apply Keep.app | apply Keep.last | apply Ext.cons | apply Ext.app)); done)), ov1, hov1, rfl, rfl⟩
  · refine enterK (tb := tb) Tryz.func82 rfl Tryz.ntmps82 rfl ?_
    repeat' (first | (apply R.is1; first | (apply R.isBin; first | (apply R.pure; exact rfl; first | (apply Ok1.add64; exact rfl; exact rfl; omega; omega) | (apply Ok1.lss_t; exact rfl; exact rfl; omega) | (apply Ok1.lss_f; exact rfl; exact rfl; omega) | (apply Ok1.eql_t; exact rfl; exact rfl; omega) | (apply Ok1.eql_f; exact rfl; exact rfl; omega) | (apply Ok1.quo64; exact rfl; exact rfl; omega; omega; omega) | (apply Ok1.remN; exact rfl; exact rfl; omega; omega) | (apply Ok1.eqlP; (iterate 5 exact rfl)) | (apply Ok1.eqlM; (iterate 5 exact rfl)) | (apply Ok1.eqlS; (iterate 5 exact rfl))) | (apply R.lss rfl rfl rfl <;> intro) | (apply R.eql rfl rfl rfl <;> intro) | (apply R.eqlF; (iterate 8 exact rfl); all_goals intro)) | (apply R.isCall; first | apply R.callP rfl rfl rfl (dwidth_ok 2 4 (by decide) rfl) | (apply R.appendSl (ov := some (_, 0, [])) (n := 1) (old := [_]) (ov2 := none) (m := 0) (news := []) (e3 := 5); (iterate 12 exact rfl); exact ⟨rfl, rfl⟩; exact ⟨rfl, rfl⟩; exact Ext.one _ _; exact (by simp [blkL]); exact rfl; omega; intro ov1 hov1) | (apply R.appendSl (ov := some (_, 0, [])) (n := 1) (old := [_]); (iterate 12 exact rfl); exact ⟨rfl, rfl⟩; assumption; exact Ext.one _ _; exact Ext.mem (by (focus ((repeat' (first | exact Ext.none _ | exact Ext.one _ _ | exact Ext.here _ _ | exact Ext.all _ | apply Ext.cons | apply Ext.app | apply Ext.two)); done))); exact rfl; omega; intro ov1 hov1) | (apply R.pure; exact rfl; first | (apply Ok1.lenS; (iterate 3 exact rfl)) | (apply Ok1.lenStr; (iterate 3 exact rfl)) | (apply Ok1.lenMm; (iterate 3 exact rfl); (focus ((repeat' (first | exact At.head | apply At.tail | apply At.right)); done))) | (apply Ok1.lenM_nil; (iterate 3 exact rfl)))) | (apply R.pure; exact rfl; first | (apply Ok1.move; exact rfl) | (apply Ok1.fieldAddr; (iterate 5 exact rfl)) | (apply Ok1.load; exact rfl; first | (apply Ld.own1; exact rfl; exact rfl; (focus ((repeat' (first | exact At.head | apply At.tail | apply At.right)); done)); exact rfl) | (apply Ld.ownk; exact rfl; exact rfl; (focus ((repeat' (first | exact At.head | apply At.tail | apply At.right)); done)); exact rfl) | (apply Ld.old1; exact rfl; exact rfl; assumption; (first | exact List.not_mem_nil | assumption)) | (apply Ld.blk1; exact rfl; exact rfl; assumption; (first | exact List.not_mem_nil | assumption); exact rfl) | (apply Ld.blkk; exact rfl; exact rfl; assumption; (first | exact List.not_mem_nil | assumption); exact rfl)) | (apply Ok1.assign; exact rfl) | (apply Ok1.convI64; (iterate 5 exact rfl); omega; omega) | (apply Ok1.convU64; (iterate 5 exact rfl); omega; omega) | (apply Ok1.convU32; (iterate 5 exact rfl); omega; omega) | (apply Ok1.convU8; (iterate 5 exact rfl); omega; omega) | (apply Ok1.conv; (iterate 5 exact rfl))) | (apply R.box; (iterate 3 exact rfl); intro) | (apply R.buildSlice; (iterate 12 exact rfl); intro)) | (apply R.is0; first | fail) | (apply R.isG; first | (apply R.guard_run; exact rfl; exact rfl) | (apply R.guard_not; (iterate 3 exact rfl)) | (apply R.guard_not0; exact rfl; exact rfl) | (apply R.guard_un; (iterate 3 exact rfl)) | (apply R.guard_un0; exact rfl; exact rfl) | (apply R.guard rfl rfl ?_ (fun h => ⟨rfl, ?_⟩) <;> try intro)) | apply R.nil | (apply T.is; first | apply T.rounds 5 | apply T.seq | apply T.region | apply T.block | apply T.scope | apply T.label | apply T.skip | apply T.exit | apply T.ret | (apply T.cond_t; exact rfl) | (apply T.cond_f; exact rfl) | (apply T.cond_h; exact rfl; assumption) | (apply T.cond_n; exact rfl; assumption) | (apply T.cond rfl <;> intro)) | apply Rnd.step)
    have e : u8s (numI 2 n) = [.int .u8 (n / 256 / 256 / 256 % 256), .int .u8 (n / 256 / 256 % 256), .int .u8 (n / 256 % 256), .int .u8 (n % 256)] := by
      simp only [u8s, numI, len4, List.map_cons, List.map_nil, List.cons.injEq, Value.int.injEq, true_and, and_true]
      omega
    rw [e]
    (apply RetOk.t; exact rfl)
    exact ⟨_, by (focus ((repeat' (first | exact Keep.nil _ | exact Ext.one _ _ | exact Ext.here _ _ | exact Ext.all _ | apply Keep.cons | apply Keep.app | apply Keep.last | apply Ext.cons | apply Ext.app)); done)), ov1, hov1, rfl, rfl⟩
end Go.Proofs.YtplhnkmmhndkjaaGreat
set_option linter.unusedSimpArgs false
set_option linter.unusedVariables false
namespace Go.Proofs.YtplhnkmmhndkjaaGreat
open Go.RowKit Go.Shelf
set_option maxRecDepth 100000
/-- A set: four logs. -/
def setV (gs : List Lg) : List Value := gs.map Lg.v
def LsL (gs : List Lg) : Lst := gs.flatMap Lg.L
def SetL (bs : Nat) (gs : List Lg) : Lst := (bs, .cells ⟨setV gs⟩ 132 (0, 0)) :: LsL gs
structure GOk (gs : List Lg) : Prop where
  len : gs.length = 4
  ok : ∀ g ∈ gs, g.ok
  le : ∀ g ∈ gs, g.xs.length ≤ 256
def lgs (gs : List Lg) : List (List Int) := gs.map Lg.xs
def lcat (gs : List Lg) : List Int := gs.flatMap Lg.xs
structure SetR (w : World) (bs : Nat) (gs : List Lg) : Prop where
  b : w.heap[bs]? = some (.cells ⟨setV gs⟩ 132 (0, 0))
  rd : ∀ g ∈ gs, RdSl w (ovp g.ov) iV g.xs
theorem mem_LsL {gs : List Lg} {g : Lg} (h : g ∈ gs) {x : Nat × Obj} (hx : x ∈ g.L) : x ∈ LsL gs := List.mem_flatMap.2 ⟨g, h, hx⟩
theorem SetR.of {bs : Nat} {gs : List Lg} (hg : GOk gs) {w0 w : World} {S : List Nat} {L : Lst} (hw : Hp w0 S L w) (hin : ∀ x ∈ SetL bs gs, x ∈ L) : SetR w bs gs :=
  ⟨hw.get _ _ (hin _ List.mem_cons_self), fun g h => Lg.rd (hg.ok g h) hw fun x hx => hin _ (List.mem_cons_of_mem _ (mem_LsL h hx))⟩
theorem SetR.chg {bs : Nat} {gs : List Lg} {w w' : World} (h : SetR w bs gs) (hc : Chg [] w w') : SetR w' bs gs :=
  ⟨hc.heap h.b List.not_mem_nil, fun g hm => (h.rd g hm).chg' hc (fun _ => Off.nil _)⟩
end Go.Proofs.YtplhnkmmhndkjaaGreat
set_option linter.unusedSimpArgs false
set_option linter.unusedVariables false
namespace Go.Proofs.YtplhnkmmhndkjaaGreat
open Go.RowKit Go.Shelf
set_option maxRecDepth 100000
end Go.Proofs.YtplhnkmmhndkjaaGreat
set_option linter.unusedSimpArgs false
set_option linter.unusedVariables false
namespace Go.Proofs.YtplhnkmmhndkjaaGreat
open Go.RowKit Go.Shelf
set_option maxRecDepth 100000
end Go.Proofs.YtplhnkmmhndkjaaGreat
set_option linter.unusedSimpArgs false
set_option linter.unusedVariables false
namespace Go.Proofs.YtplhnkmmhndkjaaGreat
open Go.RowKit Go.Shelf
set_option maxRecDepth 100000
theorem GOk.set {gs : List Lg} (hg : GOk gs) (i : Nat) {g' : Lg} (h : g'.ok) (hl : g'.xs.length ≤ 256) : GOk (gs.set i g') :=
  ⟨by rw [List.length_set]; exact hg.len, fun g hm => by rcases List.mem_or_eq_of_mem_set hm with h1 | rfl; exact hg.ok g h1; exact h, fun g hm => by rcases List.mem_or_eq_of_mem_set hm with h1 | rfl; exact hg.le g h1; exact hl⟩
end Go.Proofs.YtplhnkmmhndkjaaGreat
set_option linter.unusedSimpArgs false
set_option linter.unusedVariables false
namespace Go.Proofs.YtplhnkmmhndkjaaGreat
open Go.RowKit Go.Shelf
set_option maxRecDepth 100000
section
variable {X : Cx} {σ : Env} {L Lr : Lst} {d : Option Nat} {ty : TypeId} {pos : String} {af : Array Edge} {g : Option (Nat × Bool)} {x : Operand} {t e : TypeId} {r re : TRow} {p : Option Addr} {n cap i j : Nat}
end
/-- A delta: from where, and a log's part, of each. -/
abbrev Dl := List (Int × Pi)
end Go.Proofs.YtplhnkmmhndkjaaGreat
set_option linter.unusedSimpArgs false
set_option linter.unusedVariables false
namespace Go.Proofs.YtplhnkmmhndkjaaGreat
open Go.RowKit Go.Shelf
set_option maxRecDepth 100000
/-- How much of it both have; the error; the log. -/
def both (xs ys : List Int) (k : Nat) : Nat := min (xs.length - k) ys.length
def jAll (xs ys : List Int) (k : Nat) : List Int := xs ++ ys.drop (both xs ys k)
def jE (xs ys : List Int) (k : Nat) : Int :=
  if (xs.drop k).take (both xs ys k) ≠ ys.take (both xs ys k) then 3 else if ¬ (jAll xs ys k).Nodup then 3 else if 256 < (jAll xs ys k).length then 6 else 0
def jL (xs ys : List Int) (k : Nat) : List Int := if jE xs ys k = 0 then jAll xs ys k else []
end Go.Proofs.YtplhnkmmhndkjaaGreat
set_option linter.unusedSimpArgs false
set_option linter.unusedVariables false
namespace Go.Proofs.YtplhnkmmhndkjaaGreat
open Go.RowKit Go.Shelf
set_option maxRecDepth 100000
/-- A log, from where, and the delta's part of it. -/
abbrev Jx := List Int × Int × List Int
def JE (x : Jx) : Int := jE x.1 x.2.2 x.2.1.toNat
def JL (x : Jx) : List Int := jL x.1 x.2.2 x.2.1.toNat
def DR (dd : List (Int × List Int)) : Prop := ∀ y ∈ dd, 0 ≤ y.1 ∧ y.1 ≤ 256 ∧ y.2.length ≤ 256 ∧ SR y.2
instance (dd : List (Int × List Int)) : Decidable (DR dd) := by unfold DR; infer_instance
def appE (zz : List Jx) : Int := if ∃ x ∈ zz, (x.1.length : Int) < x.2.1 then 9 else if ∃ x ∈ zz, JE x = 3 then 3 else if ∃ x ∈ zz, JE x = 6 then 6 else 0
def appX (ls : List (List Int)) (dd : List (Int × List Int)) : Int := if DR dd then appE (ls.zip dd) else 10
def appL (ls : List (List Int)) (dd : List (Int × List Int)) : List (List Int) := if appX ls dd = 0 then (ls.zip dd).map JL else ls
theorem je_cases (x : Jx) : JE x = 0 ∨ JE x = 3 ∨ JE x = 6 := by
  unfold JE jE
  by_cases c1 : (x.1.drop x.2.1.toNat).take (both x.1 x.2.2 x.2.1.toNat) ≠ x.2.2.take (both x.1 x.2.2 x.2.1.toNat)
  · exact .inr (.inl (if_pos c1))
  · rw [if_neg c1]
    by_cases c2 : ¬ (jAll x.1 x.2.2 x.2.1.toNat).Nodup
    · exact .inr (.inl (if_pos c2))
    · rw [if_neg c2]
      by_cases c3 : 256 < (jAll x.1 x.2.2 x.2.1.toNat).length
      · exact .inr (.inr (if_pos c3))
      · exact .inl (if_neg c3)
def zz (gs : List Lg) (d : Dl) : List Jx := (lgs gs).zip (d.map fun x => (x.1, x.2.xs))
end Go.Proofs.YtplhnkmmhndkjaaGreat
set_option linter.unusedSimpArgs false
set_option linter.unusedVariables false
namespace Go.Proofs.YtplhnkmmhndkjaaGreat
open Go.RowKit Go.Shelf
set_option maxRecDepth 100000
section
variable {X : Cx} {σ : Env} {L Lr : Lst} {d : Option Nat} {ty : TypeId} {pos : String} {af : Array Edge} {g : Option (Nat × Bool)} {x : Operand} {t e : TypeId} {r re : TRow} {p : Option Addr} {n cap i j : Nat}
end
theorem ovc_le {n : Nat} {ov : Ov} {xs : List Value} (h : OvOk 1 ov n xs) : n ≤ ovc ov n := by
  unfold ovc
  cases ov with
  | none => have := h.2; simp only at this ⊢; omega
  | some q => simp only; omega
/-- A delta whose logs lie in the blocks of L. -/
structure DlO (d : Dl) (L : Lst) : Prop where
  cap : ∀ x ∈ d, x.2.xs.length ≤ x.2.cap
  adr : ∀ x ∈ d, x.2.xs ≠ [] → ∃ b o, x.2.p = some ⟨b, o, none⟩ ∧ b ∈ blks L
  rd : ∀ (w0 w : World) (S : List Nat) (L' : Lst), Hp w0 S L' w → (∀ z ∈ L, z ∈ L') → ∀ x ∈ d, RdSl w x.2.p iV x.2.xs
theorem DlO.nil (L : Lst) : DlO [] L := ⟨by simp, by simp, by simp⟩
theorem DlO.snoc {d : Dl} {L : Lst} (h : DlO d L) {ov : Ov} {xs : List Int} (hov : OvOk 1 ov xs.length (iis xs)) (f : Int) {k c : Nat} (hk : k ≤ xs.length) (hc : xs.length ≤ c) {m : Nat} (hm : xs.length - k ≤ m) :
    DlO (d ++ [(f, ⟨sufP (ovp ov) c k 1, m, xs.drop k⟩)]) (blkL 3 ov (iis xs) ++ L) := by
  refine ⟨fun x hx => ?_, fun x hx hne => ?_, fun w0 w S L' hw hin x hx => ?_⟩
  · rcases List.mem_append.1 hx with h1 | h1
    · exact h.cap x h1
    · rw [List.mem_singleton.1 h1]
      simp only [List.length_drop]
      exact hm
  · rcases List.mem_append.1 hx with h1 | h1
    · obtain ⟨b, o, h2, h3⟩ := h.adr x h1 hne
      refine ⟨b, o, h2, ?_⟩
      rw [blks, List.map_append]
      exact List.mem_append_right _ h3
    · rw [List.mem_singleton.1 h1] at hne ⊢
      simp only at hne ⊢
      cases ov with
      | none =>
        have h0 : xs.length = 0 := hov.2
        have : xs = [] := List.eq_nil_of_length_eq_zero h0
        subst this
        simp at hne
      | some q =>
        obtain ⟨b, j, junk⟩ := q
        have hb : b ∈ blks (blkL 3 (some (b, j, junk)) (iis xs) ++ L) := by simp [blks, blkL]
        unfold sufP ovp
        by_cases hck : c = k
        · exact ⟨b, 0, by rw [if_pos hck], hb⟩
        · exact ⟨b, 0 + k * 1, by rw [if_neg hck]; simp [Addr.add]; omega, hb⟩
  · rcases List.mem_append.1 hx with h1 | h1
    · exact h.rd w0 w S L' hw (fun z hz => hin z (List.mem_append_right _ hz)) x h1
    · rw [List.mem_singleton.1 h1]
      exact (irdown hov hw fun z hz => hin z (List.mem_append_left _ hz)).suf iV_len hk hc
def pur (d : Dl) : List (Int × List Int) := d.map fun x => (x.1, x.2.xs)
end Go.Proofs.YtplhnkmmhndkjaaGreat
set_option linter.unusedSimpArgs false
set_option linter.unusedVariables false
namespace Go.Proofs.YtplhnkmmhndkjaaGreat
open Go.RowKit Go.Shelf
set_option maxRecDepth 100000
theorem nums1_len (xs : List Int) : (numsI 1 xs).length = 2 * xs.length := by
  induction xs with
  | nil => rfl
  | cons x l ih =>
    simp only [numsI, List.flatMap_cons, List.length_append, List.length_cons] at *
    simp only [numI, List.length_cons, List.length_nil]
    omega
theorem nums_byt (s : Nat) (xs : List Int) : Byt (numsI s xs) := by
  intro y hy
  obtain ⟨x, hx, h⟩ := List.mem_flatMap.1 hy
  exact num_byt s x y h
theorem i_at {xs : List Int} {i : Nat} {x : Int} (h : xs[i]? = some x) : (iis xs)[i * 1]? = some (.int .i64 x) := by rw [Nat.mul_one, iis, List.getElem?_map, h]; rfl
end Go.Proofs.YtplhnkmmhndkjaaGreat
set_option linter.unusedSimpArgs false
set_option linter.unusedVariables false
namespace Go.Proofs.YtplhnkmmhndkjaaGreat
open Go.RowKit Go.Shelf
set_option maxRecDepth 100000
end Go.Proofs.YtplhnkmmhndkjaaGreat
set_option linter.unusedSimpArgs false
set_option linter.unusedVariables false
namespace Go.Proofs.YtplhnkmmhndkjaaGreat
open Go.RowKit Go.Shelf
set_option maxRecDepth 100000
end Go.Proofs.YtplhnkmmhndkjaaGreat
set_option linter.unusedSimpArgs false
set_option linter.unusedVariables false
namespace Go.Proofs.YtplhnkmmhndkjaaGreat
open Go.RowKit Go.Shelf
set_option maxRecDepth 100000
/-- A digest: versions, and eight bytes. -/
def dgV (vs p8 : List Int) : List Value := iis vs ++ u8s p8
theorem dg_len {vs p8 : List Int} (hv : vs.length = 4) (hp : p8.length = 8) : (dgV vs p8).length = 12 := by simp [dgV, iis_len, u8s_len, hv, hp]
theorem dg_one (vs p8 : List Int) : (dgV vs p8).all Value.oneCell' = true := by rw [dgV, List.all_append, iis_one, u8s_one]; rfl
end Go.Proofs.YtplhnkmmhndkjaaGreat
set_option linter.unusedSimpArgs false
set_option linter.unusedVariables false
namespace Go.Proofs.YtplhnkmmhndkjaaGreat
open Go.RowKit Go.Shelf
set_option maxRecDepth 100000
end Go.Proofs.YtplhnkmmhndkjaaGreat
set_option linter.unusedSimpArgs false
set_option linter.unusedVariables false
namespace Go.Proofs.YtplhnkmmhndkjaaGreat
open Go.RowKit Go.Shelf
set_option maxRecDepth 100000
/-- The document's set: four logs. -/
def DSL (bs : Nat) (gs : List Lg) : Lst := (bs, .cells ⟨setV gs⟩ 82 (0, 0)) :: LsL gs
structure DSR (w : World) (bs : Nat) (gs : List Lg) : Prop where
  b : w.heap[bs]? = some (.cells ⟨setV gs⟩ 82 (0, 0))
  rd : ∀ g ∈ gs, RdSl w (ovp g.ov) iV g.xs
theorem DSR.of {bs : Nat} {gs : List Lg} (hg : GOk gs) {w0 w : World} {S : List Nat} {L : Lst} (hw : Hp w0 S L w) (hin : ∀ x ∈ DSL bs gs, x ∈ L) : DSR w bs gs :=
  ⟨hw.get _ _ (hin _ List.mem_cons_self), fun g h => Lg.rd (hg.ok g h) hw fun x hx => hin _ (List.mem_cons_of_mem _ (mem_LsL h hx))⟩
end Go.Proofs.YtplhnkmmhndkjaaGreat
set_option linter.unusedSimpArgs false
set_option linter.unusedVariables false
namespace Go.Proofs.YtplhnkmmhndkjaaGreat
open Go.RowKit Go.Shelf
set_option maxRecDepth 100000
end Go.Proofs.YtplhnkmmhndkjaaGreat
set_option linter.unusedSimpArgs false
set_option linter.unusedVariables false
namespace Go.Proofs.YtplhnkmmhndkjaaGreat
open Go.RowKit Go.Shelf
end Go.Proofs.YtplhnkmmhndkjaaGreat
set_option linter.unusedSimpArgs false
set_option linter.unusedVariables false
namespace Go.Proofs.YtplhnkmmhndkjaaGreat
open Go.RowKit Go.Shelf
set_option maxRecDepth 100000
end Go.Proofs.YtplhnkmmhndkjaaGreat
set_option linter.unusedSimpArgs false
set_option linter.unusedVariables false
namespace Go.Proofs.YtplhnkmmhndkjaaGreat
open Go.RowKit Go.Shelf
set_option maxRecDepth 100000
end Go.Proofs.YtplhnkmmhndkjaaGreat
set_option linter.unusedSimpArgs false
set_option linter.unusedVariables false
namespace Go.Proofs.YtplhnkmmhndkjaaGreat
open Go.RowKit Go.Shelf
set_option maxRecDepth 100000
theorem or8 (m c : Nat) (hm : m < 72057594037927936) (hc : c < 256) : orI .u64 ((m : Int) * 256) c = (m : Int) * 256 + c := by
  unfold orI
  have e1 : ((m : Int) * 256) = ((m * 256 : Nat) : Int) := by omega
  rw [e1, BitVec.ofInt_natCast, BitVec.ofInt_natCast, BitVec.toNat_or, BitVec.toNat_ofNat, BitVec.toNat_ofNat]
  have hb : IntKind.u64.bits = 64 := rfl
  rw [hb, Nat.mod_eq_of_lt (by omega), Nat.mod_eq_of_lt (by omega)]
  have h := Nat.shiftLeft_add_eq_or_of_lt (b := c) (i := 8) (by omega) m
  rw [Nat.shiftLeft_eq] at h
  rw [← h, wrap_u64 (by omega) (by omega)]
  omega
section
variable {X : Cx} {σ : Env} {L : Lst} {ty t : TypeId} {pos : String} {af : Array Edge} {x : Operand} {r re : TRow} {d : Option Nat} {g : Option (Nat × Bool)} {e : TypeId} {p : Option Addr} {n cap j : Nat}
theorem Ok1.pre3 {hi mx : Operand} (ht : X.tb.row t = some r) (hk : r.k = .slice e) (he : X.tb.row e = some re) (hx : ev σ x = some (.slice p n cap)) (hh : ev σ hi = some (.int .i64 j)) (hm : ev σ mx = some (.int .i64 j)) (h2 : j ≤ cap) :
    Ok1 X ⟨d, .slice t x none (some hi) (some mx), ty, pos, af, g⟩ σ L (.slice p j j) := .mk fun a w ha hw => by
  rw [slice_run (l := 0) (h := (j : Int)) (m := (j : Int)) X.tb ht hk he ha hx (by simp [bd, hm]) (by simp [bd, hh]) rfl (by omega) (by omega) (by omega) (by omega) (.inr (by simp))]
  have : p.map (·.add (0 * re.size)) = p := by cases p <;> simp [Addr.add]
  simp only [Int.toNat_zero, this, ite_self, Int.toNat_natCast, Nat.sub_zero]
end
/-- The number that bytes make, the highest first. -/
def beN (xs : List Int) : Int := xs.foldl (fun a c => a * 256 + c) 0
theorem be_snoc {xs : List Int} {i : Nat} {x : Int} (h : xs[i]? = some x) : beN (xs.take (i + 1)) = beN (xs.take i) * 256 + x := by
  unfold beN
  rw [List.take_add_one, h, List.foldl_append]
  rfl
theorem be_range : ∀ (n : Nat) (xs : List Int), xs.length = n → Byt xs → 0 ≤ beN xs ∧ beN xs < 256 ^ n := by
  intro n
  induction n with
  | zero => intro xs h _; rw [List.length_eq_zero_iff.1 h]; exact ⟨Int.le_refl _, by decide⟩
  | succ n ih =>
    intro xs h hb
    obtain ⟨x, hx⟩ : ∃ x, xs[n]? = some x := ⟨_, List.getElem?_eq_getElem (by omega)⟩
    have h1 := ih (xs.take n) (by rw [List.length_take]; omega) fun y hy => hb y (List.mem_of_mem_take hy)
    have h2 := be_snoc hx
    rw [List.take_of_length_le (by omega)] at h2
    have h3 := hb x (List.mem_of_getElem? hx)
    have h4 : (256 : Int) ^ (n + 1) = 256 ^ n * 256 := Int.pow_succ ..
    omega
/-- What is left to be read, and the first error. -/
structure Rs where
  q : Option Addr
  cap : Nat
  xs : List Int
  e : Int
def Rs.L (s : Rs) (br : Nat) : Lst := [(br, .cells ⟨[.slice s.q s.xs.length s.cap, .int .i64 s.e]⟩ 173 (0, 0))]
def Rs.fail (s : Rs) (e : Int) : Rs := if s.e = 0 then ⟨none, 0, [], e⟩ else s
def Rs.drop (s : Rs) (k : Nat) : Rs := ⟨sufP s.q s.cap k 1, s.cap - k, s.xs.drop k, s.e⟩
structure Rs.ok (s : Rs) (br : Nat) (w : World) : Prop where
  rd : RdSl w s.q u8V s.xs
  cap : s.xs.length ≤ s.cap
  off : s.xs ≠ [] → Off s.q [br]
  byt : Byt s.xs
  big : s.xs.length ≤ 1000000000
theorem rfail_ok (br : Nat) (s : Rs) (e : Int) (w : World) : CallM Tryz.prog 89 [.pointer (some ⟨br, 0, none⟩), .int .i64 e] (s.L br) w fun v L => v = .tuple #[] ∧ L = (s.fail e).L br := by
  by_cases h : s.e = 0
  · refine enterK (tb := tb) Tryz.func89 rfl Tryz.ntmps89 rfl ?_
    rw [Rs.fail, if_pos h]
    simp only [Rs.L, h]
    repeat' (first | (apply R.is1; first | (apply R.isBin; (apply R.pure; exact rfl; (apply Ok1.eql_t; exact rfl; exact rfl; omega))) | (apply R.pure; exact rfl; first | (apply Ok1.move; exact rfl) | (apply Ok1.fieldAddr; (iterate 5 exact rfl)) | (apply Ok1.load; exact rfl; (apply Ld.own1; exact rfl; exact rfl; exact At.head; exact rfl)) | (apply Ok1.nilCheck; exact rfl))) | (apply R.is0; (apply R.store; (iterate 6 exact rfl); exact Upd.head; exact rfl)) | apply R.nil | (apply T.is; first | apply T.seq | apply T.region | (apply T.cond_t; exact rfl)))
    (apply RetOk.n)
    exact ⟨_, by (focus ((repeat' (first | exact Keep.nil _ | exact Ext.one _ _ | apply Keep.cons)); done)), rfl, rfl⟩
  · refine enterK (tb := tb) Tryz.func89 rfl Tryz.ntmps89 rfl ?_
    rw [Rs.fail, if_neg h]
    simp only [Rs.L]
    repeat' (first | (apply R.is1; first | (apply R.isBin; (apply R.pure; exact rfl; (apply Ok1.eql_f; exact rfl; exact rfl; omega))) | (apply R.pure; exact rfl; first | (apply Ok1.move; exact rfl) | (apply Ok1.fieldAddr; (iterate 5 exact rfl)) | (apply Ok1.load; exact rfl; (apply Ld.own1; exact rfl; exact rfl; exact At.head; exact rfl)) | (apply Ok1.nilCheck; exact rfl))) | apply R.nil | (apply T.is; first | apply T.seq | apply T.region | apply T.skip | (apply T.cond_f; exact rfl)))
    (apply RetOk.n)
    exact ⟨_, by (focus ((repeat' (first | exact Keep.nil _ | exact Ext.one _ _ | apply Keep.cons)); done)), rfl, rfl⟩
theorem rtake_no (br : Nat) (s : Rs) (k : Nat) (h : s.e ≠ 0 ∨ s.xs.length < k) (w : World) : CallM Tryz.prog 130 [.pointer (some ⟨br, 0, none⟩), .int .i64 k] (s.L br) w fun v L => v = .slice none 0 0 ∧ L = (s.fail 4).L br := by
  have hf := fun w1 => rfail_ok br s 4 w1
  refine enterK (tb := tb) Tryz.func130 rfl Tryz.ntmps130 rfl ?_
  generalize (s.fail 4).L br = L4 at *
  by_cases he : s.e = 0
  · have hk : s.xs.length < k := h.resolve_left fun h => h he
    simp only [Rs.L, he] at hf ⊢
    repeat' (first | (apply R.is1; first | (apply R.isBin; (apply R.pure; exact rfl; first | (apply Ok1.gtr_t; exact rfl; exact rfl; omega) | (apply Ok1.neq_f; exact rfl; exact rfl; omega))) | (apply R.isCall; first | (apply R.callE (Li := [(br, .cells ⟨[.slice s.q s.xs.length s.cap, .int .i64 0]⟩ 173 (0, 0))]); (iterate 3 exact rfl); (focus ((repeat' (exact Ext.one _ _)); done)); intro w1 hw1; exact hf w1; rintro v Lo ⟨rfl, rfl⟩) | (apply R.pure; exact rfl; (apply Ok1.lenS; (iterate 3 exact rfl)))) | (apply R.pure; exact rfl; first | (apply Ok1.move; exact rfl) | (apply Ok1.fieldAddr; (iterate 5 exact rfl)) | (apply Ok1.load; exact rfl; (apply Ld.own1; exact rfl; exact rfl; exact At.head; exact rfl)) | (apply Ok1.assign; exact rfl) | (apply Ok1.pick_f; exact rfl; exact rfl) | (apply Ok1.nilCheck; exact rfl))) | (apply R.isG; (apply R.guard_run; exact rfl; exact rfl)) | apply R.nil | (apply T.is; first | apply T.seq | apply T.region | apply T.ret | (apply T.cond_t; exact rfl)))
    (apply RetOk.t; exact rfl)
    exact ⟨_, by (focus ((repeat' (first | exact Ext.here _ _ | apply Keep.last)); done)), rfl, rfl⟩
  · simp only [Rs.L] at hf ⊢
    repeat' (first | (apply R.is1; first | (apply R.isBin; (apply R.pure; exact rfl; (apply Ok1.neq_t; exact rfl; exact rfl; omega))) | (apply R.isCall; (apply R.callE (Li := [(br, .cells ⟨[.slice s.q s.xs.length s.cap, .int .i64 s.e]⟩ 173 (0, 0))]); (iterate 3 exact rfl); (focus ((repeat' (exact Ext.one _ _)); done)); intro w1 hw1; exact hf w1; rintro v Lo ⟨rfl, rfl⟩)) | (apply R.pure; exact rfl; first | (apply Ok1.move; exact rfl) | (apply Ok1.fieldAddr; (iterate 5 exact rfl)) | (apply Ok1.load; exact rfl; (apply Ld.own1; exact rfl; exact rfl; exact At.head; exact rfl)) | (apply Ok1.assign; exact rfl) | (apply Ok1.pick_t; exact rfl; exact rfl) | (apply Ok1.nilCheck; exact rfl))) | (apply R.isG; (apply R.guard_not; (iterate 3 exact rfl))) | apply R.nil | (apply T.is; first | apply T.seq | apply T.region | apply T.ret | (apply T.cond_t; exact rfl)))
    (apply RetOk.t; exact rfl)
    exact ⟨_, by (focus ((repeat' (first | exact Ext.here _ _ | apply Keep.last)); done)), rfl, rfl⟩
theorem rtake_ok (br : Nat) (s : Rs) (k : Nat) (he : s.e = 0) (hk : k ≤ s.xs.length) (hc : s.xs.length ≤ s.cap) (w : World) : CallM Tryz.prog 130 [.pointer (some ⟨br, 0, none⟩), .int .i64 k] (s.L br) w fun v L => v = .slice s.q k k ∧ L = (s.drop k).L br := by
  refine enterK (tb := tb) Tryz.func130 rfl Tryz.ntmps130 rfl ?_
  simp only [Rs.L, Rs.drop, he, List.length_drop]
  repeat' (first | (apply R.is1; first | (apply R.isBin; (apply R.pure; exact rfl; first | (apply Ok1.gtr_f; exact rfl; exact rfl; omega) | (apply Ok1.neq_f; exact rfl; exact rfl; omega))) | (apply R.isCall; (apply R.pure; exact rfl; (apply Ok1.lenS; (iterate 3 exact rfl)))) | (apply R.pure; exact rfl; first | (apply Ok1.pre3 (j := k); (iterate 6 exact rfl); omega) | (apply Ok1.sufR (i := k) (sz := 1); (iterate 6 exact rfl); exact hk; exact hc) | (apply Ok1.move; exact rfl) | (apply Ok1.fieldAddr; (iterate 5 exact rfl)) | (apply Ok1.load; exact rfl; (apply Ld.own1; exact rfl; exact rfl; exact At.head; exact rfl)) | (apply Ok1.assign; exact rfl) | (apply Ok1.pick_f; exact rfl; exact rfl) | (apply Ok1.nilCheck; exact rfl))) | (apply R.is0; (apply R.store; (iterate 6 exact rfl); exact Upd.head; exact rfl)) | (apply R.isG; (apply R.guard_run; exact rfl; exact rfl)) | apply R.nil | (apply T.is; first | apply T.seq | apply T.region | apply T.skip | apply T.ret | (apply T.cond_f; exact rfl)))
  (apply RetOk.t; exact rfl)
  exact ⟨_, by (focus ((repeat' (first | exact Keep.nil _ | exact Ext.one _ _ | apply Keep.cons)); done)), rfl, rfl⟩
/-- The next number of k bytes. -/
def Rs.num (s : Rs) (k : Nat) : Int × Bool × Rs :=
  if s.e ≠ 0 ∨ s.xs.length < k then (0, false, s.fail 4) else if beN (s.xs.take k) ≤ 9223372036854775807 then (beN (s.xs.take k), true, s.drop k) else (0, false, (s.drop k).fail 3)
theorem pw8 {z k : Nat} (hz : z ≤ 3) (hk : pw z = k) : 1 ≤ k ∧ k ≤ 8 ∧ IntKind.i64.wrap (1 * pw (z : Int).toNat) = k := by
  have : z = 0 ∨ z = 1 ∨ z = 2 ∨ z = 3 := by omega
  rcases this with rfl | rfl | rfl | rfl
  · have : k = 1 := by have h : pw 0 = 1 := rfl; omega
    subst this; exact ⟨by decide, by decide, by decide⟩
  · have : k = 2 := by have h : pw 1 = 2 := rfl; omega
    subst this; exact ⟨by decide, by decide, by decide⟩
  · have : k = 4 := by have h : pw 2 = 4 := rfl; omega
    subst this; exact ⟨by decide, by decide, by decide⟩
  · have : k = 8 := by have h : pw 3 = 8 := rfl; omega
    subst this; exact ⟨by decide, by decide, by decide⟩
theorem rnumber_ok (br : Nat) (s : Rs) (z k : Nat) (hz : z ≤ 3) (hk : pw z = k) (w : World) (hs : s.ok br w) : CallM Tryz.prog 129 [.pointer (some ⟨br, 0, none⟩), .int .i64 z] (s.L br) w fun v L => v = .tuple #[.int .i64 (s.num k).1, .bool (s.num k).2.1] ∧ L = (s.num k).2.2.L br := by
  obtain ⟨hk1, hk8, hwr⟩ := pw8 hz hk
  have hwd := width_ok (z : Int) k (by omega) (by omega) hwr
  refine enterK (tb := tb) Tryz.func129 rfl Tryz.ntmps129 rfl ?_
  by_cases h : s.e ≠ 0 ∨ s.xs.length < k
  · have ht := fun w1 => rtake_no br s k h w1
    rw [Rs.num, if_pos h]
    simp only
    generalize s.L br = L0 at *
    generalize (s.fail 4).L br = L4 at *
    repeat' (first | (apply R.is1; first | (apply R.isBin; (apply R.pure; exact rfl; first | (apply Ok1.lss_f; exact rfl; exact rfl; omega) | (apply Ok1.gtr_f; exact rfl; exact rfl; omega))) | (apply R.isCall; first | apply R.callP rfl rfl rfl hwd | (apply R.callE (Li := L0); (iterate 3 exact rfl); (focus ((repeat' (exact Ext.all _)); done)); intro w1 hw1; exact ht w1; rintro v Lo ⟨rfl, rfl⟩) | (apply R.pure; exact rfl; (apply Ok1.lenS; (iterate 3 exact rfl)))) | (apply R.pure; exact rfl; first | (apply Ok1.move; exact rfl) | (apply Ok1.assign; exact rfl) | (apply Ok1.convI64; (iterate 5 exact rfl); omega; omega))) | apply R.nil | (apply T.is; first | apply T.rounds 1 | apply T.seq | apply T.region | apply T.block | apply T.skip | apply T.exit | apply T.ret | (apply T.cond_f; exact rfl)))
    (apply RetOk.tt; exact rfl; exact rfl)
    exact ⟨_, by (focus ((repeat' (first | exact Ext.here _ _ | apply Keep.last)); done)), rfl, rfl⟩
  · have he : s.e = 0 := Classical.byContradiction fun h1 => h (.inl h1)
    have hkl : k ≤ s.xs.length := Nat.le_of_not_lt fun h1 => h (.inr h1)
    have ht := fun w1 => rtake_ok br s k he hkl hs.cap w1
    have hne : s.xs ≠ [] := by intro h0; rw [h0] at hkl; simp at hkl; omega
    have hoff := hs.off hne
    have hpre := hs.rd.pre u8V_len k
    have hbt : Byt (s.xs.take k) := fun y hy => hs.byt y (List.mem_of_mem_take hy)
    have hlt : (s.xs.take k).length = k := by rw [List.length_take]; omega
    have hbe : ∀ i ≤ k, 0 ≤ beN ((s.xs.take k).take i) ∧ beN ((s.xs.take k).take i) < 256 ^ i := fun i hi => be_range i _ (by rw [List.length_take]; omega) fun y hy => hbt y (List.mem_of_mem_take hy)
    rw [Rs.num, if_neg h]
    obtain ⟨q, hq⟩ : ∃ q, q = s.q := ⟨_, rfl⟩
    rw [← hq] at ht hoff hpre
    have hfl := fun w1 => rfail_ok br (s.drop k) 3 w1
    obtain ⟨S, hS⟩ : ∃ S, S = blks (s.L br) := ⟨_, rfl⟩
    have hoff : Off q S := by rw [hS]; exact hoff
    rw [← hS]
    generalize s.L br = L0 at *
    generalize s.drop k = s1 at *
    generalize s.xs.take k = ys at *
    repeat' (first | (apply R.is1; first | (apply R.isCall; first | apply R.callP rfl rfl rfl hwd | (apply R.callE (Li := L0); (iterate 3 exact rfl); (focus ((repeat' (exact Ext.all _)); done)); intro w1 hw1; exact ht w1; rintro v Lo ⟨rfl, rfl⟩) | (apply R.pure; exact rfl; (apply Ok1.lenS; (iterate 3 exact rfl)))) | (apply R.pure; exact rfl; first | (apply Ok1.move; exact rfl) | (apply Ok1.assign; exact rfl))) | apply R.nil | (apply T.is; first | apply T.seq | apply T.region | apply T.block))
    apply T.loopK (α := Nat) (I := fun i => i ≤ k) (σi := fun i => [(0, .pointer (some ⟨br, 0, none⟩)), (6, .slice q k k), (7, .int .u64 (beN (ys.take i))), (14, .slice q k k), (15, .int .i64 k), (16, .int .i64 i)]) (Li := fun _ => s1.L br) (μ := fun i => k - i) (i0 := 0)
    · exact Nat.zero_le _
    · exact ⟨rfl, rfl, rfl, rfl, rfl, rfl, trivial⟩
    · (focus ((repeat' (first | exact Keep.nil _ | exact Ext.one _ _ | apply Keep.cons)); done))
    · intro i hi
      have hb := hbe i hi
      rcases Nat.lt_or_ge i k with hlt | hge
      · obtain ⟨y, hy⟩ : ∃ y, ys[i]? = some y := ⟨_, List.getElem?_eq_getElem (by omega)⟩
        obtain ⟨b, o, hpe, H⟩ := hpre.at hy
        replace H := H 1 u8V_len
        have hyb := hbt y (List.mem_of_getElem? hy)
        have hpw : (256 : Int) ^ i ≤ 72057594037927936 := by
          have : i = 0 ∨ i = 1 ∨ i = 2 ∨ i = 3 ∨ i = 4 ∨ i = 5 ∨ i = 6 ∨ i = 7 := by omega
          rcases this with rfl | rfl | rfl | rfl | rfl | rfl | rfl | rfl <;> decide
        have hor : orI .u64 (IntKind.u64.wrap (beN (ys.take i) * pw (Int.toNat 8))) y = beN (ys.take (i + 1)) := by
          rw [be_snoc hy]
          obtain ⟨m, hm⟩ : ∃ m : Nat, beN (ys.take i) = m := ⟨(beN (ys.take i)).toNat, by omega⟩
          obtain ⟨c, hc⟩ : ∃ c : Nat, y = c := ⟨y.toNat, by omega⟩
          rw [hm, hc, show pw (Int.toNat 8) = 256 from rfl, wrap_u64 (by omega) (by omega)]
          exact or8 m c (by omega) (by omega)
        repeat' (first | (apply R.is1; first | (apply R.isBin; (apply R.pure; exact rfl; first | (apply Ok1.shl; exact rfl; exact rfl; omega; exact Nat.le_of_ble_eq_true rfl; exact rfl) | (apply Ok1.orK; exact rfl; exact rfl) | (apply Ok1.add64; exact rfl; exact rfl; omega; omega) | (apply Ok1.lss_t; exact rfl; exact rfl; omega))) | (apply R.pure; exact rfl; first | (apply Ok1.indexAddrP; (iterate 4 exact rfl); exact hpe; exact rfl; omega; omega) | (apply Ok1.load; exact rfl; apply Ld.row1 (f := 0) H; exact rfl; exact hoff _ hpe; (iterate 3 exact rfl)) | (apply Ok1.move; exact rfl) | (apply Ok1.assign; exact rfl) | (apply Ok1.convU64; (iterate 5 exact rfl); omega; omega))) | apply R.nil | (apply T.is; first | apply T.seq | apply T.region | apply T.block | apply T.skip | (apply T.cond_t; exact rfl)))
        refine ⟨i + 1, by omega, by omega, ⟨rfl, rfl, ?_, rfl, rfl, rfl, trivial⟩, by (focus ((repeat' (first | exact Keep.nil _ | exact Ext.one _ _ | apply Keep.cons)); done))⟩
        rw [← hor]; rfl
      · have hik : i = k := by omega
        subst hik
        rw [List.take_of_length_le (by omega)] at hb ⊢
        by_cases hmx : beN ys ≤ 9223372036854775807
        · rw [if_pos hmx]
          repeat' (first | (apply R.is1; first | (apply R.isBin; (apply R.pure; exact rfl; first | (apply Ok1.lss_f; exact rfl; exact rfl; omega) | (apply Ok1.gtr_t; exact rfl; exact rfl; omega) | (apply Ok1.gtr_f; exact rfl; exact rfl; omega))) | (apply R.isCall; (apply R.pure; exact rfl; (apply Ok1.lenS; (iterate 3 exact rfl)))) | (apply R.pure; exact rfl; first | (apply Ok1.move; exact rfl) | (apply Ok1.assign; exact rfl) | (apply Ok1.convI64; (iterate 5 exact rfl); omega; omega))) | apply R.nil | (apply T.is; first | apply T.seq | apply T.region | apply T.skip | apply T.exit | apply T.ret | (apply T.cond_f; exact rfl)))
          (apply RetOk.tt; exact rfl; exact rfl)
          exact ⟨_, by (focus ((repeat' (first | exact Keep.nil _ | exact Ext.one _ _ | apply Keep.cons)); done)), rfl, rfl⟩
        · rw [if_neg hmx]
          repeat' (first | (apply R.is1; first | (apply R.isBin; (apply R.pure; exact rfl; first | (apply Ok1.lss_f; exact rfl; exact rfl; omega) | (apply Ok1.gtr_t; exact rfl; exact rfl; omega))) | (apply R.isCall; (apply R.callE (Li := s1.L br); (iterate 3 exact rfl); (focus ((repeat' (exact Ext.one _ _)); done)); intro w1 hw1; exact hfl w1; rintro v Lo ⟨rfl, rfl⟩)) | (apply R.pure; exact rfl; first | (apply Ok1.move; exact rfl) | (apply Ok1.assign; exact rfl))) | apply R.nil | (apply T.is; first | apply T.seq | apply T.region | apply T.exit | apply T.ret | (apply T.cond_t; exact rfl) | (apply T.cond_f; exact rfl)))
          (apply RetOk.tt; exact rfl; exact rfl)
          exact ⟨_, by (focus ((repeat' (first | exact Keep.nil _ | exact Ext.one _ _ | apply Keep.cons)); done)), rfl, rfl⟩
/-- A field of a number. -/
def Rs.get (s : Rs) (z k : Nat) : List Value := if (s.num k).2.1 = true then fldV z (s.num k).1 else fldV 0 0
theorem rget_ok (br : Nat) (s : Rs) (z k : Nat) (hz : z ≤ 3) (hk : pw z = k) (w : World) (hs : s.ok br w) : CallM Tryz.prog 115 [.pointer (some ⟨br, 0, none⟩), .int .i64 z] (s.L br) w fun v L => v = .agg ⟨s.get z k⟩ ∧ L = (s.num k).2.2.L br := by
  have hn := fun w1 h1 => rnumber_ok br s z k hz hk w1 h1
  refine enterK (tb := tb) Tryz.func115 rfl Tryz.ntmps115 rfl ?_
  have hin : ∀ w1 S, Chg S w w1 → S = blks (s.L br) → s.ok br w1 := fun w1 S hc hS => ⟨hs.rd.chg' hc (fun h => hS ▸ hs.off h), hs.cap, hs.off, hs.byt, hs.big⟩
  rw [Rs.get]
  generalize s.num k = r at *
  obtain ⟨v1, v2, s'⟩ := r
  simp only at hn ⊢
  obtain ⟨S, hS⟩ : ∃ S, S = blks (s.L br) := ⟨_, rfl⟩
  rw [← hS]
  generalize s.L br = L0 at *
  cases v2 with
  | true =>
    repeat' (first | (apply R.is1; first | (apply R.isBin; (apply R.pure; exact rfl; first | (apply Ok1.lss_t; exact rfl; exact rfl; omega) | (apply Ok1.lss_f; exact rfl; exact rfl; omega) | (apply Ok1.gtr_f; exact rfl; exact rfl; omega) | (apply Ok1.eqlP; (iterate 5 exact rfl)))) | (apply R.isCall; (apply R.callE (Li := L0); (iterate 3 exact rfl); (focus ((repeat' (first | exact Ext.all _ | apply Ext.cons)); done)); intro w1 hw1; exact hn w1 (hin w1 _ hw1.chg hS); rintro v Lo ⟨rfl, rfl⟩)) | (apply R.pure; exact rfl; first | (apply Ok1.move; exact rfl) | (apply Ok1.fieldAddr; (iterate 5 exact rfl)) | (apply Ok1.assign; exact rfl) | (apply Ok1.build; (iterate 5 exact rfl)) | (apply Ok1.extract; exact rfl; exact rfl) | (apply Ok1.pick_f; exact rfl; exact rfl) | (apply Ok1.not_t; exact rfl) | (apply Ok1.nilCheck; exact rfl)) | (apply R.alloc; (iterate 3 exact rfl); intro)) | (apply R.is0; (apply R.store; (iterate 6 exact rfl); (focus ((repeat' (first | exact Upd.head | apply Upd.tail)); done)); exact rfl)) | (apply R.isG; (apply R.guard_run; exact rfl; exact rfl)) | apply R.nil | (apply T.is; first | apply T.seq | apply T.region | apply T.block | apply T.skip | apply T.ret | (apply T.cond_t; exact rfl) | (apply T.cond_f; exact rfl)))
    (apply RetOk.c; exact rfl; ((apply Ld.ownk; exact rfl; exact rfl; (focus ((repeat' (first | exact At.head | apply At.tail)); done)); exact rfl)))
    exact ⟨_, by (focus ((repeat' (first | exact Keep.nil _ | exact Ext.one _ _ | apply Keep.cons)); done)), rfl, rfl⟩
  | false =>
    repeat' (first | (apply R.is1; first | (apply R.isBin; (apply R.pure; exact rfl; first | (apply Ok1.lss_t; exact rfl; exact rfl; omega) | (apply Ok1.lss_f; exact rfl; exact rfl; omega) | (apply Ok1.gtr_f; exact rfl; exact rfl; omega) | (apply Ok1.eqlP; (iterate 5 exact rfl)))) | (apply R.isCall; (apply R.callE (Li := L0); (iterate 3 exact rfl); (focus ((repeat' (first | exact Ext.all _ | apply Ext.cons)); done)); intro w1 hw1; exact hn w1 (hin w1 _ hw1.chg hS); rintro v Lo ⟨rfl, rfl⟩)) | (apply R.pure; exact rfl; first | (apply Ok1.move; exact rfl) | (apply Ok1.fieldAddr; (iterate 5 exact rfl)) | (apply Ok1.assign; exact rfl) | (apply Ok1.build; (iterate 5 exact rfl)) | (apply Ok1.extract; exact rfl; exact rfl) | (apply Ok1.pick_f; exact rfl; exact rfl) | (apply Ok1.not_f; exact rfl) | (apply Ok1.nilCheck; exact rfl)) | (apply R.alloc; (iterate 3 exact rfl); intro)) | (apply R.is0; (apply R.store; (iterate 6 exact rfl); (focus ((repeat' (first | exact Upd.head | apply Upd.tail)); done)); exact rfl)) | (apply R.isG; (apply R.guard_run; exact rfl; exact rfl)) | apply R.nil | (apply T.is; first | apply T.seq | apply T.region | apply T.block | apply T.ret | (apply T.cond_t; exact rfl) | (apply T.cond_f; exact rfl)))
    (apply RetOk.c; exact rfl; ((apply Ld.ownk; exact rfl; exact rfl; (focus ((repeat' (first | exact At.head | apply At.tail)); done)); exact rfl)))
    exact ⟨_, by (focus ((repeat' (first | exact Keep.nil _ | exact Ext.one _ _ | apply Keep.cons)); done)), rfl, rfl⟩
theorem rnum_ok (br : Nat) (s : Rs) (z k : Nat) (hz : z ≤ 3) (hk : pw z = k) (w : World) (hs : s.ok br w) : CallM Tryz.prog 90 [.pointer (some ⟨br, 0, none⟩), .int .i64 z] (s.L br) w fun v L => v = .int .i64 (s.num k).1 ∧ L = (s.num k).2.2.L br := by
  have hn := fun w1 h1 => rget_ok br s z k hz hk w1 h1
  have hin : ∀ w1 S, Chg S w w1 → S = blks (s.L br) → s.ok br w1 := fun w1 S hc hS => ⟨hs.rd.chg' hc (fun h => hS ▸ hs.off h), hs.cap, hs.off, hs.byt, hs.big⟩
  have h0 : (s.num k).2.1 = false → (s.num k).1 = 0 := by
    unfold Rs.num
    split
    · exact fun _ => rfl
    · split
      · intro h; cases h
      · exact fun _ => rfl
  have hv : ∃ v0, s.get z k = [v0, .int .i64 (s.num k).1, .slice none 0 0] := by
    unfold Rs.get fldV
    cases h : (s.num k).2.1 with
    | true => exact ⟨_, rfl⟩
    | false => rw [h0 h]; exact ⟨_, rfl⟩
  obtain ⟨v0, hv⟩ := hv
  rw [hv] at hn
  refine enterK (tb := tb) Tryz.func90 rfl Tryz.ntmps90 rfl ?_
  generalize s.num k = r at *
  obtain ⟨v1, v2, s'⟩ := r
  simp only at hn ⊢
  obtain ⟨S, hS⟩ : ∃ S, S = blks (s.L br) := ⟨_, rfl⟩
  rw [← hS]
  generalize s.L br = L0 at *
  repeat' (first | (apply R.is1; first | (apply R.isBin; (apply R.pure; exact rfl; first | (apply Ok1.eql_f; exact rfl; exact rfl; omega) | (apply Ok1.neqP; (iterate 5 exact rfl)))) | (apply R.isCall; (apply R.callE (Li := L0); (iterate 3 exact rfl); (focus ((repeat' (exact Ext.all _)); done)); intro w1 hw1; exact hn w1 (hin w1 _ hw1.chg hS); rintro v Lo ⟨rfl, rfl⟩)) | (apply R.pure; exact rfl; first | (apply Ok1.move; exact rfl) | (apply Ok1.assign; exact rfl) | (apply Ok1.pick_t; exact rfl; exact rfl) | (apply Ok1.field1; (iterate 7 exact rfl)))) | (apply R.isG; (apply R.guard_run; exact rfl; exact rfl)) | apply R.nil | (apply T.is; first | apply T.seq | apply T.region | apply T.skip | apply T.ret | (apply T.cond_f; exact rfl)))
  (apply RetOk.t; exact rfl)
  exact ⟨_, by (focus ((repeat' (first | exact Keep.nil _ | exact Ext.one _ _ | apply Keep.cons)); done)), rfl, rfl⟩
theorem rerr_ok (br : Nat) (s : Rs) (w : World) (hb : w.heap[br]? = some (.cells ⟨[.slice s.q s.xs.length s.cap, .int .i64 s.e]⟩ 173 (0, 0))) : CallW Tryz.prog 91 [.pointer (some ⟨br, 0, none⟩)] w fun v _ => v = .int .i64 s.e := by
  refine enterW (tb := tb) Tryz.func91 rfl Tryz.ntmps91 rfl ?_
  repeat' (first | (apply R.is1; first | (apply R.isBin; (apply R.pure; exact rfl; (apply Ok1.eqlP; (iterate 5 exact rfl)))) | (apply R.pure; exact rfl; first | (apply Ok1.move; exact rfl) | (apply Ok1.fieldAddr; (iterate 5 exact rfl)) | (apply Ok1.load; exact rfl; (apply Ld.blk1; exact rfl; exact rfl; assumption; (exact List.not_mem_nil); exact rfl)) | (apply Ok1.assign; exact rfl) | (apply Ok1.nilCheck; exact rfl))) | apply R.nil | (apply T.is; first | apply T.seq | apply T.region | apply T.skip | apply T.ret | (apply T.cond_f; exact rfl)))
  (apply RetOk.t; exact rfl)
  rfl
theorem rleft_ok (br : Nat) (s : Rs) (w : World) (hb : w.heap[br]? = some (.cells ⟨[.slice s.q s.xs.length s.cap, .int .i64 s.e]⟩ 173 (0, 0))) : CallW Tryz.prog 57 [.pointer (some ⟨br, 0, none⟩)] w fun v _ => v = .int .i64 s.xs.length := by
  refine enterW (tb := tb) Tryz.func57 rfl Tryz.ntmps57 rfl ?_
  repeat' (first | (apply R.is1; first | (apply R.isBin; (apply R.pure; exact rfl; (apply Ok1.eqlP; (iterate 5 exact rfl)))) | (apply R.isCall; (apply R.pure; exact rfl; (apply Ok1.lenS; (iterate 3 exact rfl)))) | (apply R.pure; exact rfl; first | (apply Ok1.move; exact rfl) | (apply Ok1.fieldAddr; (iterate 5 exact rfl)) | (apply Ok1.load; exact rfl; (apply Ld.blk1; exact rfl; exact rfl; assumption; (exact List.not_mem_nil); exact rfl)) | (apply Ok1.assign; exact rfl) | (apply Ok1.nilCheck; exact rfl))) | apply R.nil | (apply T.is; first | apply T.seq | apply T.region | apply T.skip | apply T.ret | (apply T.cond_f; exact rfl)))
  (apply RetOk.t; exact rfl)
  rfl
def Rs.fin (s : Rs) : Int := if s.e ≠ 0 then s.e else if 0 < s.xs.length then 3 else 0
theorem rend_ok (br : Nat) (s : Rs) (w : World) (hb : w.heap[br]? = some (.cells ⟨[.slice s.q s.xs.length s.cap, .int .i64 s.e]⟩ 173 (0, 0))) : CallW Tryz.prog 94 [.pointer (some ⟨br, 0, none⟩)] w fun v _ => v = .int .i64 s.fin := by
  have h1 := fun w1 (hc : Chg [] w w1) => rerr_ok br s w1 (hc.heap hb List.not_mem_nil)
  have h2 := fun w1 (hc : Chg [] w w1) => rleft_ok br s w1 (hc.heap hb List.not_mem_nil)
  refine enterW (tb := tb) Tryz.func94 rfl Tryz.ntmps94 rfl ?_
  rw [Rs.fin]
  by_cases he : s.e = 0
  · rw [if_neg (fun h => h he)]
    rw [he] at h1
    by_cases hx : 0 < s.xs.length
    · rw [if_pos hx]
      repeat' (first | (apply R.is1; first | (apply R.isBin; (apply R.pure; exact rfl; first | (apply Ok1.gtr_t; exact rfl; exact rfl; omega) | (apply Ok1.neq_f; exact rfl; exact rfl; omega))) | (apply R.isCall; (apply R.callV; (iterate 3 exact rfl); intro w1 hw1; first | exact h1 w1 hw1.chg | exact h2 w1 hw1.chg)) | (apply R.pure; exact rfl; first | (apply Ok1.move; exact rfl) | (apply Ok1.assign; exact rfl))) | apply R.nil | (apply T.is; first | apply T.seq | apply T.region | apply T.skip | apply T.ret | (apply T.cond_t; exact rfl) | (apply T.cond_f; exact rfl)))
      (apply RetOk.t; exact rfl)
      rfl
    · rw [if_neg hx]
      repeat' (first | (apply R.is1; first | (apply R.isBin; (apply R.pure; exact rfl; first | (apply Ok1.gtr_f; exact rfl; exact rfl; omega) | (apply Ok1.neq_f; exact rfl; exact rfl; omega))) | (apply R.isCall; (apply R.callV; (iterate 3 exact rfl); intro w1 hw1; first | exact h1 w1 hw1.chg | exact h2 w1 hw1.chg)) | (apply R.pure; exact rfl; first | (apply Ok1.move; exact rfl) | (apply Ok1.assign; exact rfl))) | apply R.nil | (apply T.is; first | apply T.seq | apply T.region | apply T.skip | apply T.ret | (apply T.cond_f; exact rfl)))
      (apply RetOk.t; exact rfl)
      rfl
  · rw [if_pos he]
    repeat' (first | (apply R.is1; first | (apply R.isBin; (apply R.pure; exact rfl; (apply Ok1.neq_t; exact rfl; exact rfl; omega))) | (apply R.isCall; (apply R.callV; (iterate 3 exact rfl); intro w1 hw1; exact h1 w1 hw1.chg)) | (apply R.pure; exact rfl; first | (apply Ok1.move; exact rfl) | (apply Ok1.assign; exact rfl))) | apply R.nil | (apply T.is; first | apply T.seq | apply T.region | apply T.ret | (apply T.cond_t; exact rfl)))
    (apply RetOk.t; exact rfl)
    rfl
/-- A reader whose bytes lie in known blocks. -/
structure RsO (s : Rs) (M : Lst) : Prop where
  rd : ∀ (w0 w : World) (S : List Nat) (L' : Lst), Hp w0 S L' w → (∀ z ∈ M, z ∈ L') → RdSl w s.q u8V s.xs
  adr : s.xs ≠ [] → ∃ b o, s.q = some ⟨b, o, none⟩ ∧ b ∈ blks M
  cap : s.xs.length ≤ s.cap
  byt : Byt s.xs
  big : s.xs.length ≤ 1000000000
theorem RsO.ok {s : Rs} {M : Lst} (h : RsO s M) {br : Nat} {w0 w : World} {S : List Nat} {L Lr : Lst} (hw : Hp w0 S L w) (he : Ext L (s.L br) Lr) (hin : ∀ z ∈ M, z ∈ Lr) : s.ok br w := by
  refine ⟨h.rd _ _ _ _ hw fun z hz => he.perm.subset (List.mem_append_right _ (hin z hz)), h.cap, fun hne a ha => ?_, h.byt, h.big⟩
  obtain ⟨b, o, hp, hb⟩ := h.adr hne
  rw [hp] at ha
  cases ha
  obtain ⟨z, hz, hze⟩ := List.mem_map.1 hb
  obtain ⟨zb, zo⟩ := z
  simp only at hze
  subst hze
  exact RdSl.off hw he (hin _ hz)
theorem RsO.fail {s : Rs} {M : Lst} (h : RsO s M) (e : Int) : RsO (s.fail e) M := by
  unfold Rs.fail
  split
  · exact ⟨fun _ _ _ _ _ _ => .inl rfl, (fun h => absurd rfl h), Nat.zero_le _, (fun y hy => by cases hy), Nat.zero_le _⟩
  · exact h
theorem RsO.drop {s : Rs} {M : Lst} (h : RsO s M) {k : Nat} (hk : k ≤ s.xs.length) : RsO (s.drop k) M := by
  refine ⟨fun w0 w S L' hw hin => (h.rd w0 w S L' hw hin).suf u8V_len hk h.cap, fun hne => ?_, ?_, fun y hy => h.byt y (List.mem_of_mem_drop hy), ?_⟩
  · have h1 : s.xs ≠ [] := by intro h0; apply hne; simp [Rs.drop, h0]
    obtain ⟨b, o, hp, hb⟩ := h.adr h1
    by_cases hc : s.cap = k
    · exfalso; apply hne; simp only [Rs.drop]; exact List.drop_of_length_le (by have := h.cap; omega)
    · exact ⟨b, o + k * 1, by simp [Rs.drop, sufP, hc, hp, Addr.add_none], hb⟩
  · have := h.cap; simp only [Rs.drop, List.length_drop]; omega
  · have := h.big; simp only [Rs.drop, List.length_drop]; omega
theorem RsO.num {s : Rs} {M : Lst} (h : RsO s M) (k : Nat) : RsO (s.num k).2.2 M := by
  unfold Rs.num
  split
  · exact h.fail 4
  · rename_i hn
    have hk : k ≤ s.xs.length := Nat.le_of_not_lt fun h1 => hn (.inr h1)
    split
    · exact h.drop hk
    · exact (h.drop hk).fail 3
theorem ovc_leR {n : Nat} {ov : Ov} {xs : List Value} (h : OvOk 1 ov n xs) : n ≤ ovc ov n := by
  unfold ovc
  cases ov with
  | none => have := h.2; simp only at this ⊢; omega
  | some q => simp only; omega
theorem rnewr_ok (p : Option Addr) (n cap : Nat) (xs : List Int) (hn : n = xs.length) (hbig : n ≤ 1000000000) (hb : Byt xs) (w : World) (hp : RdSl w p u8V xs) :
    CallM Tryz.prog 53 [.slice p n cap] [] w fun v L => ∃ br s M, v = .pointer (some ⟨br, 0, none⟩) ∧ s.xs = (if n ≤ 1024 then xs else []) ∧ s.e = (if n ≤ 1024 then 0 else 2) ∧ RsO s M ∧ L = s.L br ++ M := by
  have hcl := fun w1 (hc : Chg [] w w1) => clone_ok p n cap xs hn hbig w1 (hp.chg' hc (fun _ => Off.nil _))
  subst hn
  have hro : ∀ ov, OvOk 1 ov xs.length (u8s xs) → RsO ⟨ovp ov, ovc ov xs.length, xs, 0⟩ (blkL 5 ov (u8s xs)) := fun ov hov => by
    rw [← fl_u8] at hov ⊢
    refine ⟨fun w0 w S L' hw hin => RdSl.own' hw hin hov u8V_len, fun hne => ?_, ?_, hb, hbig⟩
    · cases ov with
      | none => exact absurd (List.eq_nil_of_length_eq_zero hov.2) hne
      | some q => exact ⟨_, _, rfl, by simp [blks, blkL]⟩
    · exact ovc_leR hov
  refine enterK (tb := tb) Tryz.func53 rfl Tryz.ntmps53 rfl ?_
  by_cases hl : xs.length ≤ 1024
  · repeat' (first | (apply R.is1; first | (apply R.isBin; (apply R.pure; exact rfl; (apply Ok1.gtr_f; exact rfl; exact rfl; omega))) | (apply R.isCall; first | (apply R.callE; (iterate 3 exact rfl); exact Ext.none _; intro w1 hw1; exact hcl w1 hw1.chg; rintro v Lo ⟨ov, hov, hsome, rfl, rfl⟩; rw [slV_eq hov]) | (apply R.pure; exact rfl; (apply Ok1.lenS; (iterate 3 exact rfl)))) | (apply R.pure; exact rfl; first | (apply Ok1.move; exact rfl) | (apply Ok1.assign; exact rfl) | (apply Ok1.build; (iterate 5 exact rfl))) | (apply R.box; (iterate 3 exact rfl); intro)) | apply R.nil | (apply T.is; first | apply T.seq | apply T.region | apply T.skip | apply T.ret | (apply T.cond_f; exact rfl)))
    (apply RetOk.t; exact rfl)
    refine ⟨_, ?_, _, ⟨ovp ov, ovc ov xs.length, xs, 0⟩, _, rfl, by simp only [if_pos hl], by simp only [if_pos hl], hro ov hov, rfl⟩
    simp only [Rs.L, List.append_nil, List.cons_append, List.nil_append]
    (focus ((repeat' (first | exact Ext.one _ _ | exact Ext.all _ | apply Keep.cons | apply Keep.last)); done))
  · repeat' (first | (apply R.is1; first | (apply R.isBin; (apply R.pure; exact rfl; (apply Ok1.gtr_t; exact rfl; exact rfl; omega))) | (apply R.isCall; first | (apply R.callE (vs := [.slice p xs.length cap]); (iterate 3 exact rfl); exact Ext.none _; intro w1 hw1; exact hcl w1 hw1.chg; rintro v Lo ⟨ov, hov, hsome, rfl, rfl⟩; rw [slV_eq hov]) | (apply R.callE (Li := [(_, .cells ⟨[.slice (ovp ov) xs.length (ovc ov xs.length), .int .i64 0]⟩ 173 (0, 0))]); (iterate 3 exact rfl); (focus ((repeat' (exact Ext.one _ _)); done)); intro w1 hw1; exact rfail_ok _ ⟨ovp ov, ovc ov xs.length, xs, 0⟩ 2 w1; rintro v Lo ⟨rfl, rfl⟩) | (apply R.pure; exact rfl; (apply Ok1.lenS; (iterate 3 exact rfl)))) | (apply R.pure; exact rfl; first | (apply Ok1.move; exact rfl) | (apply Ok1.fieldAddr; (iterate 5 exact rfl)) | (apply Ok1.assign; exact rfl) | (apply Ok1.build; (iterate 5 exact rfl)) | (apply Ok1.nilCheck; exact rfl)) | (apply R.box; (iterate 3 exact rfl); intro)) | apply R.nil | (apply T.is; first | apply T.seq | apply T.region | apply T.ret | (apply T.cond_t; exact rfl)))
    (apply RetOk.t; exact rfl)
    refine ⟨_, ?_, _, (⟨ovp ov, ovc ov xs.length, xs, 0⟩ : Rs).fail 2, _, rfl, by simp only [if_neg hl, Rs.fail, if_pos], by simp only [if_neg hl, Rs.fail, if_pos], (hro ov hov).fail 2, rfl⟩
    simp only [Rs.L, List.append_nil, List.cons_append, List.nil_append]
    (focus ((repeat' (first | exact Ext.one _ _ | exact Ext.all _ | apply Keep.cons | apply Keep.last)); done))
end Go.Proofs.YtplhnkmmhndkjaaGreat
set_option linter.unusedSimpArgs false
set_option linter.unusedVariables false
namespace Go.Proofs.YtplhnkmmhndkjaaGreat
open Go.RowKit Go.Shelf
set_option maxRecDepth 100000
/-- What is left behind so many numbers of two bytes, and these. -/
def Rs.st (s : Rs) : Nat → Rs
  | 0 => s
  | k + 1 => if (s.st k).e = 0 then ((s.st k).num 2).2.2 else s.st k
def Rs.vs (s : Rs) (n : Nat) : List Int := (List.range n).map fun k => ((s.st k).num 2).1
theorem Rs.vs_snoc (s : Rs) (n : Nat) : s.vs (n + 1) = s.vs n ++ [((s.st n).num 2).1] := by simp [Rs.vs, List.range_succ]
theorem RsO.st {s : Rs} {M : Lst} (h : RsO s M) (n : Nat) : RsO (s.st n) M := by
  induction n with
  | zero => exact h
  | succ n ih =>
    rw [Rs.st]
    split
    · exact ih.num 2
    · exact ih
theorem RsO.ok' {s : Rs} {M : Lst} (h : RsO s M) (br : Nat) : ∀ (w0 w : World) (S : List Nat) (L Lr : Lst), Hp w0 S L w → Ext L (s.L br) Lr → (∀ z ∈ M, z ∈ Lr) → s.ok br w := fun _ _ _ _ _ a b c => h.ok a b c
theorem u2 : pw 1 = 2 := rfl
theorem suf0 (p : Option Addr) (c : Nat) : sufP p c 0 1 = p := by
  unfold sufP
  split
  · rfl
  · cases p <;> simp [Addr.add]
theorem DlO.own {d : Dl} {L : Lst} (h : DlO d L) {ov : Ov} {xs : List Int} (hov : OvOk 1 ov xs.length (iis xs)) (f : Int) : DlO (d ++ [(f, ⟨ovp ov, ovc ov xs.length, xs⟩)]) (blkL 3 ov (iis xs) ++ L) := by
  have := h.snoc hov f (k := 0) (c := ovc ov xs.length) (m := ovc ov xs.length) (Nat.zero_le _) (ovc_le hov) (by have := ovc_le hov; omega)
  rwa [suf0, List.drop_zero] at this
theorem DlO.mono {d : Dl} {L L' : Lst} (h : DlO d L) (hs : ∀ z ∈ L, z ∈ L') : DlO d L' :=
  ⟨h.cap, fun x hx hne => by obtain ⟨b, o, h1, h2⟩ := h.adr x hx hne; obtain ⟨z, hz, e⟩ := List.mem_map.1 h2; exact ⟨b, o, h1, List.mem_map.2 ⟨z, hs z hz, e⟩⟩, fun w0 w S L' hw hin => h.rd w0 w S L' hw fun z hz => hin z (hs z hz)⟩
def nod : Dl := List.replicate 4 (0, ⟨none, 0, []⟩)
end Go.Proofs.YtplhnkmmhndkjaaGreat
set_option linter.unusedSimpArgs false
set_option linter.unusedVariables false
namespace Go.Proofs.YtplhnkmmhndkjaaGreat
open Go.RowKit Go.Shelf
structure Rs.is (s : Rs) (xs : List Int) (e : Int) : Prop where
  xs : s.xs = xs
  e : s.e = e
/-- Two readers with the same bytes. -/
def Rs.eqv (s t : Rs) : Prop := s.xs = t.xs ∧ s.e = t.e
theorem Rs.eqv.fail {s t : Rs} (h : s.eqv t) (e : Int) : (s.fail e).eqv (t.fail e) := by
  unfold Rs.fail
  rw [h.2]
  split
  · exact ⟨rfl, rfl⟩
  · exact h
theorem Rs.eqv.drop {s t : Rs} (h : s.eqv t) (k : Nat) : (s.drop k).eqv (t.drop k) := ⟨by simp only [Rs.drop]; rw [h.1], h.2⟩
theorem Rs.eqv.num {s t : Rs} (h : s.eqv t) (k : Nat) : (s.num k).1 = (t.num k).1 ∧ (s.num k).2.1 = (t.num k).2.1 ∧ (s.num k).2.2.eqv (t.num k).2.2 := by
  unfold Rs.num
  rw [h.1, h.2]
  split
  · exact ⟨rfl, rfl, h.fail 4⟩
  · split
    · exact ⟨rfl, rfl, h.drop k⟩
    · exact ⟨rfl, rfl, (h.drop k).fail 3⟩
theorem Rs.eqv.st {s t : Rs} (h : s.eqv t) (n : Nat) : (s.st n).eqv (t.st n) ∧ s.vs n = t.vs n := by
  induction n with
  | zero => exact ⟨h, rfl⟩
  | succ n ih =>
    obtain ⟨h1, h2⟩ := ih
    obtain ⟨h3, _, h4⟩ := h1.num 2
    refine ⟨?_, by rw [Rs.vs_snoc, Rs.vs_snoc, h2, h3]⟩
    rw [Rs.st, Rs.st, h1.2]
    split
    · exact h4
    · exact h1
theorem Rs.eqv.fin {s t : Rs} (h : s.eqv t) : s.fin = t.fin := by unfold Rs.fin; rw [h.1, h.2]
end Go.Proofs.YtplhnkmmhndkjaaGreat
