/- Contracts of revoke: a set's logs read. -/
import Derived.Test.YtligpachgcmkcaaSl6
set_option linter.unusedSimpArgs false
set_option linter.unusedVariables false
namespace Go.Proofs.Ytligpachgcmkcaa
open Go.RowKit Go.Shelf
set_option maxRecDepth 100000

/-- A set: four logs. -/
def setV (gs : List Lg) : List Value := gs.map Lg.v
def LsL (gs : List Lg) : Lst := gs.flatMap Lg.L
def SetL (bs : Nat) (gs : List Lg) : Lst := (bs, .cells ⟨setV gs⟩ 103 (0, 0)) :: LsL gs
structure GOk (gs : List Lg) : Prop where
  len : gs.length = 4
  ok : ∀ g ∈ gs, g.ok
  le : ∀ g ∈ gs, g.xs.length ≤ 256
def lgs (gs : List Lg) : List (List Int) := gs.map Lg.xs
def lcat (gs : List Lg) : List Int := gs.flatMap Lg.xs
structure SetR (w : World) (bs : Nat) (gs : List Lg) : Prop where
  b : w.heap[bs]? = some (.cells ⟨setV gs⟩ 103 (0, 0))
  rd : ∀ g ∈ gs, RdSl w (ovp g.ov) iV g.xs
theorem mem_LsL {gs : List Lg} {g : Lg} (h : g ∈ gs) {x : Nat × Obj} (hx : x ∈ g.L) : x ∈ LsL gs := List.mem_flatMap.2 ⟨g, h, hx⟩
theorem SetR.of {bs : Nat} {gs : List Lg} (hg : GOk gs) {w0 w : World} {S : List Nat} {L : Lst} (hw : Hp w0 S L w) (hin : ∀ x ∈ SetL bs gs, x ∈ L) : SetR w bs gs :=
  ⟨hw.get _ _ (hin _ List.mem_cons_self), fun g h => Lg.rd (hg.ok g h) hw fun x hx => hin _ (List.mem_cons_of_mem _ (mem_LsL h hx))⟩
theorem SetR.chg {bs : Nat} {gs : List Lg} {w w' : World} (h : SetR w bs gs) (hc : Chg [] w w') : SetR w' bs gs :=
  ⟨hc.heap h.b List.not_mem_nil, fun g hm => (h.rd g hm).chg' hc (fun _ => Off.nil _)⟩
theorem setV_get {gs : List Lg} {i : Nat} {g : Lg} (h : gs[i]? = some g) (hk : g.ok) : (setV gs)[0 + i * 1]? = some (.slice (ovp g.ov) g.xs.length (ovc g.ov g.xs.length)) := by
  rw [Nat.zero_add, Nat.mul_one, setV, List.getElem?_map, h, Option.map_some, Lg.v_eq hk]
theorem log_nil (i : Int) : CallP Try.prog 26 [.pointer none, .int .i64 i] (.slice none 0 0) := by
  refine enterP (tb := tb) Try.func26 rfl Try.ntmps26 rfl fun w => ?_
  repeat' (first | (apply R.is1; first | (apply R.isBin; (apply R.pure; exact rfl; (apply Ok1.eqlP; (iterate 5 exact rfl)))) | (apply R.pure; exact rfl; first | (apply Ok1.move; exact rfl) | (apply Ok1.assign; exact rfl) | (apply Ok1.pick_t; exact rfl; exact rfl))) | (apply R.isG; (apply R.guard_not; (iterate 3 exact rfl))) | apply R.nil | (apply T.is; first | apply T.seq | apply T.region | apply T.ret | (apply T.cond_t; exact rfl)))
  all_goals (apply RetOk.t; exact rfl)
  all_goals rfl
theorem log_off (bs : Nat) (i : Int) (h : i < 0 ∨ 4 ≤ i) : CallP Try.prog 26 [.pointer (some ⟨bs, 0, none⟩), .int .i64 i] (.slice none 0 0) := by
  refine enterP (tb := tb) Try.func26 rfl Try.ntmps26 rfl fun w => ?_
  rcases h with h | h
  · repeat' (first | (apply R.is1; first | (apply R.isBin; (apply R.pure; exact rfl; first | (apply Ok1.lss_t; exact rfl; exact rfl; omega) | (apply Ok1.eqlP; (iterate 5 exact rfl)))) | (apply R.pure; exact rfl; first | (apply Ok1.move; exact rfl) | (apply Ok1.assign; exact rfl) | (apply Ok1.pick_t; exact rfl; exact rfl) | (apply Ok1.pick_f; exact rfl; exact rfl))) | (apply R.isG; first | (apply R.guard_run; exact rfl; exact rfl) | (apply R.guard_not; (iterate 3 exact rfl))) | apply R.nil | (apply T.is; first | apply T.seq | apply T.region | apply T.ret | (apply T.cond_t; exact rfl)))
    all_goals (apply RetOk.t; exact rfl)
    all_goals rfl
  · repeat' (first | (apply R.is1; first | (apply R.isBin; (apply R.pure; exact rfl; first | (apply Ok1.lss_f; exact rfl; exact rfl; omega) | (apply Ok1.geq_t; exact rfl; exact rfl; omega) | (apply Ok1.eqlP; (iterate 5 exact rfl)))) | (apply R.pure; exact rfl; first | (apply Ok1.move; exact rfl) | (apply Ok1.assign; exact rfl) | (apply Ok1.pick_f; exact rfl; exact rfl))) | (apply R.isG; (apply R.guard_run; exact rfl; exact rfl)) | apply R.nil | (apply T.is; first | apply T.seq | apply T.region | apply T.ret | (apply T.cond_t; exact rfl)))
    all_goals (apply RetOk.t; exact rfl)
    all_goals rfl
theorem log_ok (bs : Nat) (gs : List Lg) (hg : GOk gs) (i : Nat) (g : Lg) (hi : gs[i]? = some g) (w : World) (hs : SetR w bs gs) :
    CallM Try.prog 26 [.pointer (some ⟨bs, 0, none⟩), .int .i64 i] [] w fun v L => ∃ ov, OvOk 1 ov g.xs.length (iis g.xs) ∧ v = slV ov g.xs.length ∧ L = blkL 3 ov (iis g.xs) := by
  have hlt : i < 4 := by rw [← hg.len]; exact (List.getElem?_eq_some_iff.1 hi).1
  have hm := List.mem_of_getElem? hi
  have hcell := setV_get hi (hg.ok g hm)
  have hle := hg.le g hm
  have hrd := hs.rd g hm
  have hb := hs.b
  have hcl := fun w1 (hc : Chg [] w w1) => iclone_ok (ovp g.ov) g.xs.length (ovc g.ov g.xs.length) g.xs rfl (by omega) w1 (hrd.chg' hc (fun _ => Off.nil _))
  refine enterK (tb := tb) Try.func26 rfl Try.ntmps26 rfl ?_
  repeat' (first | (apply R.is1; first | (apply R.isBin; (apply R.pure; exact rfl; first | (apply Ok1.lss_f; exact rfl; exact rfl; omega) | (apply Ok1.geq_f; exact rfl; exact rfl; omega) | (apply Ok1.eqlP; (iterate 5 exact rfl)))) | (apply R.isCall; (apply R.callE (vs := [.slice (ovp g.ov) g.xs.length (ovc g.ov g.xs.length)]); (iterate 3 exact rfl); exact Ext.none _; intro w1 hw1; exact hcl w1 hw1.chg; rintro v Lo ⟨ov, hov, _, rfl, rfl⟩)) | (apply R.pure; exact rfl; first | (apply Ok1.load; exact rfl; apply Ld.blk1; exact rfl; exact rfl; exact hb; exact List.not_mem_nil; exact hcell) | (apply Ok1.move; exact rfl) | (apply Ok1.fieldAddr; (iterate 5 exact rfl)) | (apply Ok1.assign; exact rfl) | (apply Ok1.indexAddrA; (iterate 5 exact rfl); omega; omega) | (apply Ok1.pick_f; exact rfl; exact rfl) | (apply Ok1.nilCheck; exact rfl))) | (apply R.isG; (apply R.guard_run; exact rfl; exact rfl)) | apply R.nil | (apply T.is; first | apply T.seq | apply T.region | apply T.skip | apply T.ret | (apply T.cond_f; exact rfl)))
  all_goals (apply RetOk.t; exact rfl)
  all_goals exact ⟨_, by (focus ((repeat' (first | exact Ext.here _ _ | apply Keep.last)); done)), ov, hov, rfl, rfl⟩
def lens (gs : List Lg) : List Value := gs.map fun g => .int .i64 g.xs.length
theorem versions_nil : CallP Try.prog 14 [.pointer none] (.agg ⟨[.int .i64 0, .int .i64 0, .int .i64 0, .int .i64 0]⟩) := by
  have h := log_nil
  refine enterP (tb := tb) Try.func14 rfl Try.ntmps14 rfl fun w => ?_
  repeat' (first | (apply R.is1; first | (apply R.isBin; (apply R.pure; exact rfl; first | (apply Ok1.add64; exact rfl; exact rfl; omega; omega) | (apply Ok1.lss_t; exact rfl; exact rfl; omega) | (apply Ok1.lss_f; exact rfl; exact rfl; omega))) | (apply R.isCall; first | apply R.callP rfl rfl rfl (h _) | (apply R.pure; exact rfl; (apply Ok1.lenS; (iterate 3 exact rfl)))) | (apply R.pure; exact rfl; first | (apply Ok1.move; exact rfl) | (apply Ok1.load; exact rfl; (apply Ld.ownk; exact rfl; exact rfl; exact At.head; exact rfl)) | (apply Ok1.assign; exact rfl) | (apply Ok1.indexAddrA; (iterate 5 exact rfl); omega; omega)) | (apply R.alloc; (iterate 3 exact rfl); intro)) | (apply R.is0; (apply R.store; (iterate 6 exact rfl); (focus ((repeat' (first | exact Upd.head | apply Upd.tail)); done)); exact rfl)) | apply R.nil | (apply T.is; first | apply T.rounds 5 | apply T.seq | apply T.region | apply T.block | apply T.skip | apply T.exit | apply T.ret | (apply T.cond_t; exact rfl) | (apply T.cond_f; exact rfl)))
  all_goals (apply RetOk.c; exact rfl; ((apply Ld.ownk; exact rfl; exact rfl; (focus ((repeat' (first | exact At.head | apply At.tail)); done)); exact rfl)))
  all_goals rfl
theorem versions_ok (bs : Nat) (gs : List Lg) (hg : GOk gs) (w : World) (hs : SetR w bs gs) :
    CallW Try.prog 14 [.pointer (some ⟨bs, 0, none⟩)] w fun v _ => v = .agg ⟨lens gs⟩ := by
  have hlog := fun i g hi w1 (hc : Chg [] w w1) => log_ok bs gs hg i g hi w1 (hs.chg hc)
  match gs, hg.len with
  | [a, b, c, d], _ =>
  have h0 := hlog 0 a rfl
  have h1 := hlog 1 b rfl
  have h2 := hlog 2 c rfl
  have h3 := hlog 3 d rfl
  clear hlog
  refine enterW (tb := tb) Try.func14 rfl Try.ntmps14 rfl ?_
  repeat' (first | (apply R.is1; first | (apply R.isBin; (apply R.pure; exact rfl; first | (apply Ok1.add64; exact rfl; exact rfl; omega; omega) | (apply Ok1.lss_t; exact rfl; exact rfl; omega) | (apply Ok1.lss_f; exact rfl; exact rfl; omega))) | (apply R.isCall; first | (apply R.callE; (iterate 3 exact rfl); exact Ext.none _; (first | (intro w1 hw1; exact h0 w1 hw1.chg) | (intro w1 hw1; exact h1 w1 hw1.chg) | (intro w1 hw1; exact h2 w1 hw1.chg) | (intro w1 hw1; exact h3 w1 hw1.chg)); rintro v Lo ⟨ov, hov, rfl, rfl⟩) | (apply R.pure; exact rfl; apply Ok1.lenOv; (iterate 3 exact rfl); exact hov)) | (apply R.pure; exact rfl; first | (apply Ok1.move; exact rfl) | (apply Ok1.load; exact rfl; (apply Ld.ownk; exact rfl; exact rfl; (focus ((repeat' (first | exact At.head | apply At.right)); done)); exact rfl)) | (apply Ok1.assign; exact rfl) | (apply Ok1.indexAddrA; (iterate 5 exact rfl); omega; omega)) | (apply R.alloc; (iterate 3 exact rfl); intro)) | (apply R.is0; (apply R.store; (iterate 6 exact rfl); (focus ((repeat' (first | exact Upd.head | apply Upd.tail | apply Upd.right)); done)); exact rfl)) | apply R.nil | (apply T.is; first | apply T.rounds 5 | apply T.seq | apply T.region | apply T.block | apply T.skip | apply T.exit | apply T.ret | (apply T.cond_t; exact rfl) | (apply T.cond_f; exact rfl)))
  all_goals (apply RetOk.c; exact rfl; ((apply Ld.ownk; exact rfl; exact rfl; (focus ((repeat' (first | exact At.head | apply At.tail | apply At.right)); done)); exact rfl)))
  all_goals rfl
end Go.Proofs.Ytligpachgcmkcaa
