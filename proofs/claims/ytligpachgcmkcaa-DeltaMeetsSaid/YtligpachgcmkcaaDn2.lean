/- The statement DeltaNil: its walk. -/
import Derived.Test.YtligpachgcmkcaaDn1
set_option linter.unusedSimpArgs false
set_option linter.unusedVariables false
namespace Go.Proofs.Ytligpachgcmkcaa
open Go.RowKit Go.Shelf
set_option maxRecDepth 100000

theorem sub_tail : ∀ {xs ys : List Value} {n m : Nat}, xs.length = n → ys.length = m → subE (xs ++ ys) n m = some ys
  | [], ys, n, m, h, h2 => by simp at h; subst h; exact subE_all h2
  | x :: xs, ys, n, m, h, h2 => by
    cases n with
    | zero => simp at h
    | succ n =>
      have := sub_tail (xs := xs) (ys := ys) (n := n) (m := m) (by simpa using h) h2
      cases m with
      | zero =>
        have : ys = [] := List.eq_nil_of_length_eq_zero h2
        subst this
        rfl
      | succ k => exact this
section
variable {X : Cx} {σ : Env} {L : Lst} {ty t : TypeId} {pos : String} {af : Array Edge} {x y : Operand} {r : TRow} {xs ys : List Value} {ks : List TK}
theorem Ok1.neqFq2 {d : Option Nat} {g : Option (Nat × Bool)} {ty2 : TypeId} {q : Bool} (hx : ev σ x = some (.agg ⟨xs⟩)) (hy : ev σ y = some (.agg ⟨ys⟩)) (ht : X.tb.row t = some r) (hk : r.k.agg = some true) (hf : flatE X.tb 8 t = some ks) (h1 : allOk ks xs = true) (h2 : allOk ks ys = true) (hq : xs = ys ↔ q = true) :
    Ok1 X ⟨d, .binOp .neq t x y ty2, ty, pos, af, g⟩ σ L (.bool (!q)) := by
  have h := Ok1.neqF (X := X) (L := L) (ty2 := ty2) (d := d) (ty := ty) (pos := pos) (af := af) (g := g) hx hy ht hk hf h1 h2
  have e : ∀ (i : Decidable (xs ≠ ys)), @decide (xs ≠ ys) i = !q := by intro i; cases q <;> simp_all
  rw [e] at h
  exact h
end
theorem alike_gen (s : Value) (vs p8 vs' p8' : List Int) (hv : vs.length = 4) (hp : p8.length = 8) (hv' : vs'.length = 4) (hp' : p8'.length = 8) (w : World) (hof : ∀ w1, Chg [] w w1 → CallW Try.prog 44 [s] w1 fun v _ => v = .agg ⟨dgV vs p8⟩) :
    CallW Try.prog 77 [s, .agg ⟨dgV vs' p8'⟩] w fun v _ => v = .bool (decide (vs = vs' ∧ p8 = p8')) := by
  have hdl := dg_len hv' hp'
  have hf1 := dg_flat hv hp
  have hf2 := dg_flat hv' hp'
  obtain ⟨q, hq⟩ : ∃ q, decide (vs = vs' ∧ p8 = p8') = q := ⟨_, rfl⟩
  have hq2 : dgV vs p8 = dgV vs' p8' ↔ q = true := by rw [← hq, decide_eq_true_iff]; exact dg_inj (by rw [hv, hv'])
  rw [hq]
  generalize dgV vs p8 = D at *
  generalize dgV vs' p8' = D' at *
  refine enterW (tb := tb) Try.func77 rfl Try.ntmps77 rfl ?_
  repeat' (first | (apply R.is1; first | (apply R.pure; exact rfl; (apply Ok1.assign; exact rfl)) | (apply R.box; (iterate 3 exact rfl); intro)) | apply R.nil | (apply T.is; first | (apply T.drawC (id := 1) [0] (by decide); ((apply A.take 0; exact rfl; exact rfl; kernel_rfl; kernel_rfl; kernel_rfl; (apply Ok1.move; exact rfl)) <;> (apply A.call 1; exact rfl; exact rfl; kernel_rfl; kernel_rfl; kernel_rfl; exact rfl; exact rfl; (exact fun w1 hw1 => hof w1 hw1.chg)) <;> (apply A.take 2; exact rfl; exact rfl; kernel_rfl; kernel_rfl; kernel_rfl; (apply Ok1.load; exact rfl; apply Ld.ownk; exact rfl; exact rfl; exact At.head; exact subE_all hdl)) <;> ((apply A.take 3; exact rfl; exact rfl; kernel_rfl; kernel_rfl; kernel_rfl; (apply Ok1.eqlFq2; (iterate 5 exact rfl); exact hf1; exact hf2; exact hq2))) <;> (apply A.take 4; exact rfl; exact rfl; kernel_rfl; kernel_rfl; kernel_rfl; (apply Ok1.assign; exact rfl)) <;> (apply A.done; kernel_rfl))) | apply T.seq | apply T.region | apply T.ret))
  all_goals (apply RetOk.t; exact rfl)
  all_goals rfl
theorem known9_ok (w : World) : CallM Try.prog 48 [] [] w fun v L => v = .bool true ∧ L = [] := by
  have hal : ∀ bs w1, SetR w1 bs [lg0, lg0, lg0, lg0] → CallW Try.prog 77 [.pointer (some ⟨bs, 0, none⟩), .agg ⟨dgV [0, 0, 0, 0] d0P⟩] w1 fun v _ => v = .bool true := by
    intro bs w1 hs
    have h := alike_gen (.pointer (some ⟨bs, 0, none⟩)) [0, 0, 0, 0] d0P [0, 0, 0, 0] d0P rfl d0P_len rfl d0P_len w1 fun w2 hc => dOf_new bs w2 (hs.chg hc)
    rw [decide_eq_true ⟨rfl, rfl⟩] at h
    exact h
  have hdl := dg_len (vs := [0, 0, 0, 0]) rfl d0P_len
  have hdo := dg_one [0, 0, 0, 0] d0P
  have hset : ∀ cs : List Value, cs.length = 12 → setE cs 0 (dgV [0, 0, 0, 0] d0P) = some (dgV [0, 0, 0, 0] d0P) := fun cs h => setE_all (by rw [hdl, h])
  have hs4 : subE (dgV [0, 0, 0, 0] d0P) 0 4 = some [.int .i64 0, .int .i64 0, .int .i64 0, .int .i64 0] := subE_app _ _ rfl
  have hs8 : subE (dgV [0, 0, 0, 0] d0P) 4 8 = some (u8s d0P) := sub_tail rfl (by rw [u8s_len, d0P_len])
  have hsa := subE_all hdl
  have hne : u8s d0P = u8s [0, 0, 0, 0, 0, 0, 0, 0] ↔ false = true := ⟨fun e => absurd (u8i_inj e) d0P_ne, fun e => by cases e⟩
  have hf8 : allOk (repK [.int .u8] 8) (u8s d0P) = true := by
    have h := d0P_len
    generalize d0P = l at h
    match l, h with
    | [x0, x1, x2, x3, x4, x5, x6, x7], _ => rfl
  have hofn := dOf_new
  generalize dgV [0, 0, 0, 0] d0P = D at *
  generalize u8s d0P = P at *
  refine enterK (tb := tb) Try.func48 rfl Try.ntmps48 rfl ?_
  repeat' (first | (apply R.is1; first | (apply R.isCall; first | (apply R.callE (vs := []); (iterate 3 exact rfl); exact Ext.none _; intro w1 hw1; exact rnew_ok w1; rintro v Lo ⟨bs, rfl, rfl⟩) | (apply R.callV (vs := [.pointer (some ⟨bs, 0, none⟩)]); (iterate 3 exact rfl); intro w1 hw1; exact hofn bs w1 (SetR.of GOk.new hw1 (Ext.mem (by (focus ((repeat' (exact Ext.one _ _)); done))))))) | (apply R.pure; exact rfl; (apply Ok1.assign; exact rfl)) | (apply R.alloc; (iterate 3 exact rfl); intro)) | (apply R.is0; (apply R.store; (iterate 4 exact rfl); exact hdl; exact hdo; exact Upd.head; exact hset _ rfl)) | apply R.nil | (apply T.is; first | (apply T.drawC (id := 2) [0] (by decide); ((apply A.take 0; exact rfl; exact rfl; kernel_rfl; kernel_rfl; kernel_rfl; (apply Ok1.fieldAddr; (iterate 5 exact rfl))) <;> (apply A.take 1; exact rfl; exact rfl; kernel_rfl; kernel_rfl; kernel_rfl; (apply Ok1.load; exact rfl; (apply Ld.ownk; exact rfl; exact rfl; exact At.head; exact hs4))) <;> (apply A.take 2; exact rfl; exact rfl; kernel_rfl; kernel_rfl; kernel_rfl; (apply Ok1.buildA; (iterate 6 exact rfl))) <;> ((apply A.take 3; exact rfl; exact rfl; kernel_rfl; kernel_rfl; kernel_rfl; (apply Ok1.eqlFq2; (iterate 7 exact rfl); exact ⟨fun _ => rfl, fun _ => rfl⟩))) <;> (apply A.take 4; exact rfl; exact rfl; kernel_rfl; kernel_rfl; kernel_rfl; (apply Ok1.move; exact rfl)) <;> ((apply A.takeG 6; exact rfl; exact rfl; rotate_left 3; exact rfl; exact rfl; rotate_right 3; kernel_rfl; kernel_rfl; kernel_rfl; (apply Ok1.load; exact rfl; (apply Ld.ownk; exact rfl; exact rfl; exact At.head; exact hsa)))) <;> (apply A.one 5; kernel_rfl; exact rfl; (((apply R.isG; apply R.guard_run; exact rfl; exact rfl; ((apply R.callE (vs := []); (iterate 3 exact rfl); exact Ext.none _; intro w1 hw1; exact rnew_ok w1; rintro v Lo ⟨bs, rfl, rfl⟩))))); apply R.nil; refine ⟨?_, ?_⟩; (focus ((repeat' (first | exact trivial | (refine ⟨?_, ?_⟩; (focus ((repeat' (first | exact At.head | apply At.tail)); done)))))))) <;> (apply A.one 7; kernel_rfl; exact rfl; (((apply R.isG; apply R.guard_run; exact rfl; exact rfl; ((apply R.callV (vs := [.pointer (some ⟨bs, 0, none⟩), .agg ⟨D⟩]); (iterate 3 exact rfl); intro w1 hw1; exact hal bs w1 (SetR.of GOk.new hw1 (Ext.mem (by (focus ((repeat' (exact Ext.one _ _)); done)))))))))); apply R.nil; refine ⟨?_, ?_⟩; (focus ((repeat' (first | exact trivial | (refine ⟨?_, ?_⟩; (focus ((repeat' (first | exact At.head | apply At.tail)); done)))))))) <;> (apply A.take 8; exact rfl; exact rfl; kernel_rfl; kernel_rfl; kernel_rfl; (apply Ok1.pick_t; exact rfl; exact rfl)) <;> (apply A.take 9; exact rfl; exact rfl; kernel_rfl; kernel_rfl; kernel_rfl; (apply Ok1.move; exact rfl)) <;> ((apply A.takeG 10; exact rfl; exact rfl; rotate_left 3; exact rfl; exact rfl; rotate_right 3; kernel_rfl; kernel_rfl; kernel_rfl; (apply Ok1.fieldAddr; (iterate 5 exact rfl)))) <;> ((apply A.takeG 11; exact rfl; exact rfl; rotate_left 3; exact rfl; exact rfl; rotate_right 3; kernel_rfl; kernel_rfl; kernel_rfl; (apply Ok1.load; exact rfl; (apply Ld.ownk; exact rfl; exact rfl; exact At.head; exact hs8)))) <;> ((apply A.takeG 12; exact rfl; exact rfl; rotate_left 3; exact rfl; exact rfl; rotate_right 3; kernel_rfl; kernel_rfl; kernel_rfl; (apply Ok1.buildA; (iterate 6 exact rfl)))) <;> ((apply A.takeG 13; exact rfl; exact rfl; rotate_left 3; exact rfl; exact rfl; rotate_right 3; kernel_rfl; kernel_rfl; kernel_rfl; (apply Ok1.neqFq2 (q := false); (iterate 5 exact rfl); exact hf8; exact rfl; exact hne))) <;> (apply A.take 14; exact rfl; exact rfl; kernel_rfl; kernel_rfl; kernel_rfl; (apply Ok1.pick_t; exact rfl; exact rfl)) <;> (apply A.take 15; exact rfl; exact rfl; kernel_rfl; kernel_rfl; kernel_rfl; (apply Ok1.assign; exact rfl)) <;> (apply A.done; kernel_rfl))) | apply T.seq | apply T.region | apply T.ret))
  all_goals (apply RetOk.t; exact rfl)
  all_goals exact ⟨_, Keep.nil _, rfl, rfl⟩
end Go.Proofs.Ytligpachgcmkcaa
