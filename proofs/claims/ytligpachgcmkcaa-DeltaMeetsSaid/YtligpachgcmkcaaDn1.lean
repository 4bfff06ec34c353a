/- Contracts of delta: a set's digest; the example. -/
import Derived.Test.YtligpachgcmkcaaRp1
import Derived.Test.YtligpachgcmkcaaRv9
set_option linter.unusedSimpArgs false
set_option linter.unusedVariables false
namespace Go.Proofs.Ytligpachgcmkcaa
open Go.RowKit Go.Shelf
set_option maxRecDepth 100000

/-- A digest: versions, and eight bytes. -/
def dgV (vs p8 : List Int) : List Value := iis vs ++ u8s p8
theorem dg_len {vs p8 : List Int} (hv : vs.length = 4) (hp : p8.length = 8) : (dgV vs p8).length = 12 := by simp [dgV, iis_len, u8s_len, hv, hp]
theorem dg_one (vs p8 : List Int) : (dgV vs p8).all Value.oneCell' = true := by rw [dgV, List.all_append, iis_one, u8s_one]; rfl
theorem fill_dg (a b : Nat) {vs p8 : List Int} (hv : vs.length = 4) (hp : p8.length = 8) : fillE (fldPl [(a, 0, 4), (b, 4, 8)]) (dgV [0, 0, 0, 0] [0, 0, 0, 0, 0, 0, 0, 0]) [(0, .agg ⟨iis vs⟩), (1, .agg ⟨u8s p8⟩)] = some (dgV vs p8) := by
  match vs, hv, p8, hp with
  | [v0, v1, v2, v3], _, [x0, x1, x2, x3, x4, x5, x6, x7], _ => rfl
theorem dg_flat {vs p8 : List Int} (hv : vs.length = 4) (hp : p8.length = 8) : allOk (repK [.int .i64] 4 ++ repK [.int .u8] 8) (dgV vs p8) = true := by
  match vs, hv, p8, hp with
  | [v0, v1, v2, v3], _, [x0, x1, x2, x3, x4, x5, x6, x7], _ => rfl
theorem iis_inj : ∀ {a b : List Int}, iis a = iis b → a = b
  | [], [], _ => rfl
  | [], _ :: _, h => by cases h
  | _ :: _, [], h => by cases h
  | x :: a, y :: b, h => by
    simp only [iis, List.map_cons, List.cons.injEq, Value.int.injEq, true_and] at h
    obtain ⟨h1, h2⟩ := h
    have h3 : a = b := iis_inj h2
    rw [h1, h3]
theorem u8i_inj : ∀ {a b : List Int}, u8s a = u8s b → a = b
  | [], [], _ => rfl
  | [], _ :: _, h => by cases h
  | _ :: _, [], h => by cases h
  | x :: a, y :: b, h => by
    simp only [u8s, List.map_cons, List.cons.injEq, Value.int.injEq, true_and] at h
    obtain ⟨h1, h2⟩ := h
    have h3 : a = b := u8i_inj h2
    rw [h1, h3]
theorem dg_inj {vs vs' p8 p8' : List Int} (hl : vs.length = vs'.length) : dgV vs p8 = dgV vs' p8' ↔ vs = vs' ∧ p8 = p8' := by
  unfold dgV
  constructor
  · intro h
    obtain ⟨h1, h2⟩ := List.append_inj h (by rw [iis_len, iis_len, hl])
    exact ⟨iis_inj h1, u8i_inj h2⟩
  · rintro ⟨h1, h2⟩
    rw [h1, h2]
theorem dOf_gen (s : Value) (vs pr : List Int) (hv : vs.length = 4) (hp : pr.length = 32) (w : World) (hpr : ∀ w1, Chg [] w w1 → CallW Try.prog 27 [s] w1 fun v _ => v = .agg ⟨u8s pr⟩) (hve : ∀ w1, Chg [] w w1 → CallW Try.prog 14 [s] w1 fun v _ => v = .agg ⟨iis vs⟩) :
    CallW Try.prog 44 [s] w fun v _ => v = .agg ⟨dgV vs (pr.take 8)⟩ := by
  have hpl : (u8s pr).length = 32 := by rw [u8s_len, hp]
  have hpo := u8s_one pr
  have h8 : (pr.take 8).length = 8 := by rw [List.length_take, hp]; rfl
  have hs8 : subE (u8s pr) 0 8 = some (u8s (pr.take 8)) := by
    have : u8s pr = u8s (pr.take 8) ++ u8s (pr.drop 8) := by rw [← u8s_app, List.take_append_drop]
    rw [this]
    exact subE_app _ _ (by rw [u8s_len, h8])
  have hset : ∀ cs : List Value, cs.length = 32 → setE cs 0 (u8s pr) = some (u8s pr) := fun cs h => setE_all (by rw [hpl, h])
  have hfill := fun a b => fill_dg a b hv h8
  have hdl := dg_len hv h8
  have hdo := dg_one vs (pr.take 8)
  have hset2 : ∀ cs : List Value, cs.length = 12 → setE cs 0 (dgV vs (pr.take 8)) = some (dgV vs (pr.take 8)) := fun cs h => setE_all (by rw [hdl, h])
  have hsub := subE_all hdl
  generalize dgV vs (pr.take 8) = D at *
  generalize pr.take 8 = p8 at *
  generalize u8s pr = P at *
  refine enterW (tb := tb) Try.func44 rfl Try.ntmps44 rfl ?_
  repeat' (first | (apply R.is1; first | (apply R.isCall; (apply R.callV (vs := [s]); (iterate 3 exact rfl); intro w1 hw1; exact hpr w1 hw1.chg)) | (apply R.pure; exact rfl; (apply Ok1.move; exact rfl)) | (apply R.alloc; (iterate 3 exact rfl); intro)) | (apply R.is0; (apply R.store; (iterate 4 exact rfl); (exact hpl); (exact hpo); exact Upd.head; (exact hset _ rfl))) | apply R.nil | (apply T.is; first | (apply T.drawC (id := 2) [0] (by decide); ((apply A.take 0; exact rfl; exact rfl; kernel_rfl; kernel_rfl; kernel_rfl; (apply Ok1.move; exact rfl)) <;> (apply A.call 1; exact rfl; exact rfl; kernel_rfl; kernel_rfl; kernel_rfl; exact rfl; exact rfl; (exact fun w1 hw1 => hve w1 hw1.chg)) <;> (apply A.take 2; exact rfl; exact rfl; kernel_rfl; kernel_rfl; kernel_rfl; (apply Ok1.sliceArrTo (i := 8); (iterate 5 exact rfl); decide)) <;> (apply A.take 3; exact rfl; exact rfl; kernel_rfl; kernel_rfl; kernel_rfl; (apply Ok1.arrAt; (iterate 3 exact rfl); decide)) <;> (apply A.take 4; exact rfl; exact rfl; kernel_rfl; kernel_rfl; kernel_rfl; (apply Ok1.load; exact rfl; apply Ld.ownk; exact rfl; exact rfl; exact At.head; exact hs8)) <;> (apply A.take 5; exact rfl; exact rfl; kernel_rfl; kernel_rfl; kernel_rfl; (apply Ok1.build; (iterate 4 exact rfl); exact hfill _ _)) <;> (apply A.one 6; kernel_rfl; exact rfl; (((apply R.store; (iterate 4 exact rfl); (exact hdl); (exact hdo); (focus ((repeat' (first | exact Upd.head | apply Upd.tail)); done)); (exact hset2 _ rfl)))); apply R.nil; refine ⟨?_, ?_⟩; (focus ((repeat' (first | exact trivial | (refine ⟨?_, ?_⟩; exact At.head)))))) <;> (apply A.done; kernel_rfl))) | apply T.seq | apply T.region | apply T.ret))
  all_goals apply RetOk.c
  all_goals first | exact rfl | skip
  all_goals (apply Ld.ownk; exact rfl; exact rfl; (focus ((repeat' (first | exact At.head | apply At.tail)); done)); exact hsub)
theorem dOf_ok (bs : Nat) (gs : List Lg) (hg : GOk gs) (w : World) (hs : SetR w bs gs) : CallW Try.prog 44 [.pointer (some ⟨bs, 0, none⟩)] w fun v _ => v = .agg ⟨dgV ((lgs gs).map fun x => (x.length : Int)) ((shaI (prI (lgs gs))).take 8)⟩ := by
  refine dOf_gen _ _ _ (by rw [List.length_map, lgs, List.length_map, hg.len]) (sha_len _) w (fun w1 hc => print_ok bs gs hg w1 (hs.chg hc)) (fun w1 hc => ?_)
  have h := versions_ok bs gs hg w1 (hs.chg hc)
  rw [lens_of rfl] at h
  exact h
def d0P : List Int := (shaI (prI [[], [], [], []])).take 8
theorem d0P_len : d0P.length = 8 := by rw [d0P, List.length_take, sha_len]; rfl
theorem d0P_ne : d0P ≠ [0, 0, 0, 0, 0, 0, 0, 0] := by decide +kernel
theorem dOf_nil (w : World) : CallW Try.prog 44 [.pointer none] w fun v _ => v = .agg ⟨dgV [0, 0, 0, 0] d0P⟩ :=
  dOf_gen _ _ _ rfl (sha_len _) w (fun w1 _ => print_nil w1) (fun w1 _ => versions_nil.w w1)
theorem dOf_new (bs : Nat) (w : World) (hs : SetR w bs [lg0, lg0, lg0, lg0]) : CallW Try.prog 44 [.pointer (some ⟨bs, 0, none⟩)] w fun v _ => v = .agg ⟨dgV [0, 0, 0, 0] d0P⟩ := dOf_ok bs _ GOk.new w hs
end Go.Proofs.Ytligpachgcmkcaa
