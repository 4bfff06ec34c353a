/- Contracts of revoke: a delta checked; a log joined with what a delta has of it. -/
import Derived.Test.YtligpachgcmkcaaRv4
set_option linter.unusedSimpArgs false
set_option linter.unusedVariables false
namespace Go.Proofs.Ytligpachgcmkcaa
open Go.RowKit Go.Shelf
set_option maxRecDepth 100000

section
variable {X : Cx} {σ : Env} {L Lr : Lst} {d : Option Nat} {ty : TypeId} {pos : String} {af : Array Edge} {g : Option (Nat × Bool)} {x : Operand} {t e : TypeId} {r re : TRow} {p : Option Addr} {n cap i j : Nat}
theorem Ok1.midR {lo hi : Operand} {sz : Nat} (ht : X.tb.row t = some r) (hk : r.k = .slice e) (he : X.tb.row e = some re) (hsz : re.size = sz) (hx : ev σ x = some (.slice p n cap)) (hl : ev σ lo = some (.int .i64 i)) (hh : ev σ hi = some (.int .i64 j)) (h1 : i ≤ j) (h2 : j ≤ cap) :
    Ok1 X ⟨d, .slice t x (some lo) (some hi) none, ty, pos, af, g⟩ σ L (.slice (sufP p cap i sz) (j - i) (cap - i)) := .mk fun a w ha hw => by
  subst hsz
  rw [slice_run (l := (i : Int)) (h := (j : Int)) (m := (cap : Int)) X.tb ht hk he ha hx rfl (by simp [bd, hh]) (by simp [bd, hl]) (by omega) (by omega) (by omega) (by omega) (.inl rfl)]
  simp [sufP]
end
/-- A delta: from where, and a log's part, of each. -/
abbrev Dl := List (Int × Pi)
def dlV (d : Dl) : List Value := iis (d.map (·.1)) ++ fl Pi.v (d.map (·.2))
def DOk1 (x : Int × Pi) : Prop := 0 ≤ x.1 ∧ x.1 ≤ 256 ∧ x.2.xs.length ≤ 256 ∧ SR x.2.xs
def DOk (d : Dl) : Prop := ∀ x ∈ d, DOk1 x
instance (x : Int × Pi) : Decidable (DOk1 x) := by unfold DOk1; infer_instance
instance (d : Dl) : Decidable (DOk d) := by unfold DOk; infer_instance
theorem fl_pi (ps : List Pi) : fl Pi.v ps = ps.map fun z => .slice z.p z.xs.length z.cap := by
  unfold fl
  induction ps with
  | nil => rfl
  | cons a l ih => simp only [List.map_cons, List.flatten_cons, ih]; rfl
theorem dl_from {d : Dl} {i : Nat} {x : Int × Pi} (h : d[i]? = some x) : (iis (d.map (·.1)))[i * 1]? = some (.int .i64 x.1) := by
  rw [Nat.mul_one, iis, List.map_map, List.getElem?_map, h]; rfl
theorem dl_log {d : Dl} (hl : d.length = 4) {i : Nat} {x : Int × Pi} (h : d[i]? = some x) : (dlV d)[4 + i * 1]? = some (.slice x.2.p x.2.xs.length x.2.cap) := by
  rw [Nat.mul_one, dlV, List.getElem?_append_right (by rw [iis_len, List.length_map]; omega), iis_len, List.length_map, hl, Nat.add_sub_cancel_left, fl_pi, List.map_map, List.getElem?_map, h]; rfl
theorem dl_froms {d : Dl} (hl : d.length = 4) : subE (dlV d) 0 4 = some (iis (d.map (·.1))) := subE_app _ _ (by rw [iis_len, List.length_map, hl])
theorem rcheck_ok (d : Dl) (hl : d.length = 4) (hbig : ∀ x ∈ d, x.2.xs.length ≤ 1000000) (w : World) (hr : ∀ x ∈ d, RdSl w x.2.p iV x.2.xs) :
    CallW Try.prog 59 [.agg ⟨dlV d⟩] w fun v _ => v = .int .i64 (if DOk d then 0 else 10) := by
  have hse := fun x (hx : x ∈ d) w1 (hc : Chg [] w w1) => serials_ok x.2.p x.2.xs.length x.2.cap x.2.xs rfl (by have := hbig x hx; omega) w1 ((hr x hx).chg' hc (fun _ => Off.nil _))
  have hfr := dl_froms hl
  have hdl : (dlV d).length = 8 := by simp [dlV, fl_pi, iis_len, hl]
  refine enterW (tb := tb) Try.func59 rfl Try.ntmps59 rfl ?_
  repeat' (first | (apply R.is1; first | (apply R.pure; exact rfl; first | (apply Ok1.load; exact rfl; apply Ld.ownk; exact rfl; exact rfl; exact At.head; exact hfr) | (apply Ok1.move; exact rfl) | (apply Ok1.fieldAddr; (iterate 5 exact rfl)) | (apply Ok1.assign; exact rfl)) | (apply R.box; (iterate 3 exact rfl); intro)) | apply R.nil | (apply T.is; first | apply T.seq | apply T.region | apply T.block))
  rename_i b
  apply T.loopK (α := Nat) (I := fun i => i ≤ 4 ∧ ∀ x ∈ d.take i, DOk1 x) (σi := fun i => [(1, .pointer (some ⟨b, 0, none⟩)), (6, .agg ⟨iis (d.map (·.1))⟩), (7, .int .i64 i)]) (Li := fun _ => [(b, .cells ⟨dlV d⟩ 41 (0, 0))]) (μ := fun i => 4 - i) (i0 := 0)
  · exact ⟨Nat.zero_le _, by simp⟩
  · exact ⟨rfl, rfl, rfl, trivial⟩
  · (focus ((repeat' (first | exact Keep.nil _ | exact Ext.one _ _ | apply Keep.cons)); done))
  · intro i ⟨hi, hall⟩
    rcases Nat.lt_or_ge i 4 with hlt | hge
    · obtain ⟨x, hx⟩ : ∃ x, d[i]? = some x := ⟨_, List.getElem?_eq_getElem (by omega)⟩
      have hm := List.mem_of_getElem? hx
      have h1 := hse x hm
      have hf := dl_from hx
      have hg := dl_log hl hx
      have hb := hbig x hm
      have hbad : ¬ DOk1 x → (if DOk d then (0 : Int) else 10) = 10 := fun h => if_neg fun hd => h (hd x hm)
      by_cases c1 : x.1 < 0
      · rw [hbad (fun h => by have := h.1; omega)]
        repeat' (first | (apply R.is1; first | (apply R.isBin; (apply R.pure; exact rfl; (apply Ok1.lss_t; exact rfl; exact rfl; omega))) | (apply R.pure; exact rfl; first | (apply Ok1.index1; (iterate 6 exact rfl); omega; omega; exact hf) | (apply Ok1.move; exact rfl) | (apply Ok1.assign; exact rfl) | (apply Ok1.pick_t; exact rfl; exact rfl))) | (apply R.isG; (apply R.guard_not; (iterate 3 exact rfl))) | apply R.nil | (apply T.is; first | apply T.seq | apply T.region | apply T.block | apply T.skip | apply T.ret | (apply T.cond_t; exact rfl)))
        (apply RetOk.t; exact rfl)
        rfl
      · by_cases c2 : 256 < x.1
        · rw [hbad (fun h => by have := h.2.1; omega)]
          repeat' (first | (apply R.is1; first | (apply R.isBin; (apply R.pure; exact rfl; first | (apply Ok1.lss_t; exact rfl; exact rfl; omega) | (apply Ok1.lss_f; exact rfl; exact rfl; omega) | (apply Ok1.gtr_t; exact rfl; exact rfl; omega))) | (apply R.pure; exact rfl; first | (apply Ok1.index1; (iterate 6 exact rfl); omega; omega; exact hf) | (apply Ok1.move; exact rfl) | (apply Ok1.assign; exact rfl) | (apply Ok1.pick_t; exact rfl; exact rfl) | (apply Ok1.pick_f; exact rfl; exact rfl))) | (apply R.isG; first | (apply R.guard_run; exact rfl; exact rfl) | (apply R.guard_not; (iterate 3 exact rfl))) | apply R.nil | (apply T.is; first | apply T.seq | apply T.region | apply T.block | apply T.skip | apply T.ret | (apply T.cond_t; exact rfl)))
          (apply RetOk.t; exact rfl)
          rfl
        · by_cases c3 : 256 < x.2.xs.length
          · rw [hbad (fun h => by have := h.2.2.1; omega)]
            repeat' (first | (apply R.is1; first | (apply R.isBin; (apply R.pure; exact rfl; first | (apply Ok1.lss_t; exact rfl; exact rfl; omega) | (apply Ok1.lss_f; exact rfl; exact rfl; omega) | (apply Ok1.gtr_t; exact rfl; exact rfl; omega) | (apply Ok1.gtr_f; exact rfl; exact rfl; omega))) | (apply R.isCall; (apply R.pure; exact rfl; (apply Ok1.lenS; (iterate 3 exact rfl)))) | (apply R.pure; exact rfl; first | (apply Ok1.index1; (iterate 6 exact rfl); omega; omega; exact hf) | (apply Ok1.load; exact rfl; apply Ld.own1; exact rfl; exact rfl; exact At.head; exact hg) | (apply Ok1.move; exact rfl) | (apply Ok1.fieldAddr; (iterate 5 exact rfl)) | (apply Ok1.assign; exact rfl) | (apply Ok1.indexAddrA; (iterate 5 exact rfl); omega; omega) | (apply Ok1.pick_t; exact rfl; exact rfl) | (apply Ok1.pick_f; exact rfl; exact rfl))) | (apply R.isG; first | (apply R.guard_run; exact rfl; exact rfl) | (apply R.guard_not; (iterate 3 exact rfl))) | apply R.nil | (apply T.is; first | apply T.seq | apply T.region | apply T.block | apply T.skip | apply T.ret | (apply T.cond_t; exact rfl)))
            (apply RetOk.t; exact rfl)
            rfl
          · by_cases c4 : SR x.2.xs
            · rw [decide_eq_true c4] at h1
              repeat' (first | (apply R.is1; first | (apply R.isBin; (apply R.pure; exact rfl; first | (apply Ok1.add64; exact rfl; exact rfl; omega; omega) | (apply Ok1.lss_t; exact rfl; exact rfl; omega) | (apply Ok1.lss_f; exact rfl; exact rfl; omega) | (apply Ok1.gtr_f; exact rfl; exact rfl; omega))) | (apply R.isCall; first | (apply R.callV (vs := [.slice x.2.p x.2.xs.length x.2.cap]); (iterate 3 exact rfl); intro w1 hw1; exact h1 w1 hw1.chg) | (apply R.pure; exact rfl; (apply Ok1.lenS; (iterate 3 exact rfl)))) | (apply R.pure; exact rfl; first | (apply Ok1.index1; (iterate 6 exact rfl); omega; omega; exact hf) | (apply Ok1.load; exact rfl; apply Ld.own1; exact rfl; exact rfl; exact At.head; exact hg) | (apply Ok1.move; exact rfl) | (apply Ok1.fieldAddr; (iterate 5 exact rfl)) | (apply Ok1.assign; exact rfl) | (apply Ok1.indexAddrA; (iterate 5 exact rfl); omega; omega) | (apply Ok1.pick_f; exact rfl; exact rfl) | (apply Ok1.not_t; exact rfl))) | (apply R.isG; (apply R.guard_run; exact rfl; exact rfl)) | apply R.nil | (apply T.is; first | apply T.seq | apply T.region | apply T.block | apply T.skip | (apply T.cond_t; exact rfl) | (apply T.cond_f; exact rfl)))
              refine ⟨i + 1, ⟨by omega, ?_⟩, by omega, ⟨rfl, rfl, rfl, trivial⟩, by (focus ((repeat' (first | exact Keep.nil _ | exact Ext.one _ _ | apply Keep.cons)); done))⟩
              intro z hz
              rw [List.take_add_one, hx, List.mem_append] at hz
              rcases hz with hz | hz
              · exact hall z hz
              · simp only [Option.toList_some, List.mem_singleton] at hz
                rw [hz]
                exact ⟨by omega, by omega, by omega, c4⟩
            · rw [hbad (fun h => c4 h.2.2.2)]
              rw [decide_eq_false c4] at h1
              repeat' (first | (apply R.is1; first | (apply R.isBin; (apply R.pure; exact rfl; first | (apply Ok1.lss_t; exact rfl; exact rfl; omega) | (apply Ok1.lss_f; exact rfl; exact rfl; omega) | (apply Ok1.gtr_f; exact rfl; exact rfl; omega))) | (apply R.isCall; first | (apply R.callV (vs := [.slice x.2.p x.2.xs.length x.2.cap]); (iterate 3 exact rfl); intro w1 hw1; exact h1 w1 hw1.chg) | (apply R.pure; exact rfl; (apply Ok1.lenS; (iterate 3 exact rfl)))) | (apply R.pure; exact rfl; first | (apply Ok1.index1; (iterate 6 exact rfl); omega; omega; exact hf) | (apply Ok1.load; exact rfl; apply Ld.own1; exact rfl; exact rfl; exact At.head; exact hg) | (apply Ok1.move; exact rfl) | (apply Ok1.fieldAddr; (iterate 5 exact rfl)) | (apply Ok1.assign; exact rfl) | (apply Ok1.indexAddrA; (iterate 5 exact rfl); omega; omega) | (apply Ok1.pick_f; exact rfl; exact rfl) | (apply Ok1.not_f; exact rfl))) | (apply R.isG; (apply R.guard_run; exact rfl; exact rfl)) | apply R.nil | (apply T.is; first | apply T.seq | apply T.region | apply T.block | apply T.skip | apply T.ret | (apply T.cond_t; exact rfl)))
              (apply RetOk.t; exact rfl)
              rfl
    · have him : i = 4 := by omega
      subst him
      rw [List.take_of_length_le (by omega)] at hall
      have h5 : (if DOk d then (0 : Int) else 10) = 0 := if_pos hall
      rw [h5]
      repeat' (first | (apply R.is1; first | (apply R.isBin; (apply R.pure; exact rfl; (apply Ok1.lss_f; exact rfl; exact rfl; omega))) | (apply R.pure; exact rfl; (apply Ok1.assign; exact rfl))) | apply R.nil | (apply T.is; first | apply T.seq | apply T.region | apply T.exit | apply T.ret | (apply T.cond_f; exact rfl)))
      (apply RetOk.t; exact rfl)
      rfl
end Go.Proofs.Ytligpachgcmkcaa
