/- The shelf's contract of slices.SortFunc, in this engine's terms. -/
import Derived.Test.YtdoljkafkpgkbaaEng14
import Derived.Shelf.SlSortCmp.WholeK
set_option linter.unusedSimpArgs false
set_option linter.unusedVariables false
set_option linter.unusedSectionVars false
namespace Go.Proofs.Ytdoljkafkpgkbaa
open Go.RowKit Go.Shelf Go.Sort

section
variable {α : Type} [Inhabited α] {enc : α → List Value} {k : Nat}
theorem flatK_get (hk : ∀ x, (enc x).length = k) (d : Array α) {t : Nat} (ht : t < d.size * k) : (flatK enc k d)[t]? = (fl enc d.toList)[t]? := by
  have k0 : 0 < k := by rcases Nat.eq_zero_or_pos k with h | h; · subst h; simp at ht
                        · exact h
  have hdm := Nat.div_add_mod t k
  have hml := Nat.mod_lt t k0
  have hil : t / k < d.size := by rw [Nat.div_lt_iff_lt_mul k0]; exact ht
  have hg : d.toList[t / k]? = some d[t / k]! := by simp [hil]
  have h5 := fl_get hk hg hml
  rw [show t / k * k + t % k = t by rw [Nat.mul_comm]; exact hdm] at h5
  rw [h5]
  have h6 := get_flatK enc k d t ht
  rw [getElem!_pos _ t (by simpa using ht)] at h6
  rw [Array.getElem?_eq_getElem (by simpa using ht), h6, List.getElem?_eq_getElem (by rw [hk]; exact hml), getElem!_pos _ _ (by rw [hk]; exact hml)]
theorem putCells_own (hk : ∀ x, (enc x).length = k) (d : Array α) {old junk : List Value} (ho : old.length = d.size * k) :
    putCells id 0 (flatK enc k d) ⟨old ++ junk⟩ = ⟨fl enc d.toList ++ junk⟩ := by
  apply Array.ext_getElem?
  intro t
  have hl : (fl enc d.toList).length = d.size * k := by rw [fl_len hk]; simp
  simp only [putCells, Array.getElem?_mapIdx, Nat.zero_le, true_and, Nat.zero_add, Nat.sub_zero, size_flatK, id, List.getElem?_toArray]
  by_cases ht : t < d.size * k
  · rw [List.getElem?_append_left (by omega), List.getElem?_append_left (by omega), List.getElem?_eq_getElem (by omega), ← flatK_get hk d ht]
    simp [ht]
  · rw [List.getElem?_append_right (by omega), List.getElem?_append_right (by omega), ho, hl]
    cases junk[t - d.size * k]? with
    | none => rfl
    | some v => simp [ht]

theorem sortWorld_own (hk : ∀ x, (enc x).length = k) {w : World} {b m : Nat} {d : Array α} {os : Array Obj} {old junk : List Value} {e : TypeId} {fz : Nat × Nat} (hb : w.heap[b]? = some (.cells ⟨old ++ junk⟩ e fz)) (ho : old.length = d.size * k) :
    Chg [b] w (sortWorldK enc k w b 0 m d os) ∧ (sortWorldK enc k w b 0 m d os).heap[b]? = some (.cells ⟨fl enc d.toList ++ junk⟩ e fz) := by
  have hlt := (Array.getElem?_eq_some_iff.1 hb).1
  refine ⟨⟨rfl, rfl, rfl, ?_, ?_, ?_⟩, ?_⟩
  · simp [sortWorldK, grow, putRowK, putRow, mapBlock, Sort.ahead]
  · simp [sortWorldK, grow, putRowK, putRow, mapBlock, Sort.ahead]
  · intro i hi hs
    have hne : b ≠ i := fun h => hs (by simp [h])
    simp [sortWorldK, grow, putRowK, putRow, mapBlock, Sort.ahead, Array.getElem?_append, hi, Array.getElem_modify, hne]
  · simp only [sortWorldK, grow, putRowK, putRow, mapBlock, Sort.ahead]
    rw [Array.getElem?_append_left (by simpa using hlt), Array.getElem?_modify, if_pos rfl, hb]
    simp only [Option.map_some, onCells, putCells_own hk d ho]

/-- Ascending: no later one is less than an earlier one. -/
def Asc (cf : α → α → Int) (rs : List α) : Prop := rs.Pairwise fun a b => ¬ cf b a < 0

/-- What the program's slices.SortFunc does to an own slice of rows. -/
theorem sort_ok {P : Program} {ρ : Ren} (L : SlLaysF0.n6 P ρ) (aE : ∀ w, (isAgg (ρ.t 24)).run P w = .ok true w) (zE : ∀ w, (Go.sizeOf (ρ.t 24)).run P w = .ok k w) (hk : ∀ x, (enc x).length = k) (h1 : ∀ x, ∀ v ∈ enc x, v.oneCell' = true) (cf : α → α → Int) (hO : SWO (ltOf cf)) (g : Nat) (cb : List Value) {f : FuncId} (hf : ρ.f 6 = f)
    (b cap : Nat) (rs : List α) (junk : List Value) (e : TypeId) (w : World) (he : Enters P g) (hsz : rs.length ≤ 1000000)
    (hcmp : ∀ W, Chg [b] w W → ∀ x y, CallW P g ([.agg ⟨enc x⟩, .agg ⟨enc y⟩] ++ cb) W fun v _ => v = .int .i64 (cf x y)) :
    CallM P f [.slice (some ⟨b, 0, none⟩) rs.length cap, .func (.func g) #[] cb.toArray] [(b, .cells ⟨fl enc rs ++ junk⟩ e (0, 0))] w fun v L' => v = .tuple #[] ∧ ∃ rs' : List α, rs'.Perm rs ∧ Asc cf rs' ∧ L' = [(b, .cells ⟨fl enc rs' ++ junk⟩ e (0, 0))] :=
  ⟨fun hw => by
    subst hf
    have hb := hw.get b _ List.mem_cons_self
    have hlt := (Array.getElem?_eq_some_iff.1 hb).1
    have hfl : (fl enc rs).length = rs.length * k := fl_len hk rs
    have hH : HoldsK enc k w b 0 rs.toArray := by
      intro j hj
      have hj' : j < rs.length * k := by simpa using hj
      have h2 := flatK_get hk rs.toArray (t := j) (by simpa using hj')
      refine ⟨?_, ?_⟩
      · simp only [World.cell?, hb, Nat.zero_add]
        rw [getElem!_pos _ j hj]
        rw [Array.getElem?_eq_getElem hj] at h2
        simp only [id, h2]
        simp [List.getElem?_append_left, hfl, hj']
      · simp [World.frozen?, hb]
    have hcm : CmpLays P g cb.toArray enc k cf b 0 rs.toArray.size w := by
      intro m os dk hs x y
      have hc := (sortWorld_own hk (m := m) (d := dk) (os := os) hb (by rw [hfl, hs]; simp)).1
      have := (hcmp _ hc x y).run
      have e1 : (#[Value.agg (enc x).toArray, Value.agg (enc y).toArray] ++ cb.toArray : Array Value) = ([Value.agg ⟨enc x⟩, Value.agg ⟨enc y⟩] ++ cb).toArray := by simp
      rw [e1]
      refine Calls.mono this ?_
      rintro e w' ⟨v, h3, h4, h5⟩
      exact ⟨by rw [h3, h4], h5.grow⟩
    have := AnyQ.slices_SortFunc L k aE zE enc hk h1 cf hO g cb.toArray b 0 cap rs.toArray w he hcm hH hlt (by simp; omega)
    have e0 : rs.toArray.size = rs.length := by simp
    rw [e0] at this
    refine Calls.mono this ?_
    rintro e' w' ⟨h3, d', n, os, hp, hs, hw'⟩
    have hds : d'.size = rs.length := by simpa using hp.1
    obtain ⟨g1, g2⟩ := sortWorld_own hk (m := n) (d := d') (os := os) hb (by rw [hfl, hds])
    refine ⟨.tuple #[], [(b, .cells ⟨fl enc d'.toList ++ junk⟩ e (0, 0))], h3, ⟨rfl, d'.toList, ?_, ?_, rfl⟩, ?_⟩
    · have h4 := hp.2.2
      have e1 : d'.extract 0 rs.length = d' := by rw [← hds]; simp
      have e2 : rs.toArray.extract 0 rs.length = rs.toArray := by rw [← e0]; simp
      rw [e1, e2] at h4
      exact h4
    · refine List.pairwise_iff_getElem.2 fun i j hi hj hij => ?_
      have h4 := hs i j (Nat.zero_le _) hij (by simp at hj ⊢; omega)
      simp only [ltOf, decide_eq_false_iff_not] at h4
      simp only [Array.length_toList] at hi hj
      rw [getElem!_pos d' i (by omega), getElem!_pos d' j (by omega)] at h4
      exact h4
    · rw [hw']
      exact hw.upd .head g1 g2⟩
end
theorem fl_val {α : Type} {B : α → Prop} (enc : α → List Value) (l : List {x // B x}) : fl (fun x => enc x.1) l = fl enc (l.map (·.1)) := by simp [fl, List.map_map, Function.comp_def]
/-- The same where the order is one on the rows of which B holds, and they are such. -/
theorem sort_okB {α : Type} {B : α → Prop} (a0 : {x // B x}) {enc : α → List Value} {k : Nat} {P : Program} {ρ : Ren} (L : SlLaysF0.n6 P ρ) (aE : ∀ w, (isAgg (ρ.t 24)).run P w = .ok true w) (zE : ∀ w, (Go.sizeOf (ρ.t 24)).run P w = .ok k w) (hk : ∀ x, (enc x).length = k) (h1 : ∀ x, ∀ v ∈ enc x, v.oneCell' = true) (cf : α → α → Int) (hO : SWO (ltOf fun x y : {x // B x} => cf x.1 y.1)) (g : Nat) (cb : List Value) {f : FuncId} (hf : ρ.f 6 = f)
    (b cap : Nat) (rs : List α) (hB : ∀ x ∈ rs, B x) (junk : List Value) (e : TypeId) (w : World) (he : Enters P g) (hsz : rs.length ≤ 1000000)
    (hcmp : ∀ W, Chg [b] w W → ∀ x y, CallW P g ([.agg ⟨enc x⟩, .agg ⟨enc y⟩] ++ cb) W fun v _ => v = .int .i64 (cf x y)) :
    CallM P f [.slice (some ⟨b, 0, none⟩) rs.length cap, .func (.func g) #[] cb.toArray] [(b, .cells ⟨fl enc rs ++ junk⟩ e (0, 0))] w fun v L' => v = .tuple #[] ∧ ∃ rs' : List α, rs'.Perm rs ∧ Asc cf rs' ∧ L' = [(b, .cells ⟨fl enc rs' ++ junk⟩ e (0, 0))] := by
  have hi : Inhabited {x // B x} := ⟨a0⟩
  have hm : (rs.attachWith B hB).map (·.1) = rs := by simp
  have hfl : fl (fun x : {x // B x} => enc x.1) (rs.attachWith B hB) = fl enc rs := by rw [fl_val, hm]
  have := sort_ok (enc := fun x : {x // B x} => enc x.1) L aE zE (fun x => hk x.1) (fun x => h1 x.1) (fun x y => cf x.1 y.1) hO g cb hf b cap (rs.attachWith B hB) junk e w he (by simpa using hsz) (fun W hW x y => hcmp W hW x.1 y.1)
  rw [hfl, List.length_attachWith] at this
  refine ⟨fun hw => Calls.mono (this.run hw) ?_⟩
  rintro e' w' ⟨v, L', h3, ⟨h4, rs', h5, h6, h7⟩, h8⟩
  refine ⟨v, L', h3, ⟨h4, rs'.map (·.1), ?_, ?_, by rw [h7, fl_val]⟩, h8⟩
  · have := h5.map (·.1); rwa [hm] at this
  · exact List.pairwise_map.2 h6
end Go.Proofs.Ytdoljkafkpgkbaa
