/- Slices of integers: sorted, without doubles (the shelf's contracts in this engine's terms). -/
import Derived.Test.YtligpachgcmkcaaSl3
import Derived.Test.YtligpachgcmkcaaPc1
import Derived.Test.YtligpachgcmkcaaShelf
import Derived.Shelf.SortM.Plain
import Derived.Shelf.SortM.SortNone
import Derived.Shelf.SlicesG.CompactI
set_option linter.unusedSimpArgs false
set_option linter.unusedVariables false
namespace Go.Proofs.Ytligpachgcmkcaa
open Go.RowKit Go.Shelf
set_option maxRecDepth 100000

theorem putRow_own {w : World} {b m : Nat} {d : List Int} {os : Array Obj} {old junk : List Value} {e : TypeId} {fz : Nat × Nat} (hb : w.heap[b]? = some (.cells ⟨old ++ junk⟩ e fz)) (ho : old.length = d.length) :
    Chg [b] w (Go.Sort.grow (Go.Sort.putRow (Value.int .i64) (Go.Sort.ahead w m) b 0 d.toArray) os) ∧ (Go.Sort.grow (Go.Sort.putRow (Value.int .i64) (Go.Sort.ahead w m) b 0 d.toArray) os).heap[b]? = some (.cells ⟨iis d ++ junk⟩ e fz) := by
  have hlt := (Array.getElem?_eq_some_iff.1 hb).1
  refine ⟨⟨rfl, rfl, rfl, ?_, ?_, ?_⟩, ?_⟩
  · simp [Go.Sort.grow, Go.Sort.putRow, Go.Sort.mapBlock, Go.Sort.ahead]
  · simp [Go.Sort.grow, Go.Sort.putRow, Go.Sort.mapBlock, Go.Sort.ahead]
  · intro i hi hs
    have hne : b ≠ i := fun h => hs (by simp [h])
    simp [Go.Sort.grow, Go.Sort.putRow, Go.Sort.mapBlock, Go.Sort.ahead, Array.getElem?_append, hi, Array.getElem_modify, hne]
  · simp only [Go.Sort.grow, Go.Sort.putRow, Go.Sort.mapBlock, Go.Sort.ahead]
    rw [Array.getElem?_append_left (by simpa using hlt), Array.getElem?_modify, if_pos rfl, hb]
    simp only [Option.map_some, Go.Sort.onCells]
    congr 2
    apply Array.ext_getElem?
    intro t
    simp only [Go.Sort.putCells, Array.getElem?_mapIdx, Nat.zero_le, true_and, Nat.zero_add, Nat.sub_zero, List.size_toArray, List.getElem?_toArray]
    by_cases ht : t < d.length
    · rw [List.getElem?_append_left (by omega), List.getElem?_append_left (by rw [iis_len]; omega), List.getElem?_eq_getElem (by omega)]
      simp [ht, iis]
    · rw [List.getElem?_append_right (by omega), List.getElem?_append_right (by rw [iis_len]; omega), ho, iis_len]
      cases junk[t - d.length]? with
      | none => rfl
      | some v => simp [ht]
theorem sortHolds {w : World} {b : Nat} {xs : List Int} {junk : List Value} {e : TypeId} (hb : w.heap[b]? = some (.cells ⟨iis xs ++ junk⟩ e (0, 0))) : Go.Sort.Holds (Value.int .i64) w b 0 xs.toArray := by
  intro j hj
  have hj' : j < xs.length := by simpa using hj
  refine ⟨?_, ?_⟩
  · simp only [World.cell?, hb, Nat.zero_add]
    rw [getElem!_pos _ j hj]
    simp [List.getElem?_append_left, iis_len, hj', iis]
  · simp [World.frozen?, hb]
theorem isort_ok (xs : List Int) (hbig : xs.length ≤ 1000000000) (ov : Ov) (hov : OvOk 1 ov xs.length (iis xs)) (w : World) :
    CallM Try.prog 54 [slV ov xs.length] (blkL 3 ov (iis xs)) w fun v L => v = .tuple #[] ∧ L = blkL 3 ov (iis (srt xs)) := by
  cases ov with
  | none =>
    have h0 : xs.length = 0 := hov.2
    have : xs = [] := List.eq_nil_of_length_eq_zero h0
    subst this
    exact ⟨fun hw => Calls.mono (AnyM.slices_Sort_int_none Try.sortI none 0 w) fun e w' ⟨h1, h2⟩ => ⟨_, _, h1, ⟨rfl, rfl⟩, by rw [h2]; exact hw⟩⟩
  | some q =>
    obtain ⟨b, j, junk⟩ := q
    refine ⟨fun hw => ?_⟩
    have hb := hw.get b _ List.mem_cons_self
    have hlt := (Array.getElem?_eq_some_iff.1 hb).1
    refine Calls.mono (AnyM.slices_Sort_int Try.sortI b 0 (xs.length + j) xs w (sortHolds hb) hlt (by omega)) ?_
    rintro e w' ⟨h1, n, os, rfl⟩
    obtain ⟨g1, g2⟩ := putRow_own (m := n) (d := srt xs) (os := os) hb (by rw [iis_len, (srt_perm xs).length_eq])
    exact ⟨_, _, h1, ⟨rfl, rfl⟩, hw.upd .head g1 g2⟩
theorem icompact_ok (xs : List Int) (hbig : xs.length ≤ 1000000000) (ov : Ov) (hov : OvOk 1 ov xs.length (iis xs)) (w : World) :
    CallM Try.prog 55 [slV ov xs.length] (blkL 3 ov (iis xs)) w fun v L => ∃ ov', OvOk 1 ov' (Go.Lib.compact xs).length (iis (Go.Lib.compact xs)) ∧ v = slV ov' (Go.Lib.compact xs).length ∧ L = blkL 3 ov' (iis (Go.Lib.compact xs)) := by
  cases ov with
  | none =>
    have h0 : xs.length = 0 := hov.2
    have : xs = [] := List.eq_nil_of_length_eq_zero h0
    subst this
    exact ⟨fun hw => Calls.mono (AnyG.slices_Compact_int_empty Try.cmpI none 0 w) fun e w' ⟨h1, h2⟩ => ⟨_, _, h1, ⟨none, hov, rfl, rfl⟩, by rw [h2]; exact hw⟩⟩
  | some q =>
    obtain ⟨b, j, junk⟩ := q
    refine ⟨fun hw => ?_⟩
    have hb := hw.get b _ List.mem_cons_self
    have hle := Go.Lib.compact_length_le xs
    refine Calls.mono (AnyG.slices_Compact_int Try.cmpI b 0 (xs.length + j) xs w (sortHolds hb) (by omega) (by omega)) ?_
    rintro e w' ⟨h1, n, rfl⟩
    obtain ⟨g1, g2⟩ := putRow_own (m := n) (d := Go.Lib.compact xs ++ List.replicate (xs.length - (Go.Lib.compact xs).length) 0) (os := #[]) hb (by rw [iis_len, List.length_append, List.length_replicate]; omega)
    simp only [Go.Sort.grow_empty] at g1 g2
    rw [iis_app, List.append_assoc] at g2
    have hj : junk.length = j := by have := hov.2; simpa using this
    refine ⟨_, _, h1, ⟨some (b, (xs.length - (Go.Lib.compact xs).length) + j, iis (List.replicate (xs.length - (Go.Lib.compact xs).length) 0) ++ junk), ⟨by rw [iis_len, Nat.mul_one], by simp only [List.length_append, iis_len, List.length_replicate, hj, Nat.mul_one]⟩, ?_, rfl⟩, hw.upd .head g1 g2⟩
    simp only [slV]
    congr 1
    omega
end Go.Proofs.Ytligpachgcmkcaa
