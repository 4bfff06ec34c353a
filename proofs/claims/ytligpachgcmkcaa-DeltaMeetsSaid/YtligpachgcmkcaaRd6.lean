/- Contracts of the document's revoke: are serials as they must be; does one stand twice. -/
import Derived.Test.YtligpachgcmkcaaRv4
import Derived.Test.YtligpachgcmkcaaRv7
set_option linter.unusedSimpArgs false
set_option linter.unusedVariables false
namespace Go.Proofs.Ytligpachgcmkcaa
open Go.RowKit Go.Shelf
set_option maxRecDepth 100000

theorem dright_ok (p : Option Addr) (n cap : Nat) (xs : List Int) (hn : n = xs.length) (hbig : n ≤ 1000000000) (w : World) (h1 : RdSl w p iV xs) : CallW Try.prog 37 [.slice p n cap] w fun v _ => v = .bool (decide (SR xs)) := by
  subst hn
  refine enterW (tb := tb) Try.func37 rfl Try.ntmps37 rfl ?_
  repeat' (first | (apply R.is1; (apply R.pure; exact rfl; (apply Ok1.assign; exact rfl))) | apply R.nil | (apply T.is; first | apply T.seq | apply T.region | apply T.block))
  apply T.loopK (α := Nat) (I := fun i => i ≤ xs.length ∧ SR (xs.take i)) (σi := fun i => [(0, .slice p xs.length cap), (3, .int .i64 i)]) (Li := fun _ => []) (μ := fun i => xs.length - i) (i0 := 0)
  · exact ⟨Nat.zero_le _, fun x hx => by simp at hx⟩
  · exact ⟨rfl, rfl, trivial⟩
  · (focus ((repeat' (exact Keep.nil _)); done))
  · intro i ⟨hi, htk⟩
    rcases Nat.lt_or_ge i xs.length with hlt | hge
    · obtain ⟨x, hx⟩ : ∃ x, xs[i]? = some x := ⟨_, List.getElem?_eq_getElem (by omega)⟩
      have hm := List.mem_of_getElem? hx
      obtain ⟨b1, o1, hpe1, H1⟩ := h1.at hx
      replace H1 := H1 1 iV_len
      by_cases c1 : x < 1
      · repeat' (first | (apply R.is1; first | (apply R.isBin; (apply R.pure; exact rfl; (apply Ok1.lss_t; exact rfl; exact rfl; omega))) | (apply R.isCall; (apply R.pure; exact rfl; (apply Ok1.lenS; (iterate 3 exact rfl)))) | (apply R.pure; exact rfl; first | (apply Ok1.indexAddrP; (iterate 4 exact rfl); exact hpe1; exact rfl; omega; omega) | (apply Ok1.load; exact rfl; apply Ld.row0 H1; exact rfl; exact List.not_mem_nil; (iterate 3 exact rfl)) | (apply Ok1.move; exact rfl) | (apply Ok1.assign; exact rfl) | (apply Ok1.pick_t; exact rfl; exact rfl))) | (apply R.isG; (apply R.guard_not; (iterate 3 exact rfl))) | apply R.nil | (apply T.is; first | apply T.seq | apply T.region | apply T.block | apply T.skip | apply T.ret | (apply T.cond_t; exact rfl)))
        all_goals (apply RetOk.t; exact rfl)
        all_goals rw [decide_eq_false]
        exact fun h => by have := (h x hm).1; omega
      · by_cases c2 : 65535 < x
        · repeat' (first | (apply R.is1; first | (apply R.isBin; (apply R.pure; exact rfl; first | (apply Ok1.lss_t; exact rfl; exact rfl; omega) | (apply Ok1.lss_f; exact rfl; exact rfl; omega) | (apply Ok1.gtr_t; exact rfl; exact rfl; omega))) | (apply R.isCall; (apply R.pure; exact rfl; (apply Ok1.lenS; (iterate 3 exact rfl)))) | (apply R.pure; exact rfl; first | (apply Ok1.indexAddrP; (iterate 4 exact rfl); exact hpe1; exact rfl; omega; omega) | (apply Ok1.load; exact rfl; apply Ld.row0 H1; exact rfl; exact List.not_mem_nil; (iterate 3 exact rfl)) | (apply Ok1.move; exact rfl) | (apply Ok1.assign; exact rfl) | (apply Ok1.pick_f; exact rfl; exact rfl))) | (apply R.isG; (apply R.guard_run; exact rfl; exact rfl)) | apply R.nil | (apply T.is; first | apply T.seq | apply T.region | apply T.block | apply T.skip | apply T.ret | (apply T.cond_t; exact rfl)))
          all_goals (apply RetOk.t; exact rfl)
          all_goals rw [decide_eq_false]
          exact fun h => by have := (h x hm).2; omega
        · repeat' (first | (apply R.is1; first | (apply R.isBin; (apply R.pure; exact rfl; first | (apply Ok1.add64; exact rfl; exact rfl; omega; omega) | (apply Ok1.lss_t; exact rfl; exact rfl; omega) | (apply Ok1.lss_f; exact rfl; exact rfl; omega) | (apply Ok1.gtr_f; exact rfl; exact rfl; omega))) | (apply R.isCall; (apply R.pure; exact rfl; (apply Ok1.lenS; (iterate 3 exact rfl)))) | (apply R.pure; exact rfl; first | (apply Ok1.indexAddrP; (iterate 4 exact rfl); exact hpe1; exact rfl; omega; omega) | (apply Ok1.load; exact rfl; apply Ld.row0 H1; exact rfl; exact List.not_mem_nil; (iterate 3 exact rfl)) | (apply Ok1.move; exact rfl) | (apply Ok1.assign; exact rfl) | (apply Ok1.pick_f; exact rfl; exact rfl))) | (apply R.isG; (apply R.guard_run; exact rfl; exact rfl)) | apply R.nil | (apply T.is; first | apply T.seq | apply T.region | apply T.block | apply T.skip | (apply T.cond_t; exact rfl) | (apply T.cond_f; exact rfl)))
          refine ⟨i + 1, ⟨by omega, ?_⟩, by omega, ⟨rfl, rfl, trivial⟩, by (focus ((repeat' (exact Keep.nil _)); done))⟩
          intro y hy
          rw [List.take_add_one, hx, List.mem_append] at hy
          rcases hy with hy | hy
          · exact htk y hy
          · simp only [Option.toList_some, List.mem_singleton] at hy
            subst hy
            exact ⟨by omega, by omega⟩
    · repeat' (first | (apply R.is1; first | (apply R.isBin; (apply R.pure; exact rfl; (apply Ok1.lss_f; exact rfl; exact rfl; omega))) | (apply R.isCall; (apply R.pure; exact rfl; (apply Ok1.lenS; (iterate 3 exact rfl)))) | (apply R.pure; exact rfl; first | (apply Ok1.move; exact rfl) | (apply Ok1.assign; exact rfl))) | apply R.nil | (apply T.is; first | apply T.seq | apply T.region | apply T.exit | apply T.ret | (apply T.cond_f; exact rfl)))
      (apply RetOk.t; exact rfl)
      rw [List.take_of_length_le hge] at htk
      rw [decide_eq_true htk]
theorem nodup_snoc {xs : List Int} {i : Nat} {x : Int} (h : xs[i]? = some x) : (xs.take (i + 1)).Nodup ↔ (xs.take i).Nodup ∧ x ∉ xs.take i := by
  rw [List.take_add_one, h, Option.toList_some, List.nodup_append]
  constructor
  · intro ⟨h1, _, h3⟩
    exact ⟨h1, fun hm => h3 x hm x (List.mem_singleton.2 rfl) rfl⟩
  · intro ⟨h1, h2⟩
    refine ⟨h1, by simp, fun a ha b hb he => ?_⟩
    rw [List.mem_singleton] at hb
    subst hb he
    exact h2 ha
theorem dtwice_ok (p : Option Addr) (n cap : Nat) (xs : List Int) (hn : n = xs.length) (hbig : n ≤ 1000000000) (w : World) (h1 : RdSl w p iV xs) : CallW Try.prog 38 [.slice p n cap] w fun v _ => v = .bool (decide (¬ xs.Nodup)) := by
  subst hn
  refine enterW (tb := tb) Try.func38 rfl Try.ntmps38 rfl ?_
  repeat' (first | (apply R.is1; (apply R.pure; exact rfl; (apply Ok1.assign; exact rfl))) | apply R.nil | (apply T.is; first | apply T.seq | apply T.region | apply T.block))
  apply T.loopK (α := Nat) (I := fun i => i ≤ xs.length ∧ (xs.take i).Nodup) (σi := fun i => [(0, .slice p xs.length cap), (3, .int .i64 i)]) (Li := fun _ => []) (μ := fun i => xs.length - i) (i0 := 0)
  · exact ⟨Nat.zero_le _, List.nodup_nil⟩
  · exact ⟨rfl, rfl, trivial⟩
  · (focus ((repeat' (exact Keep.nil _)); done))
  · intro i ⟨hi, htk⟩
    rcases Nat.lt_or_ge i xs.length with hlt | hge
    · obtain ⟨x, hx⟩ : ∃ x, xs[i]? = some x := ⟨_, List.getElem?_eq_getElem (by omega)⟩
      obtain ⟨b1, o1, hpe1, H1⟩ := h1.at hx
      replace H1 := H1 1 iV_len
      repeat' (first | (apply R.is1; first | (apply R.isBin; (apply R.pure; exact rfl; (apply Ok1.lss_t; exact rfl; exact rfl; omega))) | (apply R.isCall; (apply R.pure; exact rfl; (apply Ok1.lenS; (iterate 3 exact rfl)))) | (apply R.pure; exact rfl; first | (apply Ok1.move; exact rfl) | (apply Ok1.assign; exact rfl))) | apply R.nil | (apply T.is; first | apply T.seq | apply T.region | apply T.block | apply T.skip | (apply T.cond_t; exact rfl)))
      apply T.loopK (α := Nat) (I := fun k => k ≤ i ∧ x ∉ xs.take k) (σi := fun k => [(0, .slice p xs.length cap), (3, .int .i64 i), (4, .int .i64 k)]) (Li := fun _ => []) (μ := fun k => i - k) (i0 := 0)
      · exact ⟨Nat.zero_le _, by simp⟩
      · exact ⟨rfl, rfl, rfl, trivial⟩
      · (focus ((repeat' (exact Keep.nil _)); done))
      · intro k ⟨hk, hnk⟩
        rcases Nat.lt_or_ge k i with hlk | hgk
        · obtain ⟨y, hy⟩ : ∃ y, xs[k]? = some y := ⟨_, List.getElem?_eq_getElem (by omega)⟩
          obtain ⟨b2, o2, hpe2, H2⟩ := h1.at hy
          replace H2 := H2 1 iV_len
          have hb2 := hpe2.symm.trans hpe1
          cases hb2
          by_cases hxy : x = y
          · repeat' (first | (apply R.is1; first | (apply R.isBin; (apply R.pure; exact rfl; (apply Ok1.lss_t; exact rfl; exact rfl; omega))) | (apply R.pure; exact rfl; first | (apply Ok1.move; exact rfl) | (apply Ok1.assign; exact rfl))) | apply R.nil | (apply T.is; first | (apply T.drawC (id := 7) [] (by decide); ((apply A.take 0; exact rfl; exact rfl; kernel_rfl; kernel_rfl; kernel_rfl; (apply Ok1.move; exact rfl)) <;> (apply A.take 1; exact rfl; exact rfl; kernel_rfl; kernel_rfl; kernel_rfl; (apply Ok1.move; exact rfl)) <;> (apply A.take 2; exact rfl; exact rfl; kernel_rfl; kernel_rfl; kernel_rfl; (apply Ok1.indexAddrP; (iterate 4 exact rfl); exact hpe1; exact rfl; omega; omega)) <;> (apply A.take 3; exact rfl; exact rfl; kernel_rfl; kernel_rfl; kernel_rfl; (apply Ok1.load; exact rfl; (apply Ld.row0 H1; exact rfl; exact List.not_mem_nil; (iterate 3 exact rfl)))) <;> (apply A.take 4; exact rfl; exact rfl; kernel_rfl; kernel_rfl; kernel_rfl; (apply Ok1.move; exact rfl)) <;> (apply A.take 5; exact rfl; exact rfl; kernel_rfl; kernel_rfl; kernel_rfl; (apply Ok1.move; exact rfl)) <;> (apply A.take 6; exact rfl; exact rfl; kernel_rfl; kernel_rfl; kernel_rfl; (apply Ok1.indexAddrP; (iterate 4 exact rfl); exact hpe1; exact rfl; omega; omega)) <;> (apply A.take 7; exact rfl; exact rfl; kernel_rfl; kernel_rfl; kernel_rfl; (apply Ok1.load; exact rfl; (apply Ld.row0 H2; exact rfl; exact List.not_mem_nil; (iterate 3 exact rfl)))) <;> ((apply A.take 8; exact rfl; exact rfl; kernel_rfl; kernel_rfl; kernel_rfl; (apply Ok1.eql_t; exact rfl; exact rfl; omega))) <;> (apply A.done; kernel_rfl))) | apply T.seq | apply T.region | apply T.block | apply T.skip | apply T.ret | (apply T.cond_t; exact rfl)))
            all_goals (apply RetOk.t; exact rfl)
            all_goals rw [decide_eq_true]
            intro hnd
            have h3 := (List.getElem?_inj (l := xs) (i := k) (j := i) (by omega) hnd).1 (by rw [hy, hx, hxy])
            omega
          · repeat' (first | (apply R.is1; first | (apply R.isBin; (apply R.pure; exact rfl; first | (apply Ok1.add64; exact rfl; exact rfl; omega; omega) | (apply Ok1.lss_t; exact rfl; exact rfl; omega))) | (apply R.pure; exact rfl; first | (apply Ok1.move; exact rfl) | (apply Ok1.assign; exact rfl))) | apply R.nil | (apply T.is; first | (apply T.drawC (id := 7) [] (by decide); ((apply A.take 0; exact rfl; exact rfl; kernel_rfl; kernel_rfl; kernel_rfl; (apply Ok1.move; exact rfl)) <;> (apply A.take 1; exact rfl; exact rfl; kernel_rfl; kernel_rfl; kernel_rfl; (apply Ok1.move; exact rfl)) <;> (apply A.take 2; exact rfl; exact rfl; kernel_rfl; kernel_rfl; kernel_rfl; (apply Ok1.indexAddrP; (iterate 4 exact rfl); exact hpe1; exact rfl; omega; omega)) <;> (apply A.take 3; exact rfl; exact rfl; kernel_rfl; kernel_rfl; kernel_rfl; (apply Ok1.load; exact rfl; (apply Ld.row0 H1; exact rfl; exact List.not_mem_nil; (iterate 3 exact rfl)))) <;> (apply A.take 4; exact rfl; exact rfl; kernel_rfl; kernel_rfl; kernel_rfl; (apply Ok1.move; exact rfl)) <;> (apply A.take 5; exact rfl; exact rfl; kernel_rfl; kernel_rfl; kernel_rfl; (apply Ok1.move; exact rfl)) <;> (apply A.take 6; exact rfl; exact rfl; kernel_rfl; kernel_rfl; kernel_rfl; (apply Ok1.indexAddrP; (iterate 4 exact rfl); exact hpe1; exact rfl; omega; omega)) <;> (apply A.take 7; exact rfl; exact rfl; kernel_rfl; kernel_rfl; kernel_rfl; (apply Ok1.load; exact rfl; (apply Ld.row0 H2; exact rfl; exact List.not_mem_nil; (iterate 3 exact rfl)))) <;> ((apply A.take 8; exact rfl; exact rfl; kernel_rfl; kernel_rfl; kernel_rfl; (apply Ok1.eql_f; exact rfl; exact rfl; omega))) <;> (apply A.done; kernel_rfl))) | apply T.seq | apply T.region | apply T.block | apply T.skip | (apply T.cond_t; exact rfl) | (apply T.cond_f; exact rfl)))
            refine ⟨k + 1, ⟨by omega, ?_⟩, by omega, ⟨rfl, rfl, rfl, trivial⟩, by (focus ((repeat' (exact Keep.nil _)); done))⟩
            rw [List.take_add_one, hy, Option.toList_some, List.mem_append, List.mem_singleton]
            rintro (h | h)
            · exact hnk h
            · exact hxy h
        · have hki : k = i := by omega
          subst hki
          repeat' (first | (apply R.is1; first | (apply R.isBin; (apply R.pure; exact rfl; first | (apply Ok1.add64; exact rfl; exact rfl; omega; omega) | (apply Ok1.lss_f; exact rfl; exact rfl; omega))) | (apply R.pure; exact rfl; first | (apply Ok1.move; exact rfl) | (apply Ok1.assign; exact rfl))) | apply R.nil | (apply T.is; first | apply T.seq | apply T.region | apply T.exit | (apply T.cond_f; exact rfl)))
          exact ⟨k + 1, ⟨by omega, (nodup_snoc hx).2 ⟨htk, hnk⟩⟩, by omega, ⟨rfl, rfl, trivial⟩, by (focus ((repeat' (exact Keep.nil _)); done))⟩
    · repeat' (first | (apply R.is1; first | (apply R.isBin; (apply R.pure; exact rfl; (apply Ok1.lss_f; exact rfl; exact rfl; omega))) | (apply R.isCall; (apply R.pure; exact rfl; (apply Ok1.lenS; (iterate 3 exact rfl)))) | (apply R.pure; exact rfl; first | (apply Ok1.move; exact rfl) | (apply Ok1.assign; exact rfl))) | apply R.nil | (apply T.is; first | apply T.seq | apply T.region | apply T.exit | apply T.ret | (apply T.cond_f; exact rfl)))
      (apply RetOk.t; exact rfl)
      rw [List.take_of_length_le hge] at htk
      rw [decide_eq_false (by simp [htk])]
end Go.Proofs.Ytligpachgcmkcaa
/- Contracts of the document's revoke: Revoke, Has. -/
set_option linter.unusedSimpArgs false
set_option linter.unusedVariables false
namespace Go.Proofs.Ytligpachgcmkcaa
open Go.RowKit Go.Shelf
set_option maxRecDepth 100000

/-- The document's set: four logs. -/
def DSL (bs : Nat) (gs : List Lg) : Lst := (bs, .cells ⟨setV gs⟩ 76 (0, 0)) :: LsL gs
structure DSR (w : World) (bs : Nat) (gs : List Lg) : Prop where
  b : w.heap[bs]? = some (.cells ⟨setV gs⟩ 76 (0, 0))
  rd : ∀ g ∈ gs, RdSl w (ovp g.ov) iV g.xs
theorem DSR.of {bs : Nat} {gs : List Lg} (hg : GOk gs) {w0 w : World} {S : List Nat} {L : Lst} (hw : Hp w0 S L w) (hin : ∀ x ∈ DSL bs gs, x ∈ L) : DSR w bs gs :=
  ⟨hw.get _ _ (hin _ List.mem_cons_self), fun g h => Lg.rd (hg.ok g h) hw fun x hx => hin _ (List.mem_cons_of_mem _ (mem_LsL h hx))⟩
theorem dhas_ok (bs : Nat) (gs : List Lg) (hg : GOk gs) (s : Int) (w : World) (hs : DSR w bs gs) :
    CallW Try.prog 72 [.pointer (some ⟨bs, 0, none⟩), .int .i64 s] w fun v _ => v = .bool (decide (s ∈ lcat gs)) := by
  have hb := hs.b
  refine enterW (tb := tb) Try.func72 rfl Try.ntmps72 rfl ?_
  repeat' (first | (apply R.is1; (apply R.pure; exact rfl; (apply Ok1.assign; exact rfl))) | apply R.nil | (apply T.is; first | apply T.seq | apply T.region | apply T.block))
  apply T.loopK (α := Nat) (I := fun i => i ≤ 4 ∧ s ∉ lcat (gs.take i)) (σi := fun i => [(0, .pointer (some ⟨bs, 0, none⟩)), (1, .int .i64 s), (5, .int .i64 i)]) (Li := fun _ => []) (μ := fun i => 4 - i) (i0 := 0)
  · exact ⟨Nat.zero_le _, by simp [lcat]⟩
  · exact ⟨rfl, rfl, rfl, trivial⟩
  · (focus ((repeat' (exact Keep.nil _)); done))
  · intro i ⟨hi, hni⟩
    rcases Nat.lt_or_ge i 4 with hlt | hge
    · obtain ⟨g, hx⟩ : ∃ g, gs[i]? = some g := ⟨_, List.getElem?_eq_getElem (by rw [hg.len]; omega)⟩
      have hm := List.mem_of_getElem? hx
      have hcell := setV_get hx (hg.ok g hm)
      have hle := hg.le g hm
      have hrd := hs.rd g hm
      have hsn := lcat_snoc hx
      repeat' (first | (apply R.is1; first | (apply R.isBin; (apply R.pure; exact rfl; (apply Ok1.lss_t; exact rfl; exact rfl; omega))) | (apply R.pure; exact rfl; first | (apply Ok1.move; exact rfl) | (apply Ok1.assign; exact rfl))) | apply R.nil | (apply T.is; first | apply T.seq | apply T.region | apply T.block | apply T.skip | (apply T.cond_t; exact rfl)))
      apply T.loopK (α := Nat) (I := fun k => k ≤ g.xs.length ∧ s ∉ g.xs.take k) (σi := fun k => [(0, .pointer (some ⟨bs, 0, none⟩)), (1, .int .i64 s), (5, .int .i64 i), (6, .int .i64 k)]) (Li := fun _ => []) (μ := fun k => g.xs.length - k) (i0 := 0)
      · exact ⟨Nat.zero_le _, by simp⟩
      · exact ⟨rfl, rfl, rfl, rfl, trivial⟩
      · (focus ((repeat' (exact Keep.nil _)); done))
      · intro k ⟨hk, hnk⟩
        rcases Nat.lt_or_ge k g.xs.length with hlk | hgk
        · obtain ⟨y, hy⟩ : ∃ y, g.xs[k]? = some y := ⟨_, List.getElem?_eq_getElem (by omega)⟩
          obtain ⟨b1, o1, hpe1, H1⟩ := hrd.at hy
          replace H1 := H1 1 iV_len
          by_cases hxy : y = s
          · repeat' (first | (apply R.is1; first | (apply R.isBin; (apply R.pure; exact rfl; first | (apply Ok1.lss_t; exact rfl; exact rfl; omega) | (apply Ok1.eql_t; exact rfl; exact rfl; omega))) | (apply R.isCall; (apply R.pure; exact rfl; (apply Ok1.lenS; (iterate 3 exact rfl)))) | (apply R.pure; exact rfl; first | (apply Ok1.load; exact rfl; first | (apply Ld.blk1; exact rfl; exact rfl; exact hb; exact List.not_mem_nil; exact hcell) | (apply Ld.row0 H1; exact rfl; exact List.not_mem_nil; (iterate 3 exact rfl))) | (apply Ok1.indexAddrP; (iterate 4 exact rfl); exact hpe1; exact rfl; omega; omega) | (apply Ok1.move; exact rfl) | (apply Ok1.fieldAddr; (iterate 5 exact rfl)) | (apply Ok1.assign; exact rfl) | (apply Ok1.indexAddrA; (iterate 5 exact rfl); omega; omega) | (apply Ok1.nilCheck; exact rfl))) | apply R.nil | (apply T.is; first | apply T.seq | apply T.region | apply T.block | apply T.skip | apply T.ret | (apply T.cond_t; exact rfl)))
            all_goals (apply RetOk.t; exact rfl)
            all_goals rw [decide_eq_true]
            refine List.mem_flatMap.2 ⟨g, hm, ?_⟩
            rw [← hxy]
            exact List.mem_of_getElem? hy
          · repeat' (first | (apply R.is1; first | (apply R.isBin; (apply R.pure; exact rfl; first | (apply Ok1.add64; exact rfl; exact rfl; omega; omega) | (apply Ok1.lss_t; exact rfl; exact rfl; omega) | (apply Ok1.eql_f; exact rfl; exact rfl; omega))) | (apply R.isCall; (apply R.pure; exact rfl; (apply Ok1.lenS; (iterate 3 exact rfl)))) | (apply R.pure; exact rfl; first | (apply Ok1.load; exact rfl; first | (apply Ld.blk1; exact rfl; exact rfl; exact hb; exact List.not_mem_nil; exact hcell) | (apply Ld.row0 H1; exact rfl; exact List.not_mem_nil; (iterate 3 exact rfl))) | (apply Ok1.indexAddrP; (iterate 4 exact rfl); exact hpe1; exact rfl; omega; omega) | (apply Ok1.move; exact rfl) | (apply Ok1.fieldAddr; (iterate 5 exact rfl)) | (apply Ok1.assign; exact rfl) | (apply Ok1.indexAddrA; (iterate 5 exact rfl); omega; omega) | (apply Ok1.nilCheck; exact rfl))) | apply R.nil | (apply T.is; first | apply T.seq | apply T.region | apply T.block | apply T.skip | (apply T.cond_t; exact rfl) | (apply T.cond_f; exact rfl)))
            refine ⟨k + 1, ⟨by omega, ?_⟩, by omega, ⟨rfl, rfl, rfl, rfl, trivial⟩, by (focus ((repeat' (exact Keep.nil _)); done))⟩
            rw [List.take_add_one, hy, Option.toList_some, List.mem_append, List.mem_singleton]
            rintro (h | h)
            · exact hnk h
            · exact hxy h.symm
        · repeat' (first | (apply R.is1; first | (apply R.isBin; (apply R.pure; exact rfl; first | (apply Ok1.add64; exact rfl; exact rfl; omega; omega) | (apply Ok1.lss_f; exact rfl; exact rfl; omega))) | (apply R.isCall; (apply R.pure; exact rfl; (apply Ok1.lenS; (iterate 3 exact rfl)))) | (apply R.pure; exact rfl; first | (apply Ok1.load; exact rfl; apply Ld.blk1; exact rfl; exact rfl; exact hb; exact List.not_mem_nil; exact hcell) | (apply Ok1.move; exact rfl) | (apply Ok1.fieldAddr; (iterate 5 exact rfl)) | (apply Ok1.assign; exact rfl) | (apply Ok1.indexAddrA; (iterate 5 exact rfl); omega; omega) | (apply Ok1.nilCheck; exact rfl))) | apply R.nil | (apply T.is; first | apply T.seq | apply T.region | apply T.exit | (apply T.cond_f; exact rfl)))
          refine ⟨i + 1, ⟨by omega, ?_⟩, by omega, ⟨rfl, rfl, rfl, trivial⟩, by (focus ((repeat' (exact Keep.nil _)); done))⟩
          rw [List.take_of_length_le hgk] at hnk
          rw [hsn, List.mem_append]
          rintro (h | h)
          · exact hni h
          · exact hnk h
    · repeat' (first | (apply R.is1; first | (apply R.isBin; (apply R.pure; exact rfl; (apply Ok1.lss_f; exact rfl; exact rfl; omega))) | (apply R.pure; exact rfl; first | (apply Ok1.move; exact rfl) | (apply Ok1.assign; exact rfl))) | apply R.nil | (apply T.is; first | apply T.seq | apply T.region | apply T.exit | apply T.ret | (apply T.cond_f; exact rfl)))
      (apply RetOk.t; exact rfl)
      rw [List.take_of_length_le (by rw [hg.len]; omega)] at hni
      rw [decide_eq_false hni]
theorem drevoke_ok (bs : Nat) (gs : List Lg) (hg : GOk gs) (seed : Int) (p : Option Addr) (n cap : Nat) (xs : List Int) (hn : n = xs.length) (hbig : n ≤ 1000) (w : World) (hp : RdSl w p iV xs) (hoff : xs ≠ [] → Off p (blks (DSL bs gs))) :
    CallM Try.prog 41 [.pointer (some ⟨bs, 0, none⟩), .int .i64 seed, .slice p n cap] (DSL bs gs) w fun v L => ∃ gs', v = .int .i64 (revE (lgs gs) seed xs) ∧ lgs gs' = revL (lgs gs) seed xs ∧ GOk gs' ∧ L = DSL bs gs' := by
  subst hn
  have hse := fun w1 (hc : Chg (blks (DSL bs gs)) w w1) => dright_ok p xs.length cap xs rfl (by omega) w1 (hp.chg' hc hoff)
  by_cases hr : seed < 0 ∨ 4 ≤ seed ∨ ¬ SR xs
  · have he : revE (lgs gs) seed xs = 10 := by rw [revE, if_pos hr]
    have hl : revL (lgs gs) seed xs = lgs gs := by rw [revL, he, if_neg (by decide)]
    rw [he, hl]
    by_cases h0 : seed < 0
    · refine enterK (tb := tb) Try.func41 rfl Try.ntmps41 rfl ?_
      repeat' (first | (apply R.is1; first | (apply R.isBin; (apply R.pure; exact rfl; (apply Ok1.lss_t; exact rfl; exact rfl; omega))) | (apply R.pure; exact rfl; first | (apply Ok1.move; exact rfl) | (apply Ok1.assign; exact rfl) | (apply Ok1.pick_t; exact rfl; exact rfl))) | (apply R.isG; (apply R.guard_not; (iterate 3 exact rfl))) | apply R.nil | (apply T.is; first | apply T.seq | apply T.region | apply T.ret | (apply T.cond_t; exact rfl)))
      (apply RetOk.t; exact rfl)
      exact ⟨_, Keep.last (.all _), gs, rfl, rfl, hg, rfl⟩
    · by_cases h4 : 4 ≤ seed
      · have h3 : 3 < seed := by omega
        refine enterK (tb := tb) Try.func41 rfl Try.ntmps41 rfl ?_
        repeat' (first | (apply R.is1; first | (apply R.isBin; (apply R.pure; exact rfl; first | (apply Ok1.lss_f; exact rfl; exact rfl; omega) | (apply Ok1.gtr_t; exact rfl; exact rfl; omega))) | (apply R.pure; exact rfl; first | (apply Ok1.move; exact rfl) | (apply Ok1.assign; exact rfl) | (apply Ok1.pick_t; exact rfl; exact rfl) | (apply Ok1.pick_f; exact rfl; exact rfl))) | (apply R.isG; first | (apply R.guard_run; exact rfl; exact rfl) | (apply R.guard_not; (iterate 3 exact rfl))) | apply R.nil | (apply T.is; first | apply T.seq | apply T.region | apply T.ret | (apply T.cond_t; exact rfl)))
        (apply RetOk.t; exact rfl)
        exact ⟨_, Keep.last (.all _), gs, rfl, rfl, hg, rfl⟩
      · have h3 : ¬ 3 < seed := by omega
        have hs : ¬ SR xs := by rcases hr with h | h | h; exact absurd h h0; exact absurd h h4; exact h
        rw [decide_eq_false hs] at hse
        refine enterK (tb := tb) Try.func41 rfl Try.ntmps41 rfl ?_
        repeat' (first | (apply R.is1; first | (apply R.isBin; (apply R.pure; exact rfl; first | (apply Ok1.lss_f; exact rfl; exact rfl; omega) | (apply Ok1.gtr_f; exact rfl; exact rfl; omega))) | (apply R.isCall; (apply R.callV (vs := [.slice p xs.length cap]); (iterate 3 exact rfl); intro w1 hw1; exact hse w1 hw1.chg)) | (apply R.pure; exact rfl; first | (apply Ok1.move; exact rfl) | (apply Ok1.assign; exact rfl) | (apply Ok1.pick_f; exact rfl; exact rfl) | (apply Ok1.not_f; exact rfl))) | (apply R.isG; (apply R.guard_run; exact rfl; exact rfl)) | apply R.nil | (apply T.is; first | apply T.seq | apply T.region | apply T.ret | (apply T.cond_t; exact rfl)))
        (apply RetOk.t; exact rfl)
        exact ⟨_, Keep.last (.all _), gs, rfl, rfl, hg, rfl⟩
  · have h0 : ¬ seed < 0 := fun h => hr (.inl h)
    have h4 : ¬ 4 ≤ seed := fun h => hr (.inr (.inl h))
    have h3 : ¬ 3 < seed := by omega
    have hs : SR xs := Classical.not_not.1 fun h => hr (.inr (.inr h))
    rw [decide_eq_true hs] at hse
    obtain ⟨i, rfl⟩ : ∃ i : Nat, seed = i := ⟨seed.toNat, by omega⟩
    have hi4 : i < 4 := by omega
    obtain ⟨g, hx⟩ : ∃ g, gs[i]? = some g := ⟨_, List.getElem?_eq_getElem (by rw [hg.len]; omega)⟩
    have hm := List.mem_of_getElem? hx
    have hgo := hg.ok g hm
    have hgl := hg.le g hm
    have hcell := setV_get hx hgo
    have hgd : (lgs gs).getD (i : Int).toNat [] = g.xs := by
      rw [Int.toNat_natCast, List.getD_eq_getElem?_getD, lgs, List.getElem?_map, hx]
      rfl
    have hrev : revE (lgs gs) i xs = if ¬ (g.xs ++ xs).Nodup then 8 else if 256 < (g.xs ++ xs).length then 6 else 0 := by rw [revE, if_neg hr, hgd]
    have hrl : revL (lgs gs) i xs = if revE (lgs gs) i xs = 0 then (lgs gs).set i (g.xs ++ xs) else lgs gs := by rw [revL, hgd, Int.toNat_natCast]
    have hset := fun g' => setV_set (gs := gs) (i := i) g' (by rw [hg.len]; exact hi4)
    have hrd := fun w1 (hc : Chg (blks (DSL bs gs)) w w1) => hp.chg' hc hoff
    have hall : (g.xs ++ xs).length = g.xs.length + xs.length := List.length_append
    have htw := fun p cap w1 h1 => dtwice_ok p (g.xs ++ xs).length cap (g.xs ++ xs) rfl (by omega) w1 h1
    rw [hrl, hrev]
    clear hrl hrev hgd
    by_cases hnd : (g.xs ++ xs).Nodup
    · rw [decide_eq_false (fun h => h hnd)] at htw
      rw [if_neg (fun h => h hnd)]
      by_cases hf : 256 < (g.xs ++ xs).length
      · rw [if_pos hf, if_neg (by decide)]
        refine enterK (tb := tb) Try.func41 rfl Try.ntmps41 rfl ?_
        simp only [DSL]
        repeat' (first | (apply R.is1; first | (apply R.buildSlice0; (iterate 4 exact rfl); intro b0) | (apply R.isBin; (apply R.pure; exact rfl; first | (apply Ok1.lss_f; exact rfl; exact rfl; omega) | (apply Ok1.gtr_t; exact rfl; exact rfl; omega) | (apply Ok1.gtr_f; exact rfl; exact rfl; omega))) | (apply R.isCall; first | (apply R.callV (vs := [.slice p xs.length cap]); (iterate 3 exact rfl); intro w1 hw1; exact hse w1 hw1.chg) | (focus (apply R.appendRd (xs := g.xs) (v := iV) (sz := 1) (ov := some (b0, 0, [])) (n := 0) (old := []) (m := g.xs.length); (iterate 12 exact rfl); exact ⟨rfl, rfl⟩; (focus ((repeat' (exact Ext.one _ _)); done)); exact rfl; exact iV_len; exact rfl; (intro w1 hw1; exact Lg.rd hgo hw1 fun x hx => List.mem_cons_of_mem _ (List.mem_cons_of_mem _ (mem_LsL hm hx))); (focus (rw [fl_i]; exact iis_one _)); omega; intro ov1 hov1 hsome; rw [Nat.zero_add, List.nil_append, fl_i] at hov1; rw [Nat.zero_add, List.nil_append, fl_i])) | (focus (apply R.appendRd (xs := xs) (v := iV) (sz := 1) (ov := ov1) (n := g.xs.length) (old := iis g.xs) (m := xs.length); (iterate 12 exact rfl); exact hov1; (focus ((repeat' (exact Ext.here _ _)); done)); exact rfl; exact iV_len; exact rfl; (intro w1 hw1; exact hrd w1 hw1.chg); (focus (rw [fl_i]; exact iis_one _)); omega; intro ov2 hov2 hsome2; rw [fl_i, ← iis_app, ← hall] at hov2; rw [fl_i, ← iis_app, ← hall, slV_eq hov2])) | (apply R.callV (vs := [.slice (ovp ov2) (g.xs ++ xs).length (ovc ov2 (g.xs ++ xs).length)]); (iterate 3 exact rfl); intro w1 hw1; exact htw (ovp ov2) (ovc ov2 _) w1 (irdown hov2 hw1 (Ext.mem (by (focus ((repeat' (exact Ext.here _ _)); done)))))) | (apply R.pure; exact rfl; (apply Ok1.lenS; (iterate 3 exact rfl)))) | (apply R.pure; exact rfl; first | (apply Ok1.load; exact rfl; apply Ld.own1; exact rfl; exact rfl; (focus ((repeat' (first | exact At.head | apply At.tail)); done)); exact hcell) | (apply Ok1.move; exact rfl) | (apply Ok1.fieldAddr; (iterate 5 exact rfl)) | (apply Ok1.assign; exact rfl) | (apply Ok1.indexAddrA; (iterate 5 exact rfl); omega; omega) | (apply Ok1.pick_f; exact rfl; exact rfl) | (apply Ok1.not_t; exact rfl) | (apply Ok1.nilCheck; exact rfl))) | (apply R.isG; (apply R.guard_run; exact rfl; exact rfl)) | apply R.nil | (apply T.is; first | apply T.seq | apply T.region | apply T.skip | apply T.ret | (apply T.cond_t; exact rfl) | (apply T.cond_f; exact rfl)))
        (apply RetOk.t; exact rfl)
        refine ⟨_, ?_, gs, rfl, rfl, hg, rfl⟩
        (focus ((repeat' (first | exact Ext.one _ _ | exact Ext.all _ | apply Keep.cons | apply Keep.last | apply Ext.app)); done))
      · rw [if_neg hf, if_pos rfl]
        refine enterK (tb := tb) Try.func41 rfl Try.ntmps41 rfl ?_
        simp only [DSL]
        repeat' (first | (apply R.is1; first | (apply R.buildSlice0; (iterate 4 exact rfl); intro b0) | (apply R.isBin; (apply R.pure; exact rfl; first | (apply Ok1.lss_f; exact rfl; exact rfl; omega) | (apply Ok1.gtr_f; exact rfl; exact rfl; omega))) | (apply R.isCall; first | (apply R.callV (vs := [.slice p xs.length cap]); (iterate 3 exact rfl); intro w1 hw1; exact hse w1 hw1.chg) | (focus (apply R.appendRd (xs := g.xs) (v := iV) (sz := 1) (ov := some (b0, 0, [])) (n := 0) (old := []) (m := g.xs.length); (iterate 12 exact rfl); exact ⟨rfl, rfl⟩; (focus ((repeat' (exact Ext.one _ _)); done)); exact rfl; exact iV_len; exact rfl; (intro w1 hw1; exact Lg.rd hgo hw1 fun x hx => List.mem_cons_of_mem _ (List.mem_cons_of_mem _ (mem_LsL hm hx))); (focus (rw [fl_i]; exact iis_one _)); omega; intro ov1 hov1 hsome; rw [Nat.zero_add, List.nil_append, fl_i] at hov1; rw [Nat.zero_add, List.nil_append, fl_i])) | (focus (apply R.appendRd (xs := xs) (v := iV) (sz := 1) (ov := ov1) (n := g.xs.length) (old := iis g.xs) (m := xs.length); (iterate 12 exact rfl); exact hov1; (focus ((repeat' (exact Ext.here _ _)); done)); exact rfl; exact iV_len; exact rfl; (intro w1 hw1; exact hrd w1 hw1.chg); (focus (rw [fl_i]; exact iis_one _)); omega; intro ov2 hov2 hsome2; rw [fl_i, ← iis_app, ← hall] at hov2; rw [fl_i, ← iis_app, ← hall, slV_eq hov2])) | (apply R.callV (vs := [.slice (ovp ov2) (g.xs ++ xs).length (ovc ov2 (g.xs ++ xs).length)]); (iterate 3 exact rfl); intro w1 hw1; exact htw (ovp ov2) (ovc ov2 _) w1 (irdown hov2 hw1 (Ext.mem (by (focus ((repeat' (exact Ext.here _ _)); done)))))) | (apply R.pure; exact rfl; (apply Ok1.lenS; (iterate 3 exact rfl)))) | (apply R.pure; exact rfl; first | (apply Ok1.load; exact rfl; apply Ld.own1; exact rfl; exact rfl; (focus ((repeat' (first | exact At.head | apply At.tail)); done)); exact hcell) | (apply Ok1.move; exact rfl) | (apply Ok1.fieldAddr; (iterate 5 exact rfl)) | (apply Ok1.assign; exact rfl) | (apply Ok1.indexAddrA; (iterate 5 exact rfl); omega; omega) | (apply Ok1.pick_f; exact rfl; exact rfl) | (apply Ok1.not_t; exact rfl) | (apply Ok1.nilCheck; exact rfl))) | (apply R.is0; (apply R.store; (iterate 6 exact rfl); (focus ((repeat' (first | exact Upd.head | apply Upd.right)); done)); have h9 := hset ⟨ov2, g.xs ++ xs⟩; rw [Lg.v_eq (g := ⟨ov2, g.xs ++ xs⟩) hov2] at h9; exact h9)) | (apply R.isG; (apply R.guard_run; exact rfl; exact rfl)) | apply R.nil | (apply T.is; first | apply T.seq | apply T.region | apply T.skip | apply T.ret | (apply T.cond_f; exact rfl)))
        (apply RetOk.t; exact rfl)
        refine ⟨_, ?_, gs.set i ⟨ov2, g.xs ++ xs⟩, rfl, by rw [lgs, List.map_set]; rfl, hg.set i hov2 (by show (g.xs ++ xs).length ≤ 256; omega), rfl⟩
        rw [LsL_at hx, LsL_set _ (by rw [hg.len]; exact hi4)]
        simp only [Lg.L]
        (focus ((repeat' (first | exact Ext.one _ _ | exact Ext.here _ _ | exact Ext.all _ | apply Keep.cons | apply Keep.app | apply Keep.last | apply Ext.app)); done))
    · rw [decide_eq_true hnd] at htw
      rw [if_pos hnd, if_neg (by decide)]
      refine enterK (tb := tb) Try.func41 rfl Try.ntmps41 rfl ?_
      simp only [DSL]
      repeat' (first | (apply R.is1; first | (apply R.buildSlice0; (iterate 4 exact rfl); intro b0) | (apply R.isBin; (apply R.pure; exact rfl; first | (apply Ok1.lss_f; exact rfl; exact rfl; omega) | (apply Ok1.gtr_f; exact rfl; exact rfl; omega))) | (apply R.isCall; first | (apply R.callV (vs := [.slice p xs.length cap]); (iterate 3 exact rfl); intro w1 hw1; exact hse w1 hw1.chg) | (focus (apply R.appendRd (xs := g.xs) (v := iV) (sz := 1) (ov := some (b0, 0, [])) (n := 0) (old := []) (m := g.xs.length); (iterate 12 exact rfl); exact ⟨rfl, rfl⟩; (focus ((repeat' (exact Ext.one _ _)); done)); exact rfl; exact iV_len; exact rfl; (intro w1 hw1; exact Lg.rd hgo hw1 fun x hx => List.mem_cons_of_mem _ (List.mem_cons_of_mem _ (mem_LsL hm hx))); (focus (rw [fl_i]; exact iis_one _)); omega; intro ov1 hov1 hsome; rw [Nat.zero_add, List.nil_append, fl_i] at hov1; rw [Nat.zero_add, List.nil_append, fl_i])) | (focus (apply R.appendRd (xs := xs) (v := iV) (sz := 1) (ov := ov1) (n := g.xs.length) (old := iis g.xs) (m := xs.length); (iterate 12 exact rfl); exact hov1; (focus ((repeat' (exact Ext.here _ _)); done)); exact rfl; exact iV_len; exact rfl; (intro w1 hw1; exact hrd w1 hw1.chg); (focus (rw [fl_i]; exact iis_one _)); omega; intro ov2 hov2 hsome2; rw [fl_i, ← iis_app, ← hall] at hov2; rw [fl_i, ← iis_app, ← hall, slV_eq hov2])) | (apply R.callV (vs := [.slice (ovp ov2) (g.xs ++ xs).length (ovc ov2 (g.xs ++ xs).length)]); (iterate 3 exact rfl); intro w1 hw1; exact htw (ovp ov2) (ovc ov2 _) w1 (irdown hov2 hw1 (Ext.mem (by (focus ((repeat' (exact Ext.here _ _)); done))))))) | (apply R.pure; exact rfl; first | (apply Ok1.load; exact rfl; apply Ld.own1; exact rfl; exact rfl; (focus ((repeat' (first | exact At.head | apply At.tail)); done)); exact hcell) | (apply Ok1.move; exact rfl) | (apply Ok1.fieldAddr; (iterate 5 exact rfl)) | (apply Ok1.assign; exact rfl) | (apply Ok1.indexAddrA; (iterate 5 exact rfl); omega; omega) | (apply Ok1.pick_f; exact rfl; exact rfl) | (apply Ok1.not_t; exact rfl) | (apply Ok1.nilCheck; exact rfl))) | (apply R.isG; (apply R.guard_run; exact rfl; exact rfl)) | apply R.nil | (apply T.is; first | apply T.seq | apply T.region | apply T.skip | apply T.ret | (apply T.cond_t; exact rfl) | (apply T.cond_f; exact rfl)))
      (apply RetOk.t; exact rfl)
      refine ⟨_, ?_, gs, rfl, rfl, hg, rfl⟩
      (focus ((repeat' (first | exact Ext.one _ _ | exact Ext.all _ | apply Keep.cons | apply Keep.last | apply Ext.app)); done))
end Go.Proofs.Ytligpachgcmkcaa
/- Contracts of the document's revoke: a delta checked. -/
set_option linter.unusedSimpArgs false
set_option linter.unusedVariables false
namespace Go.Proofs.Ytligpachgcmkcaa
open Go.RowKit Go.Shelf
set_option maxRecDepth 100000

theorem dl_from0 {d : Dl} {i : Nat} {x : Int × Pi} (h : d[i]? = some x) : (dlV d)[0 + i * 1]? = some (.int .i64 x.1) := by
  have h2 := dl_from h
  have hlt := (List.getElem?_eq_some_iff.1 h).1
  rw [Nat.zero_add, dlV, List.getElem?_append_left (by rw [iis_len, List.length_map]; omega), h2]
theorem dcheck_ok (d : Dl) (hl : d.length = 4) (hbig : ∀ x ∈ d, x.2.xs.length ≤ 1000000) (w : World) (hr : ∀ x ∈ d, RdSl w x.2.p iV x.2.xs) :
    CallW Try.prog 29 [.agg ⟨dlV d⟩] w fun v _ => v = .bool (decide (DOk d)) := by
  have hse := fun x (hx : x ∈ d) w1 (hc : Chg [] w w1) => dright_ok x.2.p x.2.xs.length x.2.cap x.2.xs rfl (by have := hbig x hx; omega) w1 ((hr x hx).chg' hc (fun _ => Off.nil _))
  have hdl : (dlV d).length = 8 := by simp [dlV, fl_pi, iis_len, hl]
  refine enterW (tb := tb) Try.func29 rfl Try.ntmps29 rfl ?_
  repeat' (first | (apply R.is1; first | (apply R.pure; exact rfl; (apply Ok1.assign; exact rfl)) | (apply R.box; (iterate 3 exact rfl); intro)) | apply R.nil | (apply T.is; first | apply T.seq | apply T.region | apply T.block))
  rename_i b
  apply T.loopK (α := Nat) (I := fun i => i ≤ 4 ∧ ∀ x ∈ d.take i, DOk1 x) (σi := fun i => [(1, .pointer (some ⟨b, 0, none⟩)), (3, .int .i64 i)]) (Li := fun _ => [(b, .cells ⟨dlV d⟩ 32 (0, 0))]) (μ := fun i => 4 - i) (i0 := 0)
  · exact ⟨Nat.zero_le _, by simp⟩
  · exact ⟨rfl, rfl, trivial⟩
  · (focus ((repeat' (first | exact Keep.nil _ | exact Ext.one _ _ | apply Keep.cons)); done))
  · intro i ⟨hi, hall⟩
    rcases Nat.lt_or_ge i 4 with hlt | hge
    · obtain ⟨x, hx⟩ : ∃ x, d[i]? = some x := ⟨_, List.getElem?_eq_getElem (by omega)⟩
      have hm := List.mem_of_getElem? hx
      have h1 := hse x hm
      have hf := dl_from0 hx
      have hg := dl_log hl hx
      have hb := hbig x hm
      have hbad : ¬ DOk1 x → decide (DOk d) = false := fun h => decide_eq_false fun hd => h (hd x hm)
      by_cases c1 : x.1 < 0
      · rw [hbad (fun h => by have := h.1; omega)]
        repeat' (first | (apply R.is1; first | (apply R.isBin; (apply R.pure; exact rfl; (apply Ok1.lss_t; exact rfl; exact rfl; omega))) | (apply R.pure; exact rfl; first | (apply Ok1.load; exact rfl; (apply Ld.own1; exact rfl; exact rfl; exact At.head; exact hf)) | (apply Ok1.move; exact rfl) | (apply Ok1.fieldAddr; (iterate 5 exact rfl)) | (apply Ok1.assign; exact rfl) | (apply Ok1.indexAddrA; (iterate 5 exact rfl); omega; omega) | (apply Ok1.pick_t; exact rfl; exact rfl))) | (apply R.isG; (apply R.guard_not; (iterate 3 exact rfl))) | apply R.nil | (apply T.is; first | apply T.seq | apply T.region | apply T.block | apply T.skip | apply T.ret | (apply T.cond_t; exact rfl)))
        (apply RetOk.t; exact rfl)
        rfl
      · by_cases c2 : 256 < x.1
        · rw [hbad (fun h => by have := h.2.1; omega)]
          repeat' (first | (apply R.is1; first | (apply R.isBin; (apply R.pure; exact rfl; first | (apply Ok1.lss_t; exact rfl; exact rfl; omega) | (apply Ok1.lss_f; exact rfl; exact rfl; omega) | (apply Ok1.gtr_t; exact rfl; exact rfl; omega))) | (apply R.pure; exact rfl; first | (apply Ok1.load; exact rfl; (apply Ld.own1; exact rfl; exact rfl; exact At.head; exact hf)) | (apply Ok1.move; exact rfl) | (apply Ok1.fieldAddr; (iterate 5 exact rfl)) | (apply Ok1.assign; exact rfl) | (apply Ok1.indexAddrA; (iterate 5 exact rfl); omega; omega) | (apply Ok1.pick_t; exact rfl; exact rfl) | (apply Ok1.pick_f; exact rfl; exact rfl))) | (apply R.isG; first | (apply R.guard_run; exact rfl; exact rfl) | (apply R.guard_not; (iterate 3 exact rfl))) | apply R.nil | (apply T.is; first | apply T.seq | apply T.region | apply T.block | apply T.skip | apply T.ret | (apply T.cond_t; exact rfl)))
          (apply RetOk.t; exact rfl)
          rfl
        · by_cases c3 : 256 < x.2.xs.length
          · rw [hbad (fun h => by have := h.2.2.1; omega)]
            repeat' (first | (apply R.is1; first | (apply R.isBin; (apply R.pure; exact rfl; first | (apply Ok1.lss_t; exact rfl; exact rfl; omega) | (apply Ok1.lss_f; exact rfl; exact rfl; omega) | (apply Ok1.gtr_t; exact rfl; exact rfl; omega) | (apply Ok1.gtr_f; exact rfl; exact rfl; omega))) | (apply R.isCall; (apply R.pure; exact rfl; (apply Ok1.lenS; (iterate 3 exact rfl)))) | (apply R.pure; exact rfl; first | (apply Ok1.load; exact rfl; first | (apply Ld.own1; exact rfl; exact rfl; exact At.head; exact hf) | (apply Ld.own1; exact rfl; exact rfl; exact At.head; exact hg)) | (apply Ok1.move; exact rfl) | (apply Ok1.fieldAddr; (iterate 5 exact rfl)) | (apply Ok1.assign; exact rfl) | (apply Ok1.indexAddrA; (iterate 5 exact rfl); omega; omega) | (apply Ok1.pick_t; exact rfl; exact rfl) | (apply Ok1.pick_f; exact rfl; exact rfl))) | (apply R.isG; first | (apply R.guard_run; exact rfl; exact rfl) | (apply R.guard_not; (iterate 3 exact rfl))) | apply R.nil | (apply T.is; first | apply T.seq | apply T.region | apply T.block | apply T.skip | apply T.ret | (apply T.cond_t; exact rfl)))
            (apply RetOk.t; exact rfl)
            rfl
          · by_cases c4 : SR x.2.xs
            · rw [decide_eq_true c4] at h1
              repeat' (first | (apply R.is1; first | (apply R.isBin; (apply R.pure; exact rfl; first | (apply Ok1.add64; exact rfl; exact rfl; omega; omega) | (apply Ok1.lss_t; exact rfl; exact rfl; omega) | (apply Ok1.lss_f; exact rfl; exact rfl; omega) | (apply Ok1.gtr_f; exact rfl; exact rfl; omega))) | (apply R.isCall; first | (apply R.callV (vs := [.slice x.2.p x.2.xs.length x.2.cap]); (iterate 3 exact rfl); intro w1 hw1; exact h1 w1 hw1.chg) | (apply R.pure; exact rfl; (apply Ok1.lenS; (iterate 3 exact rfl)))) | (apply R.pure; exact rfl; first | (apply Ok1.load; exact rfl; first | (apply Ld.own1; exact rfl; exact rfl; exact At.head; exact hf) | (apply Ld.own1; exact rfl; exact rfl; exact At.head; exact hg)) | (apply Ok1.move; exact rfl) | (apply Ok1.fieldAddr; (iterate 5 exact rfl)) | (apply Ok1.assign; exact rfl) | (apply Ok1.indexAddrA; (iterate 5 exact rfl); omega; omega) | (apply Ok1.pick_f; exact rfl; exact rfl) | (apply Ok1.not_t; exact rfl))) | (apply R.isG; (apply R.guard_run; exact rfl; exact rfl)) | apply R.nil | (apply T.is; first | apply T.seq | apply T.region | apply T.block | apply T.skip | (apply T.cond_t; exact rfl) | (apply T.cond_f; exact rfl)))
              refine ⟨i + 1, ⟨by omega, ?_⟩, by omega, ⟨rfl, rfl, trivial⟩, by (focus ((repeat' (first | exact Keep.nil _ | exact Ext.one _ _ | apply Keep.cons)); done))⟩
              intro y hy
              rw [List.take_add_one, hx, List.mem_append] at hy
              rcases hy with hy | hy
              · exact hall y hy
              · simp only [Option.toList_some, List.mem_singleton] at hy
                subst hy
                exact ⟨by omega, by omega, by omega, c4⟩
            · rw [decide_eq_false c4] at h1
              rw [hbad (fun h => c4 h.2.2.2)]
              repeat' (first | (apply R.is1; first | (apply R.isBin; (apply R.pure; exact rfl; first | (apply Ok1.lss_t; exact rfl; exact rfl; omega) | (apply Ok1.lss_f; exact rfl; exact rfl; omega) | (apply Ok1.gtr_f; exact rfl; exact rfl; omega))) | (apply R.isCall; first | (apply R.callV (vs := [.slice x.2.p x.2.xs.length x.2.cap]); (iterate 3 exact rfl); intro w1 hw1; exact h1 w1 hw1.chg) | (apply R.pure; exact rfl; (apply Ok1.lenS; (iterate 3 exact rfl)))) | (apply R.pure; exact rfl; first | (apply Ok1.load; exact rfl; first | (apply Ld.own1; exact rfl; exact rfl; exact At.head; exact hf) | (apply Ld.own1; exact rfl; exact rfl; exact At.head; exact hg)) | (apply Ok1.move; exact rfl) | (apply Ok1.fieldAddr; (iterate 5 exact rfl)) | (apply Ok1.assign; exact rfl) | (apply Ok1.indexAddrA; (iterate 5 exact rfl); omega; omega) | (apply Ok1.pick_f; exact rfl; exact rfl) | (apply Ok1.not_f; exact rfl))) | (apply R.isG; (apply R.guard_run; exact rfl; exact rfl)) | apply R.nil | (apply T.is; first | apply T.seq | apply T.region | apply T.block | apply T.skip | apply T.ret | (apply T.cond_t; exact rfl)))
              (apply RetOk.t; exact rfl)
              rfl
    · repeat' (first | (apply R.is1; first | (apply R.isBin; (apply R.pure; exact rfl; (apply Ok1.lss_f; exact rfl; exact rfl; omega))) | (apply R.pure; exact rfl; first | (apply Ok1.move; exact rfl) | (apply Ok1.assign; exact rfl))) | apply R.nil | (apply T.is; first | apply T.seq | apply T.region | apply T.exit | apply T.ret | (apply T.cond_f; exact rfl)))
      (apply RetOk.t; exact rfl)
      rw [List.take_of_length_le (by omega)] at hall
      rw [decide_eq_true (show DOk d from hall)]
end Go.Proofs.Ytligpachgcmkcaa
/- Plain: a delta's log laid over a log, serial by serial, as the document does. -/
set_option linter.unusedSimpArgs false
set_option linter.unusedVariables false
namespace Go.Proofs.Ytligpachgcmkcaa
open Go.RowKit Go.Shelf

def dM (log l : List Int) (f k : Nat) : Prop := (log.drop f).take (min k (log.length - f)) = l.take (min k (log.length - f))
def dA (log l : List Int) (f k : Nat) : List Int := log ++ (l.take k).drop (log.length - f)
theorem dM_zero (log l : List Int) (f : Nat) : dM log l f 0 := by simp [dM]
theorem dA_zero (log l : List Int) (f : Nat) : dA log l f 0 = log := by simp [dA]
theorem dA_len (log l : List Int) (f k : Nat) : (dA log l f k).length ≤ log.length + k := by
  simp only [dA, List.length_append, List.length_drop, List.length_take]; omega
theorem dA_app {log l : List Int} {f k : Nat} {x : Int} (hk : log.length ≤ f + k) (hx : l[k]? = some x) : dA log l f (k + 1) = dA log l f k ++ [x] := by
  have hlt := (List.getElem?_eq_some_iff.1 hx).1
  have h : log.length - f ≤ (l.take k).length := by rw [List.length_take]; omega
  rw [dA, dA, List.take_add_one, hx, Option.toList_some, List.drop_append_of_le_length h, List.append_assoc]
theorem dM_app {log l : List Int} {f k : Nat} (hk : log.length ≤ f + k) (h : dM log l f k) : dM log l f (k + 1) := by
  unfold dM at *
  rwa [show min (k + 1) (log.length - f) = min k (log.length - f) by omega]
theorem dM_step {log l : List Int} {f k : Nat} {x : Int} (hk : f + k < log.length) (hy : log[f + k]? = some x) (hx : l[k]? = some x) (h : dM log l f k) : dM log l f (k + 1) := by
  unfold dM at *
  rw [show min k (log.length - f) = k by omega] at h
  rw [show min (k + 1) (log.length - f) = k + 1 by omega, List.take_add_one, List.take_add_one, h, List.getElem?_drop, hy, hx]
theorem dA_step {log l : List Int} {f k : Nat} (hk : f + k < log.length) : dA log l f (k + 1) = dA log l f k := by
  have h1 : (l.take (k + 1)).drop (log.length - f) = [] := List.drop_of_length_le (by rw [List.length_take]; omega)
  have h2 : (l.take k).drop (log.length - f) = [] := List.drop_of_length_le (by rw [List.length_take]; omega)
  rw [dA, dA, h1, h2]
theorem dM_bad {log l : List Int} {f k : Nat} {x y : Int} (hk : f + k < log.length) (hy : log[f + k]? = some y) (hx : l[k]? = some x) (hne : y ≠ x) : jE log l f = 3 := by
  have hlt := (List.getElem?_eq_some_iff.1 hx).1
  refine if_pos fun h => hne ?_
  have hb : k < both log l f := by unfold both; omega
  have h2 := congrArg (·[k]?) h
  simp only [List.getElem?_take, if_pos hb, List.getElem?_drop, hy, hx] at h2
  exact Option.some.inj h2
theorem dA_all {log l : List Int} {f : Nat} : jAll log l f = dA log l f l.length := by
  rw [jAll, dA, List.take_length, both]
  rcases Nat.le_total (log.length - f) l.length with h | h
  · rw [Nat.min_eq_left h]
  · rw [Nat.min_eq_right h, List.drop_of_length_le (Nat.le_refl _), List.drop_of_length_le h]
theorem dM_all {log l : List Int} {f : Nat} (h : dM log l f l.length) : jE log l f = if ¬ (dA log l f l.length).Nodup then 3 else if 256 < (dA log l f l.length).length then 6 else 0 := by
  have hb : (log.drop f).take (both log l f) = l.take (both log l f) := by
    unfold dM at h
    rw [both, Nat.min_comm]
    exact h
  rw [jE, if_neg (fun hn => hn hb), dA_all]
/-- What a log would be. -/
def JA (x : Jx) : List Int := jAll x.1 x.2.2 x.2.1.toNat
def sumA (l : List Jx) : Int := (l.map fun x => ((JA x).length : Int) - x.1.length).sum
theorem sumA_snoc {l : List Jx} {i : Nat} {x : Jx} (h : l[i]? = some x) : sumA (l.take (i + 1)) = sumA (l.take i) + (((JA x).length : Int) - x.1.length) := by
  unfold sumA
  rw [List.take_add_one, h]
  simp
theorem JA_len (x : Jx) : (JA x).length ≤ x.1.length + x.2.2.length ∧ x.1.length ≤ (JA x).length := by
  simp only [JA, jAll, List.length_append, List.length_drop]; omega
theorem JA_eq {x : Jx} (h : JE x = 0) : JA x = JL x := by
  unfold JE at h
  rw [JL, jL, if_pos h, JA]
theorem sumA_bd (l : List Jx) (h : ∀ x ∈ l, x.2.2.length ≤ 256) : 0 ≤ sumA l ∧ sumA l ≤ 256 * l.length := by
  induction l with
  | nil => simp [sumA]
  | cons a l ih =>
    have h1 := ih fun x hx => h x (List.mem_cons_of_mem _ hx)
    have h2 := h a List.mem_cons_self
    have h3 := JA_len a
    simp only [sumA, List.map_cons, List.sum_cons, List.length_cons] at *
    omega
end Go.Proofs.Ytligpachgcmkcaa
/- Contracts of the document's revoke: a delta applied. -/
set_option linter.unusedSimpArgs false
set_option linter.unusedVariables false
namespace Go.Proofs.Ytligpachgcmkcaa
open Go.RowKit Go.Shelf
set_option maxRecDepth 100000

theorem dapply_ok (bs : Nat) (gs : List Lg) (hg : GOk gs) (d : Dl) (hd : d.length = 4) (hdb : ∀ x ∈ d, x.2.xs.length ≤ 1000000 ∧ x.2.xs.length ≤ x.2.cap) (w : World) (hr : ∀ x ∈ d, RdSl w x.2.p iV x.2.xs) (hoff : ∀ x ∈ d, x.2.xs ≠ [] → Off x.2.p (blks (DSL bs gs))) :
    CallM Try.prog 42 [.pointer (some ⟨bs, 0, none⟩), .agg ⟨dlV d⟩] (DSL bs gs) w fun v L => ∃ gs', v = .tuple #[.int .i64 (appN (lgs gs) (d.map fun x => (x.1, x.2.xs))), .int .i64 (appX (lgs gs) (d.map fun x => (x.1, x.2.xs)))] ∧ lgs gs' = appL (lgs gs) (d.map fun x => (x.1, x.2.xs)) ∧ GOk gs' ∧ L = DSL bs gs' := by
  have hrd := fun x hx w1 (hc : Chg (blks (DSL bs gs)) w w1) => (hr x hx).chg' hc (hoff x hx)
  have hchk := fun w1 (hc : Chg (blks (DSL bs gs)) w w1) => dcheck_ok d hd (fun x hx => (hdb x hx).1) w1 (fun x hx => hrd x hx w1 hc)
  have hdr : DOk d ↔ DR (d.map fun x => (x.1, x.2.xs)) := by
    unfold DOk DR
    rw [List.forall_mem_map]
    exact Iff.rfl
  have hdl : (dlV d).length = 8 := by simp [dlV, fl_pi, iis_len, hd]
  by_cases hok : DOk d
  · rw [decide_eq_true hok] at hchk
    have hX : appX (lgs gs) (d.map fun x => (x.1, x.2.xs)) = appE (zz gs d) := if_pos (hdr.1 hok)
    have hN : appN (lgs gs) (d.map fun x => (x.1, x.2.xs)) = if appE (zz gs d) = 0 then sumN (zz gs d) else 0 := by rw [appN, hX]; rfl
    have hLL : appL (lgs gs) (d.map fun x => (x.1, x.2.xs)) = if appE (zz gs d) = 0 then (zz gs d).map JL else lgs gs := by rw [appL, hX]; rfl
    rw [hX, hN, hLL]
    clear hX hN hLL
    have hzl := zz_len hg.len hd
    have hz256 : ∀ x ∈ zz gs d, x.1.length ≤ 256 ∧ x.2.2.length ≤ 256 := by
      intro x hx
      unfold zz lgs at hx
      obtain ⟨g, hgm, he⟩ := List.mem_map.1 (List.of_mem_zip hx).1
      obtain ⟨y, hym, he2⟩ := List.mem_map.1 (List.of_mem_zip hx).2
      have := (hok y hym).2.2.1
      rw [← he, ← he2]
      exact ⟨hg.le g hgm, this⟩
    refine enterK (tb := tb) Try.func42 rfl Try.ntmps42 rfl ?_
    simp only [DSL]
    repeat' (first | (apply R.is1; first | (apply R.isCall; (apply R.callV (vs := [.agg ⟨dlV d⟩]); (iterate 3 exact rfl); intro w1 hw1; exact hchk w1 hw1.chg)) | (apply R.pure; exact rfl; first | (apply Ok1.load; exact rfl; apply Ld.ownk; exact rfl; exact rfl; exact At.head; exact subE_all hdl) | (apply Ok1.assign; exact rfl) | (apply Ok1.build; (iterate 5 exact rfl)) | (apply Ok1.not_t; exact rfl)) | (apply R.box; (iterate 3 exact rfl); intro) | (apply R.alloc; (iterate 3 exact rfl); intro)) | (apply R.is0; (apply R.store; (iterate 6 exact rfl); exact Upd.head; exact rfl)) | apply R.nil | (apply T.is; first | apply T.seq | apply T.region | apply T.block | apply T.skip | (apply T.cond_f; exact rfl)))
    rename_i bd bn
    apply T.loopK (α := Nat) (I := fun i => i ≤ 4 ∧ ∀ x ∈ (zz gs d).take i, x.2.1 ≤ (x.1.length : Int)) (σi := fun i => [(0, .pointer (some ⟨bs, 0, none⟩)), (3, .pointer (some ⟨bd, 0, none⟩)), (6, .pointer (some ⟨bn, 0, none⟩)), (7, .int .i64 0), (8, .int .i64 0), (9, .int .i64 i)])
      (Li := fun i => (bd, .cells ⟨dlV d⟩ 32 (0, 0)) :: (bs, .cells ⟨setV gs⟩ 76 (0, 0)) :: (bn, .cells ⟨setV [lg0, lg0, lg0, lg0]⟩ 76 (0, 0)) :: LsL gs) (μ := fun i => 4 - i) (i0 := 0)
    · exact ⟨Nat.zero_le _, by simp⟩
    · exact ⟨rfl, rfl, rfl, rfl, rfl, rfl, trivial⟩
    · (focus ((repeat' (first | exact Ext.one _ _ | exact Ext.all _ | apply Keep.cons | apply Keep.last | apply Ext.cons)); done))
    · intro i ⟨hi, hall⟩
      rcases Nat.lt_or_ge i 4 with hlt | hge
      · obtain ⟨g, hx1⟩ : ∃ g, gs[i]? = some g := ⟨_, List.getElem?_eq_getElem (by rw [hg.len]; omega)⟩
        obtain ⟨x, hx2⟩ : ∃ x, d[i]? = some x := ⟨_, List.getElem?_eq_getElem (by rw [hd]; omega)⟩
        have hm := List.mem_of_getElem? hx1
        have hcell := setV_get hx1 (hg.ok g hm)
        have hgl := hg.le g hm
        have hf := dl_from0 hx2
        have hz := zz_get hx1 hx2
        by_cases c1 : (g.xs.length : Int) < x.1
        · have hE : appE (zz gs d) = 9 := if_pos ⟨_, List.mem_of_getElem? hz, c1⟩
          rw [hE, if_neg (by decide), if_neg (by decide)]
          repeat' (first | (apply R.is1; first | (apply R.isBin; (apply R.pure; exact rfl; (apply Ok1.lss_t; exact rfl; exact rfl; omega))) | (apply R.pure; exact rfl; first | (apply Ok1.move; exact rfl) | (apply Ok1.assign; exact rfl))) | apply R.nil | (apply T.is; first | (apply T.drawC (id := 8) [0,1] (by decide); ((apply A.take 0; exact rfl; exact rfl; kernel_rfl; kernel_rfl; kernel_rfl; (apply Ok1.move; exact rfl)) <;> (apply A.take 1; exact rfl; exact rfl; kernel_rfl; kernel_rfl; kernel_rfl; (apply Ok1.fieldAddr; (iterate 5 exact rfl))) <;> (apply A.take 2; exact rfl; exact rfl; kernel_rfl; kernel_rfl; kernel_rfl; (apply Ok1.indexAddrA; (iterate 5 exact rfl); omega; omega)) <;> (apply A.take 3; exact rfl; exact rfl; kernel_rfl; kernel_rfl; kernel_rfl; (apply Ok1.load; exact rfl; (apply Ld.own1; exact rfl; exact rfl; exact At.head; exact hf))) <;> (apply A.take 4; exact rfl; exact rfl; kernel_rfl; kernel_rfl; kernel_rfl; (apply Ok1.move; exact rfl)) <;> (apply A.take 5; exact rfl; exact rfl; kernel_rfl; kernel_rfl; kernel_rfl; (apply Ok1.move; exact rfl)) <;> (apply A.take 6; exact rfl; exact rfl; kernel_rfl; kernel_rfl; kernel_rfl; (apply Ok1.nilCheck; exact rfl)) <;> (apply A.take 7; exact rfl; exact rfl; kernel_rfl; kernel_rfl; kernel_rfl; (apply Ok1.fieldAddr; (iterate 5 exact rfl))) <;> (apply A.take 8; exact rfl; exact rfl; kernel_rfl; kernel_rfl; kernel_rfl; (apply Ok1.indexAddrA; (iterate 5 exact rfl); omega; omega)) <;> (apply A.take 9; exact rfl; exact rfl; kernel_rfl; kernel_rfl; kernel_rfl; (apply Ok1.load; exact rfl; (apply Ld.own1; exact rfl; exact rfl; (focus ((repeat' (first | exact At.head | apply At.tail)); done)); exact hcell))) <;> (apply A.take 10; exact rfl; exact rfl; kernel_rfl; kernel_rfl; kernel_rfl; (apply Ok1.lenS; (iterate 3 exact rfl))) <;> ((apply A.take 11; exact rfl; exact rfl; kernel_rfl; kernel_rfl; kernel_rfl; (apply Ok1.gtr_t; exact rfl; exact rfl; omega))) <;> (apply A.done; kernel_rfl))) | apply T.seq | apply T.region | apply T.block | apply T.skip | apply T.ret | (apply T.cond_t; exact rfl)))
          (apply RetOk.tt; exact rfl; exact rfl)
          exact ⟨_, by (focus ((repeat' (first | exact Ext.one _ _ | exact Ext.all _ | apply Keep.cons | apply Keep.last | apply Ext.cons)); done)), gs, rfl, rfl, hg, rfl⟩
        · repeat' (first | (apply R.is1; first | (apply R.isBin; (apply R.pure; exact rfl; first | (apply Ok1.add64; exact rfl; exact rfl; omega; omega) | (apply Ok1.lss_t; exact rfl; exact rfl; omega))) | (apply R.pure; exact rfl; first | (apply Ok1.move; exact rfl) | (apply Ok1.assign; exact rfl))) | apply R.nil | (apply T.is; first | (apply T.drawC (id := 8) [0,1] (by decide); ((apply A.take 0; exact rfl; exact rfl; kernel_rfl; kernel_rfl; kernel_rfl; (apply Ok1.move; exact rfl)) <;> (apply A.take 1; exact rfl; exact rfl; kernel_rfl; kernel_rfl; kernel_rfl; (apply Ok1.fieldAddr; (iterate 5 exact rfl))) <;> (apply A.take 2; exact rfl; exact rfl; kernel_rfl; kernel_rfl; kernel_rfl; (apply Ok1.indexAddrA; (iterate 5 exact rfl); omega; omega)) <;> (apply A.take 3; exact rfl; exact rfl; kernel_rfl; kernel_rfl; kernel_rfl; (apply Ok1.load; exact rfl; (apply Ld.own1; exact rfl; exact rfl; exact At.head; exact hf))) <;> (apply A.take 4; exact rfl; exact rfl; kernel_rfl; kernel_rfl; kernel_rfl; (apply Ok1.move; exact rfl)) <;> (apply A.take 5; exact rfl; exact rfl; kernel_rfl; kernel_rfl; kernel_rfl; (apply Ok1.move; exact rfl)) <;> (apply A.take 6; exact rfl; exact rfl; kernel_rfl; kernel_rfl; kernel_rfl; (apply Ok1.nilCheck; exact rfl)) <;> (apply A.take 7; exact rfl; exact rfl; kernel_rfl; kernel_rfl; kernel_rfl; (apply Ok1.fieldAddr; (iterate 5 exact rfl))) <;> (apply A.take 8; exact rfl; exact rfl; kernel_rfl; kernel_rfl; kernel_rfl; (apply Ok1.indexAddrA; (iterate 5 exact rfl); omega; omega)) <;> (apply A.take 9; exact rfl; exact rfl; kernel_rfl; kernel_rfl; kernel_rfl; (apply Ok1.load; exact rfl; (apply Ld.own1; exact rfl; exact rfl; (focus ((repeat' (first | exact At.head | apply At.tail)); done)); exact hcell))) <;> (apply A.take 10; exact rfl; exact rfl; kernel_rfl; kernel_rfl; kernel_rfl; (apply Ok1.lenS; (iterate 3 exact rfl))) <;> ((apply A.take 11; exact rfl; exact rfl; kernel_rfl; kernel_rfl; kernel_rfl; (apply Ok1.gtr_f; exact rfl; exact rfl; omega))) <;> (apply A.done; kernel_rfl))) | apply T.seq | apply T.region | apply T.block | apply T.skip | (apply T.cond_t; exact rfl) | (apply T.cond_f; exact rfl)))
          refine ⟨i + 1, ⟨by omega, ?_⟩, by omega, ⟨rfl, rfl, rfl, rfl, rfl, rfl, trivial⟩, by (focus ((repeat' (first | exact Ext.one _ _ | exact Ext.all _ | apply Keep.cons | apply Keep.last)); done))⟩
          intro y hy
          rw [List.take_add_one, hz, List.mem_append] at hy
          rcases hy with hy | hy
          · exact hall y hy
          · simp only [Option.toList_some, List.mem_singleton] at hy
            subst hy
            simp only
            omega
      · have him : i = 4 := by omega
        subst him
        rw [List.take_of_length_le (by omega)] at hall
        have h9 : ¬ ∃ x ∈ zz gs d, (x.1.length : Int) < x.2.1 := by
          rintro ⟨x, hx, h⟩
          have := hall x hx
          omega
        clear hall hi hge
        have hE : appE (zz gs d) = if ∃ x ∈ zz gs d, JE x = 3 then 3 else if ∃ x ∈ zz gs d, JE x = 6 then 6 else 0 := if_neg h9
        repeat' (first | (apply R.is1; first | (apply R.isBin; (apply R.pure; exact rfl; (apply Ok1.lss_f; exact rfl; exact rfl; omega))) | (apply R.pure; exact rfl; first | (apply Ok1.move; exact rfl) | (apply Ok1.assign; exact rfl))) | apply R.nil | (apply T.is; first | apply T.seq | apply T.region | apply T.block | apply T.exit | (apply T.cond_f; exact rfl)))
        apply T.loopK (α := Nat × List Lg) (I := fun y => y.1 ≤ 4 ∧ y.2.length = 4 ∧ (∀ g ∈ y.2, g.ok) ∧ lgs y.2 = ((zz gs d).take y.1).map JA ++ List.replicate (4 - y.1) [] ∧ ∀ x ∈ (zz gs d).take y.1, JE x ≠ 3)
          (σi := fun y => [(0, .pointer (some ⟨bs, 0, none⟩)), (3, .pointer (some ⟨bd, 0, none⟩)), (6, .pointer (some ⟨bn, 0, none⟩)), (7, .int .i64 (sumA ((zz gs d).take y.1))), (8, .int .i64 (if fullB ((zz gs d).take y.1) then 6 else 0)), (10, .int .i64 y.1)])
          (Li := fun y => (bd, .cells ⟨dlV d⟩ 32 (0, 0)) :: (bs, .cells ⟨setV gs⟩ 76 (0, 0)) :: (bn, .cells ⟨setV y.2⟩ 76 (0, 0)) :: (LsL gs ++ LsL y.2)) (μ := fun y => 4 - y.1) (i0 := (0, [lg0, lg0, lg0, lg0]))
        · exact ⟨Nat.zero_le _, rfl, GOk.new.ok, rfl, by simp⟩
        · exact ⟨rfl, rfl, rfl, rfl, rfl, rfl, trivial⟩
        · simp only [LsL]
          (focus ((repeat' (first | exact Keep.nil _ | exact Ext.one _ _ | exact Ext.all _ | apply Keep.cons | apply Keep.app)); done))
        · rintro ⟨i, gs2⟩ ⟨hi, hg2l, hg2, hlg2, hn3⟩
          simp only at hi hg2l hg2 hlg2 hn3 ⊢
          rcases Nat.lt_or_ge i 4 with hlt | hge
          · obtain ⟨g, hx1⟩ : ∃ g, gs[i]? = some g := ⟨_, List.getElem?_eq_getElem (by rw [hg.len]; omega)⟩
            obtain ⟨x, hx2⟩ : ∃ x, d[i]? = some x := ⟨_, List.getElem?_eq_getElem (by rw [hd]; omega)⟩
            obtain ⟨g2, hx3⟩ : ∃ g2, gs2[i]? = some g2 := ⟨_, List.getElem?_eq_getElem (by rw [hg2l]; omega)⟩
            have hm := List.mem_of_getElem? hx1
            have hgo := hg.ok g hm
            have hgl := hg.le g hm
            have hxm := List.mem_of_getElem? hx2
            obtain ⟨hx0, hx256, hxl, _⟩ := hok x hxm
            have hz := zz_get hx1 hx2
            have hzm := List.mem_of_getElem? hz
            have hcell := setV_get hx1 hgo
            have hl4 := dl_log hd hx2
            have hf0 := dl_from0 hx2
            obtain ⟨f, hk⟩ : ∃ f : Nat, x.1 = f := ⟨x.1.toNat, by omega⟩
            rw [hk] at hf0
            have hfle : f ≤ g.xs.length := Nat.le_of_not_lt fun h => h9 ⟨_, hzm, by simp only; omega⟩
            have hJE : JE (g.xs, x.1, x.2.xs) = jE g.xs x.2.xs f := by rw [JE, hk, Int.toNat_natCast]
            have hJA : JA (g.xs, x.1, x.2.xs) = dA g.xs x.2.xs f x.2.xs.length := by rw [JA, hk, Int.toNat_natCast, dA_all]
            have hsn := sumA_snoc hz
            have hfn := fullB_snoc hz
            rw [hJA] at hsn
            rw [hJE] at hfn
            have hsb := sumA_bd ((zz gs d).take i) fun y hy => (hz256 y (List.mem_of_mem_take hy)).2
            have htl : ((zz gs d).take i).length = i := by rw [List.length_take]; omega
            rw [htl] at hsb
            have hset := fun g' => setV_set (gs := gs2) (i := i) g' (by rw [hg2l]; omega)
            repeat' (first | (apply R.is1; first | (apply R.buildSlice0; (iterate 4 exact rfl); intro b0) | (apply R.isBin; (apply R.pure; exact rfl; (apply Ok1.lss_t; exact rfl; exact rfl; omega))) | (apply R.isCall; (focus (apply R.appendRd (xs := g.xs) (v := iV) (sz := 1) (ov := some (b0, 0, [])) (n := 0) (old := []) (m := g.xs.length); (iterate 12 exact rfl); exact ⟨rfl, rfl⟩; (focus ((repeat' (exact Ext.one _ _)); done)); exact rfl; exact iV_len; exact rfl; (intro w1 hw1; exact Lg.rd hgo hw1 fun z hz => List.mem_cons_of_mem _ (List.mem_cons_of_mem _ (List.mem_cons_of_mem _ (List.mem_cons_of_mem _ (List.mem_append_left _ (mem_LsL hm hz)))))); (focus (rw [fl_i]; exact iis_one _)); omega; intro ov1 hov1 hsome; rw [Nat.zero_add, List.nil_append, fl_i] at hov1; rw [Nat.zero_add, List.nil_append, fl_i]))) | (apply R.pure; exact rfl; first | (apply Ok1.load; exact rfl; apply Ld.own1; exact rfl; exact rfl; (focus ((repeat' (first | exact At.head | apply At.tail)); done)); exact hcell) | (apply Ok1.move; exact rfl) | (apply Ok1.fieldAddr; (iterate 5 exact rfl)) | (apply Ok1.assign; exact rfl) | (apply Ok1.indexAddrA; (iterate 5 exact rfl); omega; omega) | (apply Ok1.nilCheck; exact rfl))) | apply R.nil | (apply T.is; first | apply T.seq | apply T.region | apply T.block | apply T.skip | (apply T.cond_t; exact rfl)))
            apply T.loopK (α := Nat × Ov) (I := fun y => y.1 ≤ x.2.xs.length ∧ dM g.xs x.2.xs f y.1 ∧ OvOk 1 y.2 (dA g.xs x.2.xs f y.1).length (iis (dA g.xs x.2.xs f y.1)))
              (σi := fun y => [(0, .pointer (some ⟨bs, 0, none⟩)), (3, .pointer (some ⟨bd, 0, none⟩)), (6, .pointer (some ⟨bn, 0, none⟩)), (7, .int .i64 (sumA ((zz gs d).take i) + (((dA g.xs x.2.xs f y.1).length : Int) - g.xs.length))), (8, .int .i64 (if fullB ((zz gs d).take i) then 6 else 0)), (10, .int .i64 i), (11, slV y.2 (dA g.xs x.2.xs f y.1).length), (12, .int .i64 y.1)])
              (Li := fun y => (bd, .cells ⟨dlV d⟩ 32 (0, 0)) :: (bs, .cells ⟨setV gs⟩ 76 (0, 0)) :: (bn, .cells ⟨setV gs2⟩ 76 (0, 0)) :: (g.L ++ (LsL (gs.take i) ++ (LsL (gs.drop (i + 1)) ++ (LsL gs2 ++ blkL 3 y.2 (iis (dA g.xs x.2.xs f y.1))))))) (μ := fun y => x.2.xs.length - y.1) (i0 := (0, ov1))
            · exact ⟨Nat.zero_le _, dM_zero _ _ _, by rw [dA_zero]; exact hov1⟩
            · simp only [dA_zero]
              exact ⟨rfl, rfl, rfl, by rw [show (sumA ((zz gs d).take i) + ((g.xs.length : Int) - g.xs.length)) = sumA ((zz gs d).take i) by omega]; rfl, rfl, rfl, rfl, rfl, trivial⟩
            · simp only [dA_zero]
              rw [LsL_at hx1]
              simp only [List.append_assoc]
              (focus ((repeat' (first | exact Ext.one _ _ | exact Ext.here _ _ | exact Ext.all _ | apply Keep.cons | apply Keep.app | apply Keep.last | apply Ext.app)); done))
            · rintro ⟨k, ov⟩ ⟨hkl, hM, hov⟩
              simp only at hkl hM hov ⊢
              have hal := dA_len g.xs x.2.xs f k
              rcases Nat.lt_or_ge k x.2.xs.length with hlk | hgk
              · obtain ⟨y, hy⟩ : ∃ y, x.2.xs[k]? = some y := ⟨_, List.getElem?_eq_getElem (by omega)⟩
                obtain ⟨b1, o1, hpe, H⟩ := (hr x hxm).at hy
                replace H := H 1 iV_len
                have hS : b1 ∉ blks (DSL bs gs) := hoff x hxm (fun e => by rw [e] at hlk; exact absurd hlk (Nat.not_lt_zero _)) _ hpe
                rcases Nat.lt_or_ge (f + k) g.xs.length with hat | hat
                · obtain ⟨z, hzz⟩ : ∃ z, g.xs[f + k]? = some z := ⟨_, List.getElem?_eq_getElem hat⟩
                  obtain ⟨⟨b2, j2, junk⟩, hgov⟩ : ∃ q, g.ov = some q := by
                    cases h : g.ov with
                    | none => have h5 := hgo.2; rw [h] at h5; simp only at h5; omega
                    | some q => exact ⟨q, rfl⟩
                  have hcy : (iis g.xs ++ junk)[0 + (f + k) * 1]? = some (.int .i64 z) := by
                    rw [Nat.zero_add, Nat.mul_one, List.getElem?_append_left (by rw [iis_len]; exact hat), iis, List.getElem?_map, hzz]; rfl
                  simp only [hgov, ovp, ovc] at hcell
                  simp only [Lg.L, hgov, blkL, List.cons_append, List.nil_append]
                  have hstep := dA_step (l := x.2.xs) hat
                  by_cases hzy : z = y
                  · repeat' (first | (apply R.is1; first | (apply R.isBin; (apply R.pure; exact rfl; first | (apply Ok1.add64; exact rfl; exact rfl; omega; omega) | (apply Ok1.lss_t; exact rfl; exact rfl; omega) | (apply Ok1.geq_f; exact rfl; exact rfl; omega))) | (apply R.isCall; (apply R.pure; exact rfl; (apply Ok1.lenS; (iterate 3 exact rfl)))) | (apply R.pure; exact rfl; first | (apply Ok1.load; exact rfl; first | (apply Ld.own1; exact rfl; exact rfl; (focus ((repeat' (first | exact At.head | apply At.tail)); done)); exact hcell) | (apply Ld.own1; exact rfl; exact rfl; exact At.head; exact hf0) | (apply Ld.own1; exact rfl; exact rfl; exact At.head; exact hl4)) | (apply Ok1.move; exact rfl) | (apply Ok1.fieldAddr; (iterate 5 exact rfl)) | (apply Ok1.assign; exact rfl) | (apply Ok1.indexAddrA; (iterate 5 exact rfl); omega; omega) | (apply Ok1.nilCheck; exact rfl))) | apply R.nil | (apply T.is; first | (apply T.drawC (id := 21) [0,1,3] (by decide); ((apply A.take 0; exact rfl; exact rfl; kernel_rfl; kernel_rfl; kernel_rfl; (apply Ok1.move; exact rfl)) <;> (apply A.take 1; exact rfl; exact rfl; kernel_rfl; kernel_rfl; kernel_rfl; (apply Ok1.move; exact rfl)) <;> (apply A.take 2; exact rfl; exact rfl; kernel_rfl; kernel_rfl; kernel_rfl; (apply Ok1.nilCheck; exact rfl)) <;> (apply A.take 3; exact rfl; exact rfl; kernel_rfl; kernel_rfl; kernel_rfl; (apply Ok1.fieldAddr; (iterate 5 exact rfl))) <;> (apply A.take 4; exact rfl; exact rfl; kernel_rfl; kernel_rfl; kernel_rfl; (apply Ok1.indexAddrA; (iterate 5 exact rfl); omega; omega)) <;> (apply A.take 5; exact rfl; exact rfl; kernel_rfl; kernel_rfl; kernel_rfl; (apply Ok1.load; exact rfl; (apply Ld.own1; exact rfl; exact rfl; (focus ((repeat' (first | exact At.head | apply At.tail)); done)); exact hcell))) <;> (apply A.take 6; exact rfl; exact rfl; kernel_rfl; kernel_rfl; kernel_rfl; (apply Ok1.move; exact rfl)) <;> (apply A.take 7; exact rfl; exact rfl; kernel_rfl; kernel_rfl; kernel_rfl; (apply Ok1.indexAddr; (iterate 5 exact rfl); omega; omega)) <;> (apply A.take 8; exact rfl; exact rfl; kernel_rfl; kernel_rfl; kernel_rfl; (apply Ok1.load; exact rfl; (apply Ld.own1; exact rfl; exact rfl; (focus ((repeat' (first | exact At.head | apply At.tail)); done)); exact hcy))) <;> (apply A.take 9; exact rfl; exact rfl; kernel_rfl; kernel_rfl; kernel_rfl; (apply Ok1.move; exact rfl)) <;> (apply A.take 10; exact rfl; exact rfl; kernel_rfl; kernel_rfl; kernel_rfl; (apply Ok1.fieldAddr; (iterate 5 exact rfl))) <;> (apply A.take 11; exact rfl; exact rfl; kernel_rfl; kernel_rfl; kernel_rfl; (apply Ok1.indexAddrA; (iterate 5 exact rfl); omega; omega)) <;> (apply A.take 12; exact rfl; exact rfl; kernel_rfl; kernel_rfl; kernel_rfl; (apply Ok1.load; exact rfl; (apply Ld.own1; exact rfl; exact rfl; exact At.head; exact hl4))) <;> (apply A.take 13; exact rfl; exact rfl; kernel_rfl; kernel_rfl; kernel_rfl; (apply Ok1.move; exact rfl)) <;> (apply A.take 14; exact rfl; exact rfl; kernel_rfl; kernel_rfl; kernel_rfl; (apply Ok1.indexAddrP; (iterate 4 exact rfl); exact hpe; exact rfl; omega; omega)) <;> (apply A.take 15; exact rfl; exact rfl; kernel_rfl; kernel_rfl; kernel_rfl; (apply Ok1.load; exact rfl; (apply Ld.row0 H; exact rfl; exact hS; (iterate 3 exact rfl)))) <;> ((apply A.take 16; exact rfl; exact rfl; kernel_rfl; kernel_rfl; kernel_rfl; (apply Ok1.neq_f; exact rfl; exact rfl; omega))) <;> (apply A.done; kernel_rfl))) | apply T.seq | apply T.region | apply T.block | apply T.skip | (apply T.cond_t; exact rfl) | (apply T.cond_f; exact rfl)))
                    refine ⟨(k + 1, ov), ⟨by simp only; omega, dM_step hat hzz (by rw [hy, hzy]) hM, by simp only [hstep]; exact hov⟩, by simp only; omega, ?_, ?_⟩
                    · simp only [hstep]
                      exact ⟨rfl, rfl, rfl, rfl, rfl, rfl, rfl, rfl, trivial⟩
                    · simp only [hstep, Lg.L, hgov, blkL, List.cons_append, List.nil_append]
                      (focus ((repeat' (first | exact Ext.one _ _ | exact Ext.here _ _ | exact Ext.all _ | apply Keep.cons | apply Keep.app | apply Keep.last)); done))
                  · have h3 : ∃ x ∈ zz gs d, JE x = 3 := ⟨_, hzm, by rw [hJE]; exact dM_bad hat hzz hy hzy⟩
                    rw [hE, if_pos h3, if_neg (show ¬ (3 : Int) = 0 by decide), if_neg (show ¬ (3 : Int) = 0 by decide)]
                    repeat' (first | (apply R.is1; first | (apply R.isBin; (apply R.pure; exact rfl; first | (apply Ok1.add64; exact rfl; exact rfl; omega; omega) | (apply Ok1.lss_t; exact rfl; exact rfl; omega) | (apply Ok1.geq_f; exact rfl; exact rfl; omega))) | (apply R.isCall; (apply R.pure; exact rfl; (apply Ok1.lenS; (iterate 3 exact rfl)))) | (apply R.pure; exact rfl; first | (apply Ok1.load; exact rfl; first | (apply Ld.own1; exact rfl; exact rfl; (focus ((repeat' (first | exact At.head | apply At.tail)); done)); exact hcell) | (apply Ld.own1; exact rfl; exact rfl; exact At.head; exact hf0) | (apply Ld.own1; exact rfl; exact rfl; exact At.head; exact hl4)) | (apply Ok1.move; exact rfl) | (apply Ok1.fieldAddr; (iterate 5 exact rfl)) | (apply Ok1.assign; exact rfl) | (apply Ok1.indexAddrA; (iterate 5 exact rfl); omega; omega) | (apply Ok1.nilCheck; exact rfl))) | apply R.nil | (apply T.is; first | (apply T.drawC (id := 21) [0,1,3] (by decide); ((apply A.take 0; exact rfl; exact rfl; kernel_rfl; kernel_rfl; kernel_rfl; (apply Ok1.move; exact rfl)) <;> (apply A.take 1; exact rfl; exact rfl; kernel_rfl; kernel_rfl; kernel_rfl; (apply Ok1.move; exact rfl)) <;> (apply A.take 2; exact rfl; exact rfl; kernel_rfl; kernel_rfl; kernel_rfl; (apply Ok1.nilCheck; exact rfl)) <;> (apply A.take 3; exact rfl; exact rfl; kernel_rfl; kernel_rfl; kernel_rfl; (apply Ok1.fieldAddr; (iterate 5 exact rfl))) <;> (apply A.take 4; exact rfl; exact rfl; kernel_rfl; kernel_rfl; kernel_rfl; (apply Ok1.indexAddrA; (iterate 5 exact rfl); omega; omega)) <;> (apply A.take 5; exact rfl; exact rfl; kernel_rfl; kernel_rfl; kernel_rfl; (apply Ok1.load; exact rfl; (apply Ld.own1; exact rfl; exact rfl; (focus ((repeat' (first | exact At.head | apply At.tail)); done)); exact hcell))) <;> (apply A.take 6; exact rfl; exact rfl; kernel_rfl; kernel_rfl; kernel_rfl; (apply Ok1.move; exact rfl)) <;> (apply A.take 7; exact rfl; exact rfl; kernel_rfl; kernel_rfl; kernel_rfl; (apply Ok1.indexAddr; (iterate 5 exact rfl); omega; omega)) <;> (apply A.take 8; exact rfl; exact rfl; kernel_rfl; kernel_rfl; kernel_rfl; (apply Ok1.load; exact rfl; (apply Ld.own1; exact rfl; exact rfl; (focus ((repeat' (first | exact At.head | apply At.tail)); done)); exact hcy))) <;> (apply A.take 9; exact rfl; exact rfl; kernel_rfl; kernel_rfl; kernel_rfl; (apply Ok1.move; exact rfl)) <;> (apply A.take 10; exact rfl; exact rfl; kernel_rfl; kernel_rfl; kernel_rfl; (apply Ok1.fieldAddr; (iterate 5 exact rfl))) <;> (apply A.take 11; exact rfl; exact rfl; kernel_rfl; kernel_rfl; kernel_rfl; (apply Ok1.indexAddrA; (iterate 5 exact rfl); omega; omega)) <;> (apply A.take 12; exact rfl; exact rfl; kernel_rfl; kernel_rfl; kernel_rfl; (apply Ok1.load; exact rfl; (apply Ld.own1; exact rfl; exact rfl; exact At.head; exact hl4))) <;> (apply A.take 13; exact rfl; exact rfl; kernel_rfl; kernel_rfl; kernel_rfl; (apply Ok1.move; exact rfl)) <;> (apply A.take 14; exact rfl; exact rfl; kernel_rfl; kernel_rfl; kernel_rfl; (apply Ok1.indexAddrP; (iterate 4 exact rfl); exact hpe; exact rfl; omega; omega)) <;> (apply A.take 15; exact rfl; exact rfl; kernel_rfl; kernel_rfl; kernel_rfl; (apply Ok1.load; exact rfl; (apply Ld.row0 H; exact rfl; exact hS; (iterate 3 exact rfl)))) <;> ((apply A.take 16; exact rfl; exact rfl; kernel_rfl; kernel_rfl; kernel_rfl; (apply Ok1.neq_t; exact rfl; exact rfl; omega))) <;> (apply A.done; kernel_rfl))) | apply T.seq | apply T.region | apply T.block | apply T.skip | apply T.ret | (apply T.cond_t; exact rfl) | (apply T.cond_f; exact rfl)))
                    (apply RetOk.tt; exact rfl; exact rfl)
                    refine ⟨_, ?_, gs, rfl, rfl, hg, rfl⟩
                    rw [LsL_at hx1]
                    simp only [Lg.L, hgov, blkL, List.cons_append, List.nil_append]
                    (focus ((repeat' (first | exact Ext.one _ _ | exact Ext.here _ _ | apply Keep.cons | apply Keep.app | apply Keep.last | apply Ext.cons)); done))
                · have happ := dA_app hat hy
                  repeat' (first | (apply R.is1; first | (apply R.isBin; (apply R.pure; exact rfl; first | (apply Ok1.add64; exact rfl; exact rfl; omega; omega) | (apply Ok1.lss_t; exact rfl; exact rfl; omega) | (apply Ok1.geq_t; exact rfl; exact rfl; omega))) | (apply R.isCall; first | (apply R.append1; (iterate 12 exact rfl); (focus ((repeat' (first | exact OwnAt.base hov | apply OwnAt.tail | apply OwnAt.right)); done)); exact At.head; exact rfl; exact rfl; omega; omega; intro b2 j2 k2 hj2) | (apply R.pure; exact rfl; (apply Ok1.lenS; (iterate 3 exact rfl)))) | (apply R.pure; exact rfl; first | (apply Ok1.load; exact rfl; first | (apply Ld.own1; exact rfl; exact rfl; (focus ((repeat' (first | exact At.head | apply At.tail | apply At.right)); done)); exact hcell) | (apply Ld.own1; exact rfl; exact rfl; (focus ((repeat' (first | exact At.head | apply At.tail | apply At.right)); done)); exact hf0) | (apply Ld.own1; exact rfl; exact rfl; (focus ((repeat' (first | exact At.head | apply At.tail | apply At.right)); done)); exact hl4) | (apply Ld.row0 H; exact rfl; exact hS; (iterate 3 exact rfl))) | (apply Ok1.indexAddrP; (iterate 4 exact rfl); exact hpe; exact rfl; omega; omega) | (apply Ok1.move; exact rfl) | (apply Ok1.fieldAddr; (iterate 5 exact rfl)) | (apply Ok1.assign; exact rfl) | (apply Ok1.indexAddrA; (iterate 5 exact rfl); omega; omega) | (apply Ok1.nilCheck; exact rfl)) | (apply R.buildSlice; (iterate 12 exact rfl); intro)) | apply R.nil | (apply T.is; first | apply T.seq | apply T.region | apply T.block | apply T.skip | (apply T.cond_t; exact rfl)))
                  refine ⟨(k + 1, some (b2, j2, k2)), ⟨by simp only; omega, dM_app hat hM, ?_⟩, by simp only; omega, ?_, ?_⟩
                  · have := hov.some (b := b2) (ys := [Value.int .i64 y]) (m := 1) rfl hj2
                    simp only [happ, iis_app, List.length_append, List.length_cons, List.length_nil]
                    exact this
                  · simp only [happ, List.length_append, List.length_cons, List.length_nil]
                    refine ⟨rfl, rfl, rfl, ?_, rfl, rfl, rfl, rfl, trivial⟩
                    refine congrArg (fun z => some (Value.int .i64 z)) ?_
                    omega
                  · simp only [happ, iis_app]
                    (focus ((repeat' (first | exact Keep.nil _ | exact Ext.one _ _ | exact Ext.here _ _ | apply Keep.cons | apply Keep.app | apply Ext.cons)); done))
              · have hke : k = x.2.xs.length := by omega
                subst hke
                have hje := dM_all hM
                have htw := fun w1 h1 => dtwice_ok (ovp ov) (dA g.xs x.2.xs f x.2.xs.length).length (ovc ov (dA g.xs x.2.xs f x.2.xs.length).length) (dA g.xs x.2.xs f x.2.xs.length) rfl (by omega) w1 h1
                simp only [slV_eq hov]
                by_cases hnd : (dA g.xs x.2.xs f x.2.xs.length).Nodup
                · rw [decide_eq_false (fun h => h hnd)] at htw
                  rw [if_neg (fun h => h hnd)] at hje
                  have hlg3 : lgs (gs2.set i ⟨ov, dA g.xs x.2.xs f x.2.xs.length⟩) = ((zz gs d).take (i + 1)).map JA ++ List.replicate (4 - (i + 1)) [] := by
                    rw [lgs, List.map_set, ← lgs, hlg2, show 4 - i = (4 - (i + 1)) + 1 by omega, set_mid (by rw [List.length_map, htl]), List.take_add_one, hz]
                    simp [hJA]
                  have hok3 : ∀ q ∈ gs2.set i ⟨ov, dA g.xs x.2.xs f x.2.xs.length⟩, q.ok := fun q hq => by
                    rcases List.mem_or_eq_of_mem_set hq with h1 | rfl
                    · exact hg2 q h1
                    · exact hov
                  have hne3 : jE g.xs x.2.xs f ≠ 3 → ∀ x ∈ (zz gs d).take (i + 1), JE x ≠ 3 := by
                    intro hne y hy
                    rw [List.take_add_one, hz, List.mem_append] at hy
                    rcases hy with hy | hy
                    · exact hn3 y hy
                    · simp only [Option.toList_some, List.mem_singleton] at hy
                      rw [hy, hJE]
                      exact hne
                  by_cases hf : 256 < (dA g.xs x.2.xs f x.2.xs.length).length
                  · rw [if_pos hf] at hje
                    rw [hje] at hfn
                    repeat' (first | (apply R.is1; first | (apply R.isBin; (apply R.pure; exact rfl; first | (apply Ok1.add64; exact rfl; exact rfl; omega; omega) | (apply Ok1.lss_f; exact rfl; exact rfl; omega) | (apply Ok1.gtr_t; exact rfl; exact rfl; omega))) | (apply R.isCall; first | (apply R.callV (vs := [.slice (ovp ov) (dA g.xs x.2.xs f x.2.xs.length).length (ovc ov (dA g.xs x.2.xs f x.2.xs.length).length)]); (iterate 3 exact rfl); intro w1 hw1; exact htw w1 (irdown hov hw1 (Ext.mem (by (focus ((repeat' (first | exact Ext.all _ | apply Ext.cons | apply Ext.app)); done)))))) | (apply R.pure; exact rfl; (apply Ok1.lenS; (iterate 3 exact rfl)))) | (apply R.pure; exact rfl; first | (apply Ok1.load; exact rfl; apply Ld.own1; exact rfl; exact rfl; exact At.head; exact hl4) | (apply Ok1.move; exact rfl) | (apply Ok1.fieldAddr; (iterate 5 exact rfl)) | (apply Ok1.assign; exact rfl) | (apply Ok1.indexAddrA; (iterate 5 exact rfl); omega; omega))) | (apply R.is0; (apply R.store; (iterate 6 exact rfl); (focus ((repeat' (first | exact Upd.head | apply Upd.tail)); done)); have h9 := hset ⟨ov, dA g.xs x.2.xs f x.2.xs.length⟩; rw [Lg.v_eq (g := ⟨ov, dA g.xs x.2.xs f x.2.xs.length⟩) hov] at h9; exact h9)) | apply R.nil | (apply T.is; first | apply T.seq | apply T.region | apply T.skip | apply T.exit | (apply T.cond_t; exact rfl) | (apply T.cond_f; exact rfl)))
                    refine ⟨(i + 1, gs2.set i ⟨ov, dA g.xs x.2.xs f x.2.xs.length⟩), ⟨by simp only; omega, by simp only [List.length_set]; exact hg2l, hok3, hlg3, hne3 (by rw [hje]; decide)⟩, by simp only; omega, ?_, ?_⟩
                    · simp only [hsn, hfn]
                      exact ⟨rfl, rfl, rfl, rfl, by simp; rfl, rfl, trivial⟩
                    · simp only
                      rw [LsL_set _ (by rw [hg2l]; omega), LsL_at hx1, LsL_at hx3]
                      simp only [Lg.L, List.append_assoc]
                      (focus ((repeat' (first | exact Ext.one _ _ | exact Ext.here _ _ | exact Ext.all _ | apply Keep.cons | apply Keep.app | apply Keep.last | apply Ext.app)); done))
                  · rw [if_neg hf] at hje
                    rw [hje] at hfn
                    repeat' (first | (apply R.is1; first | (apply R.isBin; (apply R.pure; exact rfl; first | (apply Ok1.add64; exact rfl; exact rfl; omega; omega) | (apply Ok1.lss_f; exact rfl; exact rfl; omega) | (apply Ok1.gtr_f; exact rfl; exact rfl; omega))) | (apply R.isCall; first | (apply R.callV (vs := [.slice (ovp ov) (dA g.xs x.2.xs f x.2.xs.length).length (ovc ov (dA g.xs x.2.xs f x.2.xs.length).length)]); (iterate 3 exact rfl); intro w1 hw1; exact htw w1 (irdown hov hw1 (Ext.mem (by (focus ((repeat' (first | exact Ext.all _ | apply Ext.cons | apply Ext.app)); done)))))) | (apply R.pure; exact rfl; (apply Ok1.lenS; (iterate 3 exact rfl)))) | (apply R.pure; exact rfl; first | (apply Ok1.load; exact rfl; apply Ld.own1; exact rfl; exact rfl; exact At.head; exact hl4) | (apply Ok1.move; exact rfl) | (apply Ok1.fieldAddr; (iterate 5 exact rfl)) | (apply Ok1.assign; exact rfl) | (apply Ok1.indexAddrA; (iterate 5 exact rfl); omega; omega))) | (apply R.is0; (apply R.store; (iterate 6 exact rfl); (focus ((repeat' (first | exact Upd.head | apply Upd.tail)); done)); have h9 := hset ⟨ov, dA g.xs x.2.xs f x.2.xs.length⟩; rw [Lg.v_eq (g := ⟨ov, dA g.xs x.2.xs f x.2.xs.length⟩) hov] at h9; exact h9)) | apply R.nil | (apply T.is; first | apply T.seq | apply T.region | apply T.skip | apply T.exit | (apply T.cond_f; exact rfl)))
                    refine ⟨(i + 1, gs2.set i ⟨ov, dA g.xs x.2.xs f x.2.xs.length⟩), ⟨by simp only; omega, by simp only [List.length_set]; exact hg2l, hok3, hlg3, hne3 (by rw [hje]; decide)⟩, by simp only; omega, ?_, ?_⟩
                    · simp only [hsn, hfn]
                      exact ⟨rfl, rfl, rfl, rfl, by simp; rfl, rfl, trivial⟩
                    · simp only
                      rw [LsL_set _ (by rw [hg2l]; omega), LsL_at hx1, LsL_at hx3]
                      simp only [Lg.L, List.append_assoc]
                      (focus ((repeat' (first | exact Ext.one _ _ | exact Ext.here _ _ | exact Ext.all _ | apply Keep.cons | apply Keep.app | apply Keep.last | apply Ext.app)); done))
                · rw [decide_eq_true hnd] at htw
                  rw [if_pos hnd] at hje
                  have h3 : ∃ x ∈ zz gs d, JE x = 3 := ⟨_, hzm, by rw [hJE]; exact hje⟩
                  rw [hE, if_pos h3, if_neg (show ¬ (3 : Int) = 0 by decide), if_neg (show ¬ (3 : Int) = 0 by decide)]
                  repeat' (first | (apply R.is1; first | (apply R.isBin; (apply R.pure; exact rfl; (apply Ok1.lss_f; exact rfl; exact rfl; omega))) | (apply R.isCall; first | (apply R.callV (vs := [.slice (ovp ov) (dA g.xs x.2.xs f x.2.xs.length).length (ovc ov (dA g.xs x.2.xs f x.2.xs.length).length)]); (iterate 3 exact rfl); intro w1 hw1; exact htw w1 (irdown hov hw1 (Ext.mem (by (focus ((repeat' (first | exact Ext.all _ | apply Ext.cons | apply Ext.app)); done)))))) | (apply R.pure; exact rfl; (apply Ok1.lenS; (iterate 3 exact rfl)))) | (apply R.pure; exact rfl; first | (apply Ok1.load; exact rfl; apply Ld.own1; exact rfl; exact rfl; exact At.head; exact hl4) | (apply Ok1.move; exact rfl) | (apply Ok1.fieldAddr; (iterate 5 exact rfl)) | (apply Ok1.assign; exact rfl) | (apply Ok1.indexAddrA; (iterate 5 exact rfl); omega; omega))) | apply R.nil | (apply T.is; first | apply T.seq | apply T.region | apply T.exit | apply T.ret | (apply T.cond_t; exact rfl) | (apply T.cond_f; exact rfl)))
                  (apply RetOk.tt; exact rfl; exact rfl)
                  refine ⟨_, ?_, gs, rfl, rfl, hg, rfl⟩
                  rw [LsL_at hx1]
                  (focus ((repeat' (first | exact Ext.one _ _ | exact Ext.here _ _ | apply Keep.cons | apply Keep.app | apply Keep.last | apply Ext.cons | apply Ext.app)); done))
          · have him : i = 4 := by omega
            subst him
            have htk : (zz gs d).take 4 = zz gs d := List.take_of_length_le (by omega)
            rw [htk] at hlg2 hn3 ⊢
            rw [if_neg (fun ⟨x, hx, he⟩ => hn3 x hx he)] at hE
            rw [Nat.sub_self, List.replicate_zero, List.append_nil] at hlg2
            by_cases h6 : ∃ x ∈ zz gs d, JE x = 6
            · have hfb : fullB (zz gs d) = true := by
                obtain ⟨x, hx, he⟩ := h6
                exact List.any_eq_true.2 ⟨x, hx, decide_eq_true he⟩
              rw [if_pos h6] at hE
              rw [hfb, hE, if_pos rfl, if_neg (show ¬ (6 : Int) = 0 by decide), if_neg (show ¬ (6 : Int) = 0 by decide)]
              repeat' (first | (apply R.is1; first | (apply R.isBin; (apply R.pure; exact rfl; first | (apply Ok1.lss_f; exact rfl; exact rfl; omega) | (apply Ok1.neq_t; exact rfl; exact rfl; omega))) | (apply R.pure; exact rfl; first | (apply Ok1.move; exact rfl) | (apply Ok1.assign; exact rfl))) | apply R.nil | (apply T.is; first | apply T.seq | apply T.region | apply T.exit | apply T.ret | (apply T.cond_t; exact rfl) | (apply T.cond_f; exact rfl)))
              (apply RetOk.tt; exact rfl; exact rfl)
              exact ⟨_, by (focus ((repeat' (first | exact Ext.one _ _ | exact Ext.here _ _ | apply Keep.cons | apply Keep.last | apply Ext.cons)); done)), gs, rfl, rfl, hg, rfl⟩
            · have hfb : fullB (zz gs d) = false := by
                cases h : fullB (zz gs d) with
                | false => rfl
                | true =>
                  obtain ⟨x, hx, he⟩ := List.any_eq_true.1 h
                  exact absurd ⟨x, hx, of_decide_eq_true he⟩ h6
              have h0 : ∀ x ∈ zz gs d, JE x = 0 := fun x hx => by
                rcases je_cases x with h | h | h
                · exact h
                · exact absurd h (hn3 x hx)
                · exact absurd ⟨x, hx, h⟩ h6
              have hJJ : (zz gs d).map JA = (zz gs d).map JL := List.map_congr_left fun x hx => JA_eq (h0 x hx)
              have hss : sumA (zz gs d) = sumN (zz gs d) := by
                unfold sumA sumN
                rw [List.map_congr_left (g := fun x => ((JL x).length : Int) - x.1.length) fun x hx => by rw [JA_eq (h0 x hx)]]
              rw [hJJ] at hlg2
              have hgk : GOk gs2 := ⟨hg2l, hg2, fun q hq => by
                have h1 : q.xs ∈ lgs gs2 := List.mem_map.2 ⟨q, hq, rfl⟩
                rw [hlg2] at h1
                obtain ⟨z, _, hz⟩ := List.mem_map.1 h1
                rw [← hz]
                exact jl_len z⟩
              have hv1 : (setV gs2).length = 4 := by rw [setV, List.length_map, hg2l]
              have hv0 : (setV gs).length = 4 := by rw [setV, List.length_map, hg.len]
              have hone : (setV gs2).all Value.oneCell' = true := by
                rw [List.all_eq_true]
                intro v hv
                obtain ⟨q, hq, rfl⟩ := List.mem_map.1 hv
                rw [Lg.v_eq (hg2 q hq)]
                rfl
              rw [if_neg h6] at hE
              rw [hfb, hE, hss, if_neg (show ¬ false = true by decide), if_pos rfl, if_pos rfl]
              repeat' (first | (apply R.is1; first | (apply R.isBin; (apply R.pure; exact rfl; first | (apply Ok1.lss_f; exact rfl; exact rfl; omega) | (apply Ok1.neq_f; exact rfl; exact rfl; omega))) | (apply R.pure; exact rfl; first | (apply Ok1.load; exact rfl; apply Ld.ownk; exact rfl; exact rfl; (focus ((repeat' (first | exact At.head | apply At.tail)); done)); exact setV_all hg2l) | (apply Ok1.move; exact rfl) | (apply Ok1.assign; exact rfl) | (apply Ok1.nilCheck; exact rfl))) | (apply R.is0; (apply R.store; (iterate 4 exact rfl); exact hv1; exact hone; (focus ((repeat' (first | exact Upd.head | apply Upd.tail)); done)); exact setE_all (by rw [hv0, hv1]))) | apply R.nil | (apply T.is; first | apply T.seq | apply T.region | apply T.skip | apply T.exit | apply T.ret | (apply T.cond_f; exact rfl)))
              (apply RetOk.tt; exact rfl; exact rfl)
              exact ⟨_, by (focus ((repeat' (first | exact Ext.one _ _ | exact Ext.all _ | apply Keep.cons | apply Keep.last | apply Ext.cons | apply Ext.app)); done)), gs2, rfl, hlg2, hgk, rfl⟩
  · rw [decide_eq_false hok] at hchk
    have hX : appX (lgs gs) (d.map fun x => (x.1, x.2.xs)) = 10 := if_neg fun h => hok (hdr.2 h)
    have hN : appN (lgs gs) (d.map fun x => (x.1, x.2.xs)) = 0 := by rw [appN, hX]; rfl
    have hLL : appL (lgs gs) (d.map fun x => (x.1, x.2.xs)) = lgs gs := by rw [appL, hX]; rfl
    rw [hX, hN, hLL]
    refine enterK (tb := tb) Try.func42 rfl Try.ntmps42 rfl ?_
    simp only [DSL]
    repeat' (first | (apply R.is1; first | (apply R.isCall; (apply R.callV (vs := [.agg ⟨dlV d⟩]); (iterate 3 exact rfl); intro w1 hw1; exact hchk w1 hw1.chg)) | (apply R.pure; exact rfl; first | (apply Ok1.load; exact rfl; apply Ld.ownk; exact rfl; exact rfl; exact At.head; exact subE_all hdl) | (apply Ok1.assign; exact rfl) | (apply Ok1.not_f; exact rfl)) | (apply R.box; (iterate 3 exact rfl); intro)) | apply R.nil | (apply T.is; first | apply T.seq | apply T.region | apply T.ret | (apply T.cond_t; exact rfl)))
    (apply RetOk.tt; exact rfl; exact rfl)
    exact ⟨_, by (focus ((repeat' (first | exact Ext.one _ _ | exact Ext.all _ | apply Keep.cons | apply Keep.last | apply Ext.cons)); done)), gs, rfl, rfl, hg, rfl⟩
end Go.Proofs.Ytligpachgcmkcaa
/- Contracts of revoke: a copy; the statements' Of. -/
set_option linter.unusedSimpArgs false
set_option linter.unusedVariables false
namespace Go.Proofs.Ytligpachgcmkcaa
open Go.RowKit Go.Shelf
set_option maxRecDepth 100000

theorem of8_ok (f0 f1 f2 f3 : Int) (p0 p1 p2 p3 : Option Addr) (n0 n1 n2 n3 c0 c1 c2 c3 : Nat) : CallP Try.prog 24 [.agg ⟨[.int .i64 f0, .int .i64 f1, .int .i64 f2, .int .i64 f3, .slice p0 n0 c0, .slice p1 n1 c1, .slice p2 n2 c2, .slice p3 n3 c3]⟩] (.agg ⟨[.int .i64 f0, .int .i64 f1, .int .i64 f2, .int .i64 f3, .slice p0 n0 c0, .slice p1 n1 c1, .slice p2 n2 c2, .slice p3 n3 c3]⟩) := by
  refine enterP (tb := tb) Try.func24 rfl Try.ntmps24 rfl fun w => ?_
  repeat' (first | (apply R.is1; first | (apply R.pure; exact rfl; first | (apply Ok1.fieldAddr; (iterate 5 exact rfl)) | (apply Ok1.load; exact rfl; (apply Ld.ownk; exact rfl; exact rfl; (focus ((repeat' (first | exact At.head | apply At.tail)); done)); exact rfl)) | (apply Ok1.build; (iterate 5 exact rfl))) | (apply R.box; (iterate 3 exact rfl); intro) | (apply R.alloc; (iterate 3 exact rfl); intro)) | (apply R.is0; (apply R.store; (iterate 6 exact rfl); exact Upd.head; exact rfl)) | apply R.nil | (apply T.is; first | apply T.seq | apply T.region | apply T.ret))
  all_goals (apply RetOk.c; exact rfl; ((apply Ld.ownk; exact rfl; exact rfl; exact At.head; exact rfl)))
  all_goals rfl
theorem of8_dl (d : Dl) (hd : d.length = 4) : CallP Try.prog 24 [.agg ⟨dlV d⟩] (.agg ⟨dlV d⟩) :=
  match d, hd with
  | [_, _, _, _], _ => of8_ok _ _ _ _ _ _ _ _ _ _ _ _ _ _ _ _
theorem copy_ok (bs : Nat) (gs : List Lg) (hg : GOk gs) (w : World) (hs : SetR w bs gs) :
    CallM Try.prog 39 [.pointer (some ⟨bs, 0, none⟩)] [] w fun v L => ∃ bc gs', v = .pointer (some ⟨bc, 0, none⟩) ∧ lgs gs' = lgs gs ∧ GOk gs' ∧ L = SetL bc gs' := by
  have hlog := fun i g hi w1 (hc : Chg [] w w1) => log_ok bs gs hg i g hi w1 (hs.chg hc)
  refine enterK (tb := tb) Try.func39 rfl Try.ntmps39 rfl ?_
  repeat' (first | (apply R.is1; first | (apply R.isBin; (apply R.pure; exact rfl; (apply Ok1.eqlP; (iterate 5 exact rfl)))) | (apply R.isCall; (apply R.callE (vs := []); (iterate 3 exact rfl); exact Ext.none _; intro w1 hw1; exact rnew_ok w1; rintro v Lo ⟨bc, rfl, rfl⟩)) | (apply R.pure; exact rfl; first | (apply Ok1.move; exact rfl) | (apply Ok1.assign; exact rfl))) | apply R.nil | (apply T.is; first | apply T.seq | apply T.region | apply T.block | apply T.skip | (apply T.cond_f; exact rfl)))
  apply T.loopK (α := Nat × List Lg) (I := fun y => y.1 ≤ 4 ∧ GOk y.2 ∧ lgs y.2 = (lgs gs).take y.1 ++ List.replicate (4 - y.1) []) (σi := fun y => [(0, .pointer (some ⟨bs, 0, none⟩)), (3, .pointer (some ⟨bc, 0, none⟩)), (8, .int .i64 y.1)]) (Li := fun y => SetL bc y.2) (μ := fun y => 4 - y.1) (i0 := (0, [lg0, lg0, lg0, lg0]))
  · exact ⟨Nat.zero_le _, GOk.new, rfl⟩
  · exact ⟨rfl, rfl, rfl, trivial⟩
  · (focus ((repeat' (first | exact Keep.nil _ | exact Ext.one _ _ | apply Keep.cons)); done))
  · rintro ⟨i, gs2⟩ ⟨hi, hg2, hlg⟩
    simp only at hi hg2 hlg ⊢
    simp only [SetL]
    rcases Nat.lt_or_ge i 4 with hlt | hge
    · obtain ⟨g, hx⟩ : ∃ g, gs[i]? = some g := ⟨_, List.getElem?_eq_getElem (by rw [hg.len]; omega)⟩
      obtain ⟨g2, hx3⟩ : ∃ g2, gs2[i]? = some g2 := ⟨_, List.getElem?_eq_getElem (by rw [hg2.len]; omega)⟩
      have h1 := hlog i g hx
      have hgl := hg.le g (List.mem_of_getElem? hx)
      have hset := fun g' => setV_set (gs := gs2) (i := i) g' (by rw [hg2.len]; omega)
      repeat' (first | (apply R.is1; first | (apply R.isBin; (apply R.pure; exact rfl; first | (apply Ok1.add64; exact rfl; exact rfl; omega; omega) | (apply Ok1.lss_t; exact rfl; exact rfl; omega))) | (apply R.pure; exact rfl; first | (apply Ok1.move; exact rfl) | (apply Ok1.assign; exact rfl))) | apply R.nil | (apply T.is; first | (apply T.drawC (id := 7) [] (by decide); ((apply A.take 0; exact rfl; exact rfl; kernel_rfl; kernel_rfl; kernel_rfl; (apply Ok1.move; exact rfl)) <;> (apply A.take 1; exact rfl; exact rfl; kernel_rfl; kernel_rfl; kernel_rfl; (apply Ok1.move; exact rfl)) <;> (apply A.take 2; exact rfl; exact rfl; kernel_rfl; kernel_rfl; kernel_rfl; (apply Ok1.move; exact rfl)) <;> (apply A.take 3; exact rfl; exact rfl; kernel_rfl; kernel_rfl; kernel_rfl; (apply Ok1.move; exact rfl)) <;> (apply A.take 5; exact rfl; exact rfl; kernel_rfl; kernel_rfl; kernel_rfl; (apply Ok1.nilCheck; exact rfl)) <;> (apply A.take 6; exact rfl; exact rfl; kernel_rfl; kernel_rfl; kernel_rfl; (apply Ok1.fieldAddr; (iterate 5 exact rfl))) <;> (apply A.one 4; kernel_rfl; exact rfl; (((apply R.callE (vs := [.pointer (some ⟨bs, 0, none⟩), .int .i64 i]); (iterate 3 exact rfl); exact Ext.none _; intro w1 hw1; exact h1 w1 hw1.chg; rintro v Lo ⟨ov, hov, rfl, rfl⟩; rw [slV_eq hov]))); apply R.nil; refine ⟨?_, ?_⟩; (focus ((repeat' (exact trivial))))) <;> (apply A.take 7; exact rfl; exact rfl; kernel_rfl; kernel_rfl; kernel_rfl; (apply Ok1.indexAddrA; (iterate 5 exact rfl); omega; omega)) <;> (apply A.one 8; kernel_rfl; exact rfl; (((apply R.store; (iterate 6 exact rfl); (focus ((repeat' (first | exact Upd.head | apply Upd.right)); done)); have h9 := hset ⟨ov, g.xs⟩; rw [Lg.v_eq (g := ⟨ov, g.xs⟩) hov] at h9; exact h9))); apply R.nil; refine ⟨?_, ?_⟩; (focus ((repeat' (exact trivial))))) <;> (apply A.done; kernel_rfl))) | apply T.seq | apply T.region | apply T.block | apply T.skip | (apply T.cond_t; exact rfl)))
      refine ⟨(i + 1, gs2.set i ⟨ov, g.xs⟩), ⟨by simp only; omega, hg2.set i hov hgl, ?_⟩, by simp only; omega, ⟨rfl, rfl, rfl, trivial⟩, ?_⟩
      · have hl : (lgs gs)[i]? = some g.xs := by rw [lgs, List.getElem?_map, hx]; rfl
        rw [lgs, List.map_set, ← lgs, hlg, show 4 - i = (4 - (i + 1)) + 1 by omega, set_mid (by rw [List.length_take, lgs, List.length_map, hg.len]; omega), List.take_add_one, hl]
        simp
      · simp only
        rw [LsL_set _ (by rw [hg2.len]; omega), LsL_at hx3]
        simp only [Lg.L]
        (focus ((repeat' (first | exact Ext.one _ _ | exact Ext.here _ _ | exact Ext.all _ | apply Keep.cons | apply Keep.app | apply Keep.last | apply Ext.app)); done))
    · have him : i = 4 := by omega
      subst him
      rw [List.take_of_length_le (by rw [lgs, List.length_map, hg.len]; omega), Nat.sub_self, List.replicate_zero, List.append_nil] at hlg
      repeat' (first | (apply R.is1; first | (apply R.isBin; (apply R.pure; exact rfl; (apply Ok1.lss_f; exact rfl; exact rfl; omega))) | (apply R.pure; exact rfl; first | (apply Ok1.move; exact rfl) | (apply Ok1.assign; exact rfl))) | apply R.nil | (apply T.is; first | apply T.seq | apply T.region | apply T.exit | apply T.ret | (apply T.cond_f; exact rfl)))
      (apply RetOk.t; exact rfl)
      exact ⟨_, by (focus ((repeat' (first | exact Ext.one _ _ | exact Ext.all _ | apply Keep.cons | apply Keep.last)); done)), bc, gs2, rfl, hlg, hg2, rfl⟩
end Go.Proofs.Ytligpachgcmkcaa
