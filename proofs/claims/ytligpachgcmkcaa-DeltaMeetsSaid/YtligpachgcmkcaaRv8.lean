/- Contracts of revoke: the delta since versions. -/
import Derived.Test.YtligpachgcmkcaaRv7
set_option linter.unusedSimpArgs false
set_option linter.unusedVariables false
namespace Go.Proofs.Ytligpachgcmkcaa
open Go.RowKit Go.Shelf
set_option maxRecDepth 100000

section
variable {X : Cx} {σ : Env} {L Lr : Lst} {d : Option Nat} {ty : TypeId} {pos : String} {af : Array Edge} {g : Option (Nat × Bool)} {x : Operand} {t e : TypeId} {r re : TRow} {p : Option Addr} {n cap i j : Nat}
theorem Ok1.mid3 {lo hi mx : Operand} {sz : Nat} (ht : X.tb.row t = some r) (hk : r.k = .slice e) (he : X.tb.row e = some re) (hsz : re.size = sz) (hx : ev σ x = some (.slice p n cap)) (hl : ev σ lo = some (.int .i64 i)) (hh : ev σ hi = some (.int .i64 j)) (hm : ev σ mx = some (.int .i64 j)) (h1 : i ≤ j) (h2 : j ≤ cap) :
    Ok1 X ⟨d, .slice t x (some lo) (some hi) (some mx), ty, pos, af, g⟩ σ L (.slice (sufP p j i sz) (j - i) (j - i)) := .mk fun a w ha hw => by
  subst hsz
  rw [slice_run (l := (i : Int)) (h := (j : Int)) (m := (j : Int)) X.tb ht hk he ha hx (by simp [bd, hm]) (by simp [bd, hh]) (by simp [bd, hl]) (by omega) (by omega) (by omega) (by omega) (.inr (by simp))]
  simp [sufP]
end
theorem ovc_le {n : Nat} {ov : Ov} {xs : List Value} (h : OvOk 1 ov n xs) : n ≤ ovc ov n := by
  unfold ovc
  cases ov with
  | none => have := h.2; simp only at this ⊢; omega
  | some q => simp only; omega
/-- A delta whose logs lie in the blocks of L. -/
structure DlO (d : Dl) (L : Lst) : Prop where
  cap : ∀ x ∈ d, x.2.xs.length ≤ x.2.cap
  adr : ∀ x ∈ d, x.2.xs ≠ [] → ∃ b o, x.2.p = some ⟨b, o, none⟩ ∧ b ∈ blks L
  rd : ∀ (w0 w : World) (S : List Nat) (L' : Lst), Hp w0 S L' w → (∀ z ∈ L, z ∈ L') → ∀ x ∈ d, RdSl w x.2.p iV x.2.xs
theorem DlO.nil (L : Lst) : DlO [] L := ⟨by simp, by simp, by simp⟩
theorem DlO.snoc {d : Dl} {L : Lst} (h : DlO d L) {ov : Ov} {xs : List Int} (hov : OvOk 1 ov xs.length (iis xs)) (f : Int) {k c : Nat} (hk : k ≤ xs.length) (hc : xs.length ≤ c) {m : Nat} (hm : xs.length - k ≤ m) :
    DlO (d ++ [(f, ⟨sufP (ovp ov) c k 1, m, xs.drop k⟩)]) (blkL 3 ov (iis xs) ++ L) := by
  refine ⟨fun x hx => ?_, fun x hx hne => ?_, fun w0 w S L' hw hin x hx => ?_⟩
  · rcases List.mem_append.1 hx with h1 | h1
    · exact h.cap x h1
    · rw [List.mem_singleton.1 h1]
      simp only [List.length_drop]
      exact hm
  · rcases List.mem_append.1 hx with h1 | h1
    · obtain ⟨b, o, h2, h3⟩ := h.adr x h1 hne
      refine ⟨b, o, h2, ?_⟩
      rw [blks, List.map_append]
      exact List.mem_append_right _ h3
    · rw [List.mem_singleton.1 h1] at hne ⊢
      simp only at hne ⊢
      cases ov with
      | none =>
        have h0 : xs.length = 0 := hov.2
        have : xs = [] := List.eq_nil_of_length_eq_zero h0
        subst this
        simp at hne
      | some q =>
        obtain ⟨b, j, junk⟩ := q
        have hb : b ∈ blks (blkL 3 (some (b, j, junk)) (iis xs) ++ L) := by simp [blks, blkL]
        unfold sufP ovp
        by_cases hck : c = k
        · exact ⟨b, 0, by rw [if_pos hck], hb⟩
        · exact ⟨b, 0 + k * 1, by rw [if_neg hck]; simp [Addr.add]; omega, hb⟩
  · rcases List.mem_append.1 hx with h1 | h1
    · exact h.rd w0 w S L' hw (fun z hz => hin z (List.mem_append_right _ hz)) x h1
    · rw [List.mem_singleton.1 h1]
      exact (irdown hov hw fun z hz => hin z (List.mem_append_left _ hz)).suf iV_len hk hc
def pur (d : Dl) : List (Int × List Int) := d.map fun x => (x.1, x.2.xs)
def noD : List Value := [.int .i64 0, .int .i64 0, .int .i64 0, .int .i64 0, .slice none 0 0, .slice none 0 0, .slice none 0 0, .slice none 0 0]
theorem since_nil (v : List Value) (hv : v.length = 4) (ho : v.all Value.oneCell' = true) : CallP Try.prog 22 [.pointer none, .agg ⟨v⟩] (.tuple #[.agg ⟨noD⟩, .int .i64 11]) := by
  refine enterP (tb := tb) Try.func22 rfl Try.ntmps22 rfl fun w => ?_
  repeat' (first | (apply R.is1; first | (apply R.isBin; (apply R.pure; exact rfl; (apply Ok1.eqlP; (iterate 5 exact rfl)))) | (apply R.pure; exact rfl; first | (apply Ok1.move; exact rfl) | (apply Ok1.assign; exact rfl) | (apply Ok1.build; (iterate 5 exact rfl))) | (apply R.box; (iterate 3 exact rfl); intro) | (apply R.alloc; (iterate 3 exact rfl); intro)) | (apply R.is0; (apply R.store; (iterate 6 exact rfl); exact Upd.head; exact rfl)) | apply R.nil | (apply T.is; first | apply T.seq | apply T.region | apply T.ret | (apply T.cond_t; exact rfl)))
  all_goals (apply RetOk.ct; exact rfl; ((apply Ld.ownk; exact rfl; exact rfl; exact At.head; exact rfl)); exact rfl)
  all_goals rfl
/-- The versions are such as the set has. -/
def VOk (ls : List (List Int)) (vs : List Int) : Prop := ∀ x ∈ ls.zip vs, 0 ≤ x.2 ∧ x.2 ≤ (x.1.length : Int)
instance (ls : List (List Int)) (vs : List Int) : Decidable (VOk ls vs) := by unfold VOk; infer_instance
def sinD (ls : List (List Int)) (vs : List Int) : List (Int × List Int) := (ls.zip vs).map fun x => (x.2, x.1.drop x.2.toNat)
def dPart (vs : List Int) (d : Dl) : List Value := iis vs ++ (fl Pi.v (d.map (·.2)) ++ List.replicate (4 - d.length) (.slice none 0 0))
theorem dPart_set {vs : List Int} (hv : vs.length = 4) {d : Dl} {i : Nat} (hd : d.length = i) (hi : i < 4) (x : Int × Pi) : setE (dPart vs d) (4 + i * 1) [.slice x.2.p x.2.xs.length x.2.cap] = some (dPart vs (d ++ [x])) := by
  have hl : (iis vs ++ fl Pi.v (d.map (·.2))).length = 4 + i * 1 := by rw [List.length_append, iis_len, fl_pi, List.length_map, List.length_map, hv, hd, Nat.mul_one]
  unfold dPart
  rw [← List.append_assoc, ← hl, setE_mid _ (by rw [List.length_singleton, List.length_replicate]; omega), hd, List.length_append, List.length_singleton, hd, List.map_append, fl_pi, fl_pi, List.map_append]
  rw [show 4 - i = (4 - (i + 1)) + 1 by omega, List.replicate_succ]
  simp
theorem sin_get {ls : List (List Int)} {vs : List Int} {i : Nat} {xs : List Int} {v : Int} (h1 : ls[i]? = some xs) (h2 : vs[i]? = some v) : (sinD ls vs)[i]? = some (v, xs.drop v.toNat) := by
  have h3 : (ls.zip vs)[i]? = some (xs, v) := by rw [List.getElem?_zip_eq_some]; exact ⟨h1, h2⟩
  rw [sinD, List.getElem?_map, h3]; rfl
theorem sin_fst {ls : List (List Int)} {vs : List Int} (h : vs.length ≤ ls.length) : (sinD ls vs).map (·.1) = vs := by
  unfold sinD
  rw [List.map_map]
  exact List.map_snd_zip h
theorem since_ok (bs : Nat) (gs : List Lg) (hg : GOk gs) (vs : List Int) (hv : vs.length = 4) (w : World) (hs : SetR w bs gs) :
    CallM Try.prog 22 [.pointer (some ⟨bs, 0, none⟩), .agg ⟨iis vs⟩] [] w fun v L => (VOk (lgs gs) vs ∧ ∃ d, v = .tuple #[.agg ⟨dlV d⟩, .int .i64 0] ∧ pur d = sinD (lgs gs) vs ∧ DlO d L) ∨ (¬ VOk (lgs gs) vs ∧ v = .tuple #[.agg ⟨noD⟩, .int .i64 10]) := by
  have hlog := fun i g hi w1 (hc : Chg [] w w1) => log_ok bs gs hg i g hi w1 (hs.chg hc)
  match vs, hv with
  | [v0, v1, v2, v3], hv =>
  refine enterK (tb := tb) Try.func22 rfl Try.ntmps22 rfl ?_
  simp only [iis, List.map_cons, List.map_nil]
  repeat' (first | (apply R.is1; first | (apply R.isBin; (apply R.pure; exact rfl; (apply Ok1.eqlP; (iterate 5 exact rfl)))) | (apply R.pure; exact rfl; first | (apply Ok1.move; exact rfl) | (apply Ok1.load; exact rfl; (apply Ld.ownk; exact rfl; exact rfl; (focus ((repeat' (first | exact At.head | apply At.tail)); done)); exact rfl)) | (apply Ok1.assign; exact rfl) | (apply Ok1.build; (iterate 5 exact rfl))) | (apply R.box; (iterate 3 exact rfl); intro) | (apply R.alloc; (iterate 3 exact rfl); intro)) | (apply R.is0; (apply R.store; (iterate 6 exact rfl); exact Upd.head; exact rfl)) | apply R.nil | (apply T.is; first | apply T.seq | apply T.region | apply T.block | apply T.skip | (apply T.cond_f; exact rfl)))
  rename_i b3 b4 b6
  obtain ⟨vs, hvs⟩ : ∃ vs, vs = [v0, v1, v2, v3] := ⟨_, rfl⟩
  have hiv : [Value.int .i64 v0, .int .i64 v1, .int .i64 v2, .int .i64 v3] = iis vs := by rw [hvs]; rfl
  have hd0 : [Value.int .i64 v0, .int .i64 v1, .int .i64 v2, .int .i64 v3, .slice none 0 0, .slice none 0 0, .slice none 0 0, .slice none 0 0] = dPart vs [] := by rw [hvs]; rfl
  rw [hiv, hd0]
  rw [← hvs] at hv ⊢
  clear hiv hd0 hvs
  apply T.loopK (α := Nat × Dl × Lst) (I := fun y => y.1 ≤ 4 ∧ y.2.1.length = y.1 ∧ pur y.2.1 = (sinD (lgs gs) vs).take y.1 ∧ DlO y.2.1 y.2.2 ∧ ∀ x ∈ ((lgs gs).zip vs).take y.1, 0 ≤ x.2 ∧ x.2 ≤ (x.1.length : Int))
    (σi := fun y => [(0, .pointer (some ⟨bs, 0, none⟩)), (4, .pointer (some ⟨b4, 0, none⟩)), (6, .pointer (some ⟨b6, 0, none⟩)), (15, .agg ⟨iis vs⟩), (16, .int .i64 y.1)]) (Li := fun y => (b4, .cells ⟨noD⟩ 41 (0, 0)) :: (b6, .cells ⟨dPart vs y.2.1⟩ 41 (0, 0)) :: y.2.2) (μ := fun y => 4 - y.1) (i0 := (0, [], []))
  · exact ⟨Nat.zero_le _, rfl, rfl, DlO.nil _, by simp⟩
  · exact ⟨rfl, rfl, rfl, rfl, rfl, trivial⟩
  · (focus ((repeat' (first | exact Keep.nil _ | exact Ext.one _ _ | apply Keep.cons | apply Ext.cons)); done))
  · rintro ⟨i, d, M⟩ ⟨hi, hdl, hpur, hdo, hall⟩
    simp only at hi hdl hpur hdo hall ⊢
    rcases Nat.lt_or_ge i 4 with hlt | hge
    · obtain ⟨g, hx1⟩ : ∃ g, gs[i]? = some g := ⟨_, List.getElem?_eq_getElem (by rw [hg.len]; omega)⟩
      obtain ⟨v, hx2⟩ : ∃ v, vs[i]? = some v := ⟨_, List.getElem?_eq_getElem (by omega)⟩
      have hgl := hg.le g (List.mem_of_getElem? hx1)
      have h1 := hlog i g hx1
      have hlx : (lgs gs)[i]? = some g.xs := by rw [lgs, List.getElem?_map, hx1]; rfl
      have hzx : ((lgs gs).zip vs)[i]? = some (g.xs, v) := by rw [List.getElem?_zip_eq_some]; exact ⟨hlx, hx2⟩
      have hzm := List.mem_of_getElem? hzx
      have hf : (iis vs)[i * 1]? = some (.int .i64 v) := by rw [Nat.mul_one, iis, List.getElem?_map, hx2]; rfl
      by_cases c1 : v < 0
      · repeat' (first | (apply R.is1; first | (apply R.isBin; (apply R.pure; exact rfl; (apply Ok1.lss_t; exact rfl; exact rfl; omega))) | (apply R.isCall; (apply R.callE (vs := [.pointer (some ⟨bs, 0, none⟩), .int .i64 i]); (iterate 3 exact rfl); exact Ext.none _; intro w1 hw1; exact h1 w1 hw1.chg; rintro z Lo ⟨ov, hov, rfl, rfl⟩; rw [slV_eq hov])) | (apply R.pure; exact rfl; first | (apply Ok1.index1; (iterate 6 exact rfl); omega; omega; exact hf) | (apply Ok1.move; exact rfl) | (apply Ok1.assign; exact rfl) | (apply Ok1.build; (iterate 5 exact rfl)) | (apply Ok1.pick_t; exact rfl; exact rfl))) | (apply R.is0; (apply R.store; (iterate 6 exact rfl); (focus ((repeat' (first | exact Upd.head | apply Upd.right)); done)); exact rfl)) | (apply R.isG; (apply R.guard_not; (iterate 3 exact rfl))) | apply R.nil | (apply T.is; first | apply T.seq | apply T.region | apply T.block | apply T.skip | apply T.ret | (apply T.cond_t; exact rfl)))
        (apply RetOk.ct; exact rfl; ((apply Ld.ownk; exact rfl; exact rfl; (focus ((repeat' (first | exact At.head | apply At.right)); done)); exact rfl)); exact rfl)
        refine ⟨_, Keep.nil _, .inr ⟨fun h => ?_, rfl⟩⟩
        have := (h _ hzm).1
        simp only at this
        omega
      · obtain ⟨k, rfl⟩ : ∃ k : Nat, v = k := ⟨v.toNat, by omega⟩
        by_cases c2 : g.xs.length < k
        · repeat' (first | (apply R.is1; first | (apply R.isBin; (apply R.pure; exact rfl; first | (apply Ok1.lss_t; exact rfl; exact rfl; omega) | (apply Ok1.lss_f; exact rfl; exact rfl; omega) | (apply Ok1.gtr_t; exact rfl; exact rfl; omega))) | (apply R.isCall; first | (apply R.callE (vs := [.pointer (some ⟨bs, 0, none⟩), .int .i64 i]); (iterate 3 exact rfl); exact Ext.none _; intro w1 hw1; exact h1 w1 hw1.chg; rintro z Lo ⟨ov, hov, rfl, rfl⟩; rw [slV_eq hov]) | (apply R.pure; exact rfl; (apply Ok1.lenS; (iterate 3 exact rfl)))) | (apply R.pure; exact rfl; first | (apply Ok1.index1; (iterate 6 exact rfl); omega; omega; exact hf) | (apply Ok1.move; exact rfl) | (apply Ok1.assign; exact rfl) | (apply Ok1.build; (iterate 5 exact rfl)) | (apply Ok1.pick_f; exact rfl; exact rfl))) | (apply R.is0; (apply R.store; (iterate 6 exact rfl); (focus ((repeat' (first | exact Upd.head | apply Upd.right)); done)); exact rfl)) | (apply R.isG; (apply R.guard_run; exact rfl; exact rfl)) | apply R.nil | (apply T.is; first | apply T.seq | apply T.region | apply T.block | apply T.skip | apply T.ret | (apply T.cond_t; exact rfl)))
          (apply RetOk.ct; exact rfl; ((apply Ld.ownk; exact rfl; exact rfl; (focus ((repeat' (first | exact At.head | apply At.right)); done)); exact rfl)); exact rfl)
          refine ⟨_, Keep.nil _, .inr ⟨fun h => ?_, rfl⟩⟩
          have := (h _ hzm).2
          simp only at this
          omega
        · have hset := fun x => dPart_set hv hdl hlt x
          repeat' (first | (apply R.is1; first | (apply R.isBin; (apply R.pure; exact rfl; first | (apply Ok1.add64; exact rfl; exact rfl; omega; omega) | (apply Ok1.lss_t; exact rfl; exact rfl; omega) | (apply Ok1.lss_f; exact rfl; exact rfl; omega) | (apply Ok1.gtr_f; exact rfl; exact rfl; omega))) | (apply R.isCall; first | (apply R.callE (vs := [.pointer (some ⟨bs, 0, none⟩), .int .i64 i]); (iterate 3 exact rfl); exact Ext.none _; intro w1 hw1; exact h1 w1 hw1.chg; rintro z Lo ⟨ov, hov, rfl, rfl⟩; rw [slV_eq hov]) | (apply R.pure; exact rfl; (apply Ok1.lenS; (iterate 3 exact rfl)))) | (apply R.pure; exact rfl; first | (apply Ok1.index1; (iterate 6 exact rfl); omega; omega; exact hf) | (apply Ok1.mid3 (i := k) (j := g.xs.length) (sz := 1); (iterate 8 exact rfl); omega; exact ovc_le hov) | (apply Ok1.move; exact rfl) | (apply Ok1.fieldAddr; (iterate 5 exact rfl)) | (apply Ok1.assign; exact rfl) | (apply Ok1.indexAddrA; (iterate 5 exact rfl); omega; omega) | (apply Ok1.pick_f; exact rfl; exact rfl))) | (apply R.is0; (apply R.store; (iterate 6 exact rfl); (focus ((repeat' (first | exact Upd.head | apply Upd.tail | apply Upd.right)); done)); have h9 := hset ((k : Int), ⟨sufP (ovp ov) g.xs.length k 1, g.xs.length - k, g.xs.drop k⟩); simp only [List.length_drop] at h9; exact h9)) | (apply R.isG; (apply R.guard_run; exact rfl; exact rfl)) | apply R.nil | (apply T.is; first | apply T.seq | apply T.region | apply T.block | apply T.skip | (apply T.cond_t; exact rfl) | (apply T.cond_f; exact rfl)))
          refine ⟨(i + 1, d ++ [((k : Int), ⟨sufP (ovp ov) g.xs.length k 1, g.xs.length - k, g.xs.drop k⟩)], blkL 3 ov (iis g.xs) ++ M), ⟨by omega, by rw [List.length_append, hdl]; rfl, ?_, hdo.snoc hov k (by omega) (Nat.le_refl _) (Nat.le_refl _), ?_⟩, by simp only; omega, ⟨rfl, rfl, rfl, rfl, rfl, trivial⟩, ?_⟩
          · rw [List.take_add_one, sin_get hlx hx2, ← hpur, pur, List.map_append]
            rfl
          · intro x hx
            rw [List.take_add_one, hzx, List.mem_append] at hx
            rcases hx with hx | hx
            · exact hall x hx
            · simp only [Option.toList_some, List.mem_singleton] at hx
              rw [hx]
              simp only
              omega
          · simp only
            (focus ((repeat' (first | exact Ext.one _ _ | exact Ext.here _ _ | exact Ext.all _ | apply Keep.cons | apply Keep.app | apply Keep.last | apply Ext.app)); done))
    · have him : i = 4 := by omega
      subst him
      have hsl : (sinD (lgs gs) vs).length = 4 := by simp [sinD, lgs, hg.len, hv]
      rw [List.take_of_length_le (by omega)] at hpur
      rw [List.take_of_length_le (by simp [lgs, hg.len, hv])] at hall
      have hfst : d.map (·.1) = vs := by
        have := congrArg (List.map (·.1)) hpur
        rw [sin_fst (by simp [lgs, hg.len, hv]), pur, List.map_map] at this
        exact this
      have hdd : dPart vs d = dlV d := by
        rw [dPart, hdl, Nat.sub_self, List.replicate_zero, List.append_nil, dlV, hfst]
      have hlen : (dlV d).length = 8 := by simp [dlV, fl_pi, iis_len, hdl]
      have hone : (dlV d).all Value.oneCell' = true := by
        rw [dlV, List.all_append, iis_one, fl_pi]
        simp [Value.oneCell']
      rw [hdd]
      repeat' (first | (apply R.is1; first | (apply R.isBin; (apply R.pure; exact rfl; (apply Ok1.lss_f; exact rfl; exact rfl; omega))) | (apply R.pure; exact rfl; first | (apply Ok1.load; exact rfl; apply Ld.ownk; exact rfl; exact rfl; (focus ((repeat' (first | exact At.head | apply At.tail)); done)); exact subE_all hlen) | (apply Ok1.assign; exact rfl))) | (apply R.is0; (apply R.store; (iterate 4 exact rfl); exact hlen; exact hone; exact Upd.head; exact setE_all (by rw [hlen]; rfl))) | apply R.nil | (apply T.is; first | apply T.seq | apply T.region | apply T.exit | apply T.ret | (apply T.cond_f; exact rfl)))
      all_goals apply RetOk.ct
      all_goals first | exact rfl | skip
      all_goals first | (apply Ld.ownk; exact rfl; exact rfl; exact At.head; exact subE_all hlen) | skip
      exact ⟨_, by (focus ((repeat' (first | exact Ext.all _ | apply Keep.last | apply Ext.cons)); done)), .inl ⟨hall, d, rfl, hpur, hdo⟩⟩
end Go.Proofs.Ytligpachgcmkcaa
