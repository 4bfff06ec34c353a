/- Slices: reslicing, append to a slice of one's own, make, copy. -/
import Derived.Test.YtligpachgcmkcaaEng9
set_option linter.unusedSimpArgs false
set_option linter.unusedVariables false
set_option linter.unusedSectionVars false
namespace Go.Proofs.Ytligpachgcmkcaa
open Go.RowKit Go.Shelf

/-- L without block b, which held o. -/
inductive Del : Lst → Nat → Obj → Lst → Prop where
  | head {b o r} : Del ((b, o) :: r) b o r
  | tail {x r b o r'} : Del r b o r' → Del (x :: r) b o (x :: r')
theorem Del.mem {L L' : Lst} {b : Nat} {o : Obj} (h : Del L b o L') : (b, o) ∈ L := by
  induction h with
  | head => exact List.mem_cons_self
  | tail _ ih => exact List.mem_cons_of_mem _ ih
theorem Del.perm {L L' : Lst} {b : Nat} {o : Obj} (h : Del L b o L') : ((b, o) :: L').Perm L := by
  induction h with
  | head => exact .refl _
  | tail _ ih => exact (List.Perm.swap _ _ _).trans (ih.cons _)

/-- A slice value of n elements of a slice of one's own: none yet, or (block, spare elements, the spare cells). -/
abbrev Ov := Option (Nat × Nat × List Value)
def slV (ov : Ov) (n : Nat) : Value := match ov with
  | none => .slice none 0 0
  | some (b, j, _) => .slice (some ⟨b, 0, none⟩) n (n + j)
def blkL (e : Nat) (ov : Ov) (xs : List Value) : Lst := match ov with
  | none => []
  | some (b, _, junk) => [(b, .cells ⟨xs ++ junk⟩ e (0, 0))]

section
variable {P : Program} {w : World}

/-- The k cells that a slice value's first m elements hold, in this world. -/
def Holds (w : World) (v : Value) (news : List Value) : Prop := match v with
  | .slice (some ⟨b, o, none⟩) _ _ => ∀ i, i < news.length → w.cell? ⟨b, o + i, none⟩ = news[i]?
  | .slice none _ _ => news = []
  | _ => False

theorem first_run {size m : Nat} {v : Value} {news : List Value} (h : Holds w v news) (hl : news.length = m * size) : (Builtin.firstCells size m v).run P w = .ok ⟨news⟩ w := by
  unfold Holds at h
  split at h
  · rename_i b o _ _
    have h2 := run_cells P w ⟨b, o, none⟩ rfl news (m * size) 0 #[] (fun j hj => by rw [Nat.zero_add]; exact h j (by omega)) (by omega)
    have e : (#[] : Array Value) ++ (⟨news.drop 0⟩ : Array Value) = ⟨news⟩ := by apply Array.toList_inj.1; simp
    rw [e] at h2
    simpa [Builtin.firstCells, loadCells] using h2
  · subst h
    simp [Builtin.firstCells]
  · exact h.elim

theorem growBy_le (newLen : Nat) : ∀ r c, c ≤ newLen → Builtin.growBy newLen r c ≤ 2 * newLen + 768
  | 0, c, h => by simp [Builtin.growBy]; omega
  | r + 1, c, h => by
    simp only [Builtin.growBy]
    split
    · omega
    · have hc : c < newLen := by omega
      by_cases hc2 : c + (c + 768) / 4 ≤ newLen
      · exact growBy_le newLen r _ hc2
      · cases r with
        | zero => simp only [Builtin.growBy]; omega
        | succ r => simp only [Builtin.growBy]; rw [if_pos (by omega)]; omega
theorem nextcap_le (need oldCap : Nat) (h : oldCap ≤ need) : Builtin.nextslicecap need oldCap ≤ 2 * need + 768 := by
  unfold Builtin.nextslicecap
  split
  · omega
  · split
    · omega
    · exact growBy_le need 4 oldCap h

def zeroCellsOf (re : TRow) : Array Value := re.zero.cells
theorem zeroCells_size (z : Array Value) (n : Nat) : (Builtin.zeroCells z n).size = n * z.size := by simp [Builtin.zeroCells]
end

section
variable {X : Cx} {σ : Env} {L L' L1 : Lst} {dd b : Nat} {ty ty2 : TypeId} {pos : String} {af : Array Edge} {d : Option Nat} {g : Option (Nat × Bool)} {x y z : Operand} {t t2 e : TypeId} {r r2 re : TRow}
variable {all : Array Oper} {rest : List Oper} {K : Env → Lst → Prop}

/-- Where a slice of one's own lies in what is known: its block is taken out. -/
inductive OwnAt (e sz : Nat) : Lst → Value → Nat → List Value → Lst → Prop where
  | nil (L : Lst) : OwnAt e sz L (.slice none 0 0) 0 [] L
  | blk {L L1 : Lst} {b n j : Nat} {old junk : List Value} : Del L b (.cells ⟨old ++ junk⟩ e (0, 0)) L1 → old.length = n * sz → junk.length = j * sz → OwnAt e sz L (.slice (some ⟨b, 0, none⟩) n (n + j)) n old L1

theorem setE_mid (old : List Value) : ∀ {vs junk : List Value}, vs.length ≤ junk.length → setE (old ++ junk) old.length vs = some (old ++ vs ++ junk.drop vs.length) := by
  induction old with
  | nil =>
    intro vs
    induction vs with
    | nil => intro junk _; simp [setE]
    | cons v vs ih =>
      intro junk h
      cases junk with
      | nil => simp at h
      | cons c cs =>
        have := ih (junk := cs) (by simpa using h)
        simp only [List.nil_append, List.length_nil] at this ⊢
        simp [setE, this]
  | cons c old ih =>
    intro vs junk h
    cases vs with
    | nil => simp [setE]
    | cons v vs =>
      have := ih h
      simp only [List.cons_append, List.length_cons, setE, this]

theorem append_run {P : Program} (tb : Tb P) (ht : tb.row t = some r) (hk : r.k = .slice e) (he : tb.row e = some re) {zc : List Value} (hz : cellsE re.zero = some zc) (hzl : zc.length = re.size) (ht2 : tb.row t2 = some r2) {e2 : Nat} (hk2 : r2.k = .slice e2)
    {w0 w : World} {S : List Nat} {s s2 : Value} {n m : Nat} {old news : List Value} (hw : Hp w0 S L w) (ho : OwnAt e re.size L s n old L1) (hs2 : Builtin.lenOf s2 = Pure.pure m) (hn2 : Holds w s2 news) (hlen : news.length = m * re.size) (h1 : news.all Value.oneCell' = true) (hm : 1 ≤ m)
    (hbig : (2 * (n + m) + 768) * re.bytes ≤ 281474976710656) (hb1 : 1 ≤ re.bytes) :
    ∃ b' j' junk' w', junk'.length = j' * re.size ∧ (Builtin.append_ #[t, t2] ty #[s, s2]).run P w = .ok (.slice (some ⟨b', 0, none⟩) (n + m) (n + m + j')) w' ∧ Hp w0 S ((b', .cells ⟨old ++ news ++ junk'⟩ e (0, 0)) :: L1) w' := by
  have hu : P.underlying t = some (.slice e) := by have := (tb.get ht).is; rw [hk] at this; exact this
  have hu2 : P.underlying t2 = some (.slice e2) := by have := (tb.get ht2).is; rw [hk2] at this; exact this
  have hbytes : ∃ i, P.info? e = some i ∧ i.bytes = re.bytes := by
    have := (tb.get he).bytes
    cases h : P.info? e with
    | none => rw [h] at this; cases this
    | some i => rw [h] at this; exact ⟨i, rfl, by simpa using this⟩
  obtain ⟨i, hi, hib⟩ := hbytes
  have hti : ∀ w, (typeInfo e).run P w = .ok i w := fun w => by simp [typeInfo, hi]
  have hzc := cellsE_eq hz
  -- growing: a new row
  have hgrow : ∀ (base : Option Addr) (cap : Nat), s = .slice base n cap → cap < n + m → Holds w s old → old.length = n * re.size → Hp w0 S L1 w → ∃ b' j' junk' w', junk'.length = j' * re.size ∧ (Builtin.append_ #[t, t2] ty #[s, s2]).run P w = .ok (.slice (some ⟨b', 0, none⟩) (n + m) (n + m + j')) w' ∧ Hp w0 S ((b', .cells ⟨old ++ news ++ junk'⟩ e (0, 0)) :: L1) w' := by
    intro base cap hs hc2 hold hlo hL1
    subst hs
    have hnx := nextcap_le (n + m) cap (by omega)
    have hnb : ¬ Builtin.nextslicecap (n + m) cap * re.bytes > 2 ^ 48 := by
      have := Nat.mul_le_mul_right re.bytes hnx
      have : (2 : Nat) ^ 48 = 281474976710656 := by decide
      omega
    have hold' : Holds w.drew (.slice base n cap) old := hold
    have hnew' : Holds w.drew s2 news := hn2
    obtain ⟨q, hq⟩ : ∃ q, (Question.appendCap (n + m) cap e).cut (w.tape w.drawn (.appendCap (n + m) cap e)) = n + m + q := ⟨_, rfl⟩
    refine ⟨w.heap.size, q, (Builtin.zeroCells (zeroCellsOf re) q).toList, w.drew.alloc (.cells ⟨old ++ news ++ (Builtin.zeroCells (zeroCellsOf re) q).toList⟩ e (0, 0)), ?_, ?_, ?_⟩
    · simp [zeroCells_size, zeroCellsOf, hzc, hzl]
    · have harr : (Array.mk old ++ Array.mk news ++ Builtin.zeroCells re.zero.cells (n + m + q - (n + m)) : Array Value) = ⟨old ++ news ++ (Builtin.zeroCells (zeroCellsOf re) q).toList⟩ := by
        apply Array.toList_inj.1
        simp [zeroCellsOf]
      have hf1 := first_run (P := P) hold' hlo
      have hf2 := first_run (P := P) hnew' hlen
      unfold Builtin.append_
      simp only [List.getElem?_toArray, List.getElem?_cons_zero, List.getElem?_cons_succ, Sem.run_bind, run_underlying hu, run_underlying hu2, Result.andThen_ok, (tb.get he).size, Sem.run_pure, Bool.false_eq_true, if_false, hs2, Bool.not_false, if_true,
        show ¬ n + m ≤ cap by omega, hti, hib, Sem.run_ite, show ¬ re.bytes = 0 by omega, or_false, and_false, false_or, hnb, run_choose, Question.forced, hq, run_askRoom, World.drew_eq, hf1, hf2, (tb.get he).zero, newRow, run_newObj, harr]
      rfl
    · exact (hL1.step (Chg.drew [] w)).alloc _
  cases ho with
  | nil => exact hgrow none 0 rfl (by omega) rfl (by simp) hw
  | @blk _ b _ j _ junk hd h2 h3 =>
    have hperm := hw.perm hd.perm
    have hb := hperm.get b _ List.mem_cons_self
    have hL1 : Hp w0 S L1 w := hperm.sub (List.sublist_cons_self _ _)
    have hold : Holds w (.slice (some ⟨b, 0, none⟩) n (n + j)) old := by
      intro i hi
      simp [World.cell?, hb, hi]
      exact List.getElem?_append_left hi |>.trans (List.getElem?_eq_getElem hi)
    by_cases hcap : m ≤ j
    · -- there is room
      have hset := setE_mid old (vs := news) (junk := junk) (by rw [hlen, h3]; exact Nat.mul_le_mul_right _ hcap)
      obtain ⟨w', g1, g2, g3⟩ := run_stores P ((⟨b, 0, none⟩ : Addr).add (n * re.size)) (by rw [Addr.add_none]) e news 0 w (old ++ junk) (old ++ news ++ junk.drop news.length) h1 (by rw [Addr.add_none]; exact hb) (by rw [Addr.add_none]; simpa [h2] using hset)
      rw [Addr.add_none] at g1 g2 g3
      refine ⟨b, j - m, junk.drop news.length, w', ?_, ?_, ?_⟩
      · simp [h3, hlen, Nat.sub_mul]
      · have hf2 := first_run (P := P) hn2 hlen
        unfold Builtin.append_
        simp only [List.getElem?_toArray, List.getElem?_cons_zero, List.getElem?_cons_succ, Sem.run_bind, run_underlying hu, run_underlying hu2, Result.andThen_ok, (tb.get he).size, Sem.run_pure, Bool.false_eq_true, if_false, hs2, Bool.not_false, if_true,
          show n + m ≤ n + j by omega, Sem.run_ite, hf2, Addr.add_none, g1]
        rw [show n + m + (j - m) = n + j by omega]
      · exact hperm.upd .head g3 g2
    · exact hgrow (some ⟨b, 0, none⟩) (n + j) rfl (by omega) hold h2 hL1

/-- append to a slice of one's own, of at least one element. -/
theorem R.append {s s2 : Value} {n m : Nat} {old news zc : List Value} {e2 : Nat} (hn : Nat.blt dd X.n = true) (ht : X.tb.row t = some r) (hk : r.k = .slice e) (he : X.tb.row e = some re) (hz : cellsE re.zero = some zc) (hzl : zc.length = re.size) (ht2 : X.tb.row t2 = some r2) (hk2 : r2.k = .slice e2) (hb1 : Nat.ble 1 re.bytes = true)
    (hx : ev σ x = some s) (hy : ev σ y = some s2) (hs2 : Builtin.lenOf s2 = Pure.pure m) (ho : OwnAt e re.size L s n old L1)
    (hn2 : ∀ w, Hp X.w0 X.S L w → Holds w s2 news) (hlen : news.length = m * re.size) (h1 : news.all Value.oneCell' = true) (hm : 1 ≤ m)
    (hbig : (2 * (n + m) + 768) * re.bytes ≤ 281474976710656)
    (h : ∀ b' j' junk', junk'.length = j' * re.size → R X all rest K ((dd, .slice (some ⟨b', 0, none⟩) (n + m) (n + m + j')) :: σ) ((b', .cells ⟨old ++ news ++ junk'⟩ e (0, 0)) :: L1)) :
    R X all (⟨some dd, .call { callee := .builtin .append, args := #[x, y], argTypes := #[t, t2] }, ty, pos, af, none⟩ :: rest) K σ L :=
  R.value rfl rfl hn fun a w ha hw => by
    obtain ⟨b', j', junk', w', g1, g2, g3⟩ := append_run X.tb (ty := ty) ht hk he hz hzl ht2 hk2 hw ho hs2 (hn2 w hw) hlen h1 hm hbig (Nat.le_of_ble_eq_true hb1)
    refine ⟨_, w', _, ?_, g3, h b' j' junk' g1⟩
    simp [execOp, resolve, ha.ev hx, ha.ev hy, invoke, builtin, g2]

theorem Ld.blk1 {v : Value} {b o : Nat} {cs : List Value} {te : TypeId} {fz : Nat × Nat} (ht : X.tb.row t = some r) (hk : r.k.agg = some false) (hb : X.w0.heap[b]? = some (.cells ⟨cs⟩ te fz)) (hs : b ∉ X.S) (hc : cs[o]? = some v) : Ld X L t ⟨b, o, none⟩ v :=
  .of1 ht hk fun w hw => by
    have := hw.chg.heap hb hs
    simp [World.cell?, this, hc]
theorem Ld.blkk {b o : Nat} {cs vs : List Value} {te : TypeId} {fz : Nat × Nat} (ht : X.tb.row t = some r) (hk : r.k.agg = some true) (hb : X.w0.heap[b]? = some (.cells ⟨cs⟩ te fz)) (hs : b ∉ X.S) (hc : subE cs o r.size = some vs) : Ld X L t ⟨b, o, none⟩ (.agg ⟨vs⟩) :=
  .ofk ht hk (subE_spec hc).1 fun w hw i hi => by
    have h1 := hw.chg.heap hb hs
    have h2 := (subE_spec hc).2 i hi
    simp [World.cell?, h1, h2]
/-- What an own block's slice holds. -/
theorem Holds.own {b n cap : Nat} {cs news : List Value} {te : TypeId} {fz : Nat × Nat} (hat : At L b (.cells ⟨cs⟩ te fz)) (hsub : subE cs 0 news.length = some news) {w0 w : World} {S : List Nat} (hw : Hp w0 S L w) : Holds w (.slice (some ⟨b, 0, none⟩) n cap) news := by
  intro i hi
  obtain ⟨h1, h2⟩ := subE_spec hsub
  have := hat.cell hw (0 + i)
  rw [this]
  exact h2 i hi
end
end Go.Proofs.Ytligpachgcmkcaa
