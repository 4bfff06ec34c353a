/- Rules: a cut of an own slice; delete on no map. -/
import Derived.Test.YtligpachgcmkcaaEng18
set_option linter.unusedSimpArgs false
set_option linter.unusedVariables false
set_option linter.unusedSectionVars false
namespace Go.Proofs.Ytligpachgcmkcaa
open Go.RowKit Go.Shelf

def cutV (ov : Ov) (n : Nat) : Value := match ov with
  | none => .slice none 0 0
  | some (b, _, _) => .slice (some ⟨b, 0, none⟩) n n
section
variable {X : Cx} {σ : Env} {L L' : Lst} {dd b e : Nat} {ty : TypeId} {pos : String} {af : Array Edge} {d : Option Nat} {g : Option (Nat × Bool)} {x y z : Operand} {t t2 kt et : TypeId} {r re : TRow}
variable {all : Array Oper} {rest : List Oper} {K : Env → Lst → Prop}
variable {κ : Type} [DecidableEq κ] {kv : κ → Value} {vk : Value}
/-- Its first ones, and room for no more. -/
theorem Ok1.sliceCut {ov : Ov} {n sz : Nat} {xs : List Value} {hi mx : Operand} {h : Int} (ht : X.tb.row t = some r) (hk : r.k = .slice e) (he : X.tb.row e = some re) (hx : ev σ x = some (slV ov n)) (hok : OvOk sz ov n xs) (hh : ev σ hi = some (.int .i64 h)) (hm : ev σ mx = some (.int .i64 h)) (h0 : 0 ≤ h) (h1 : h ≤ n) :
    Ok1 X ⟨d, .slice t x none (some hi) (some mx), ty, pos, af, g⟩ σ L (cutV ov h.toNat) := by
  cases ov with
  | none =>
    have h2 : n = 0 := hok.2
    have h3 : h = 0 := by omega
    subst h3
    exact Ok1.slice0 (h := 0) (m := 0) (l := 0) ht hk he hx (by simp [bd, hm]) (by simp [bd, hh]) rfl ⟨rfl, rfl, rfl⟩ (.inr (by simp))
  | some q =>
    obtain ⟨b, j, junk⟩ := q
    exact Ok1.sliceTo (h := h) (m := h) ht hk he hx (by simp [bd, hm]) (by simp [bd, hh]) h0 (by omega) (by omega) (.inr (by simp))
theorem delete_nil0 {P : Program} {w : World} (hkt : KeyT P kt kv) (hu : P.underlying t = some (.map kt et)) (k : κ) (ats : Array TypeId) (h0 : ats[0]? = some t) (ty : TypeId) :
    (Builtin.delete_ ats ty #[.map none, kv k]).run P w = .ok (.tuple #[]) w := by
  unfold Builtin.delete_
  simp only [h0, Array.getElem?_toList, List.getElem?_toArray, List.getElem?_cons_zero, List.getElem?_cons_succ, Sem.run_bind, run_underlying hu, Result.andThen_ok, hkt.chk, Sem.run_pure]
theorem R.mapDel0 (k : κ) (hkt : KeyT X.P kt kv) (ht : X.tb.row t = some r) (hk : r.k = .map kt et) (hx : ev σ x = some (.map none)) (hy : ev σ y = some vk) (hv : vk = kv k)
    (h : R X all rest K σ L) : R X all (⟨none, .call { callee := .builtin .delete, args := #[x, y], argTypes := #[t, t2] }, ty, pos, af, none⟩ :: rest) K σ L :=
  R.value0 rfl rfl fun a' w ha hw => by
    have h1 := delete_nil0 (w := w) hkt (TB.map X.tb ht hk) k #[t, t2] rfl ty
    refine ⟨.tuple #[], w, L, ?_, hw, h⟩
    simp [execOp, resolve, ha.ev hx, ha.ev hy, hv, invoke, builtin, h1]
end
theorem u64_wrap (i : Int) : 0 ≤ IntKind.u64.wrap i ∧ IntKind.u64.wrap i ≤ 18446744073709551615 := by
  simp [IntKind.wrap, IntKind.bits, IntKind.signed]; omega
def ovp (ov : Ov) : Option Addr := match ov with | none => none | some (b, _, _) => some ⟨b, 0, none⟩
def ovc (ov : Ov) (n : Nat) : Nat := match ov with | none => 0 | some (_, j, _) => n + j
theorem slV_eq {sz n : Nat} {ov : Ov} {xs : List Value} (h : OvOk sz ov n xs) : slV ov n = .slice (ovp ov) n (ovc ov n) := by
  cases ov with
  | none => have : n = 0 := h.2; subst this; rfl
  | some x => rfl
theorem RdSl.own' {α : Type} {v : α → List Value} {e sz : Nat} {ov : Ov} {rs : List α} {w0 w : World} {S : List Nat} {L : Lst} (hw : Hp w0 S L w) (hb : ∀ x ∈ blkL e ov (fl v rs), x ∈ L) (hok : OvOk sz ov rs.length (fl v rs)) (hv : ∀ a, (v a).length = sz) : RdSl w (ovp ov) v rs := by
  have := RdSl.own hw hb hok hv
  cases ov <;> exact this
theorem Ok1.lenOv {X : Cx} {σ : Env} {L : Lst} {t e : TypeId} {r : TRow} {ov : Ov} {n sz : Nat} {xs : List Value} {x : Operand} {ty : TypeId} {pos : String} {af : Array Edge} {d : Option Nat} {g : Option (Nat × Bool)}
    (ht : X.tb.row t = some r) (hk : r.k = .slice e) (hx : ev σ x = some (slV ov n)) (hok : OvOk sz ov n xs) : Ok1 X ⟨d, .call { callee := .builtin .len, args := #[x], argTypes := #[t] }, ty, pos, af, g⟩ σ L (.int .i64 n) := by
  cases ov with
  | none => have := hok.2; subst this; exact Ok1.lenS ht hk hx
  | some q => obtain ⟨b, j, junk⟩ := q; exact Ok1.lenS ht hk hx
theorem rep_get {n i : Nat} {a : Value} {k : List Value} (h : i < n) : (List.replicate n a ++ k)[0 + i * 1]? = some a := by
  rw [Nat.zero_add, Nat.mul_one, List.getElem?_append_left (by rw [List.length_replicate]; exact h), List.getElem?_replicate, if_pos h]
theorem RdSl.of {α : Type} {v : α → List Value} {rs : List α} {w0 w : World} {S : List Nat} {L : Lst} {b : Nat} {e : TypeId} {fz : Nat × Nat} {cs junk : List Value} (hw : Hp w0 S L w) (hat : At L b (.cells ⟨cs⟩ e fz)) (hc : cs = fl v rs ++ junk) : RdSl w (some ⟨b, 0, none⟩) v rs := by
  subst hc
  right
  refine ⟨b, 0, rfl, fun k hk => ?_⟩
  have := hw.get b _ hat.mem
  simp only [World.cell?, this]
  simp [hk, List.getElem?_append_left]
theorem Off.of {w0 w : World} {S : List Nat} {L Li Lr : Lst} {b k : Nat} {o : Obj} (hw : Hp w0 S L w) (he : Ext L Li Lr) (hat : At Lr b o) : Off (some ⟨b, k, none⟩) (blks Li) := by
  intro a ha
  cases ha
  exact RdSl.off hw he hat.mem
theorem RdSl.chg {α : Type} {v : α → List Value} {rs : List α} {w w' : World} {S : List Nat} {p : Option Addr} (h : RdSl w p v rs) (hc : Chg S w w') (ho : Off p S) : RdSl w' p v rs := by
  rcases h with h | ⟨b, o, hp, h⟩
  · exact .inl h
  · refine .inr ⟨b, o, hp, fun k hk => ?_⟩
    have h1 := h k hk
    have h2 := ho _ hp
    rw [List.getElem?_eq_getElem hk] at h1 ⊢
    exact hc.cell h1 h2
theorem Off.nil (p : Option Addr) : Off p [] := fun _ _ => List.not_mem_nil
end Go.Proofs.Ytligpachgcmkcaa
