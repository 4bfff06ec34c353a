/- Contracts of wire: what is left to a reader. -/
import Derived.Test.YtligpachgcmkcaaWr2
set_option linter.unusedSimpArgs false
set_option linter.unusedVariables false
namespace Go.Proofs.Ytligpachgcmkcaa
open Go.RowKit Go.Shelf
set_option maxRecDepth 100000

theorem or8 (m c : Nat) (hm : m < 72057594037927936) (hc : c < 256) : orI .u64 ((m : Int) * 256) c = (m : Int) * 256 + c := by
  unfold orI
  have e1 : ((m : Int) * 256) = ((m * 256 : Nat) : Int) := by omega
  rw [e1, BitVec.ofInt_natCast, BitVec.ofInt_natCast, BitVec.toNat_or, BitVec.toNat_ofNat, BitVec.toNat_ofNat]
  have hb : IntKind.u64.bits = 64 := rfl
  rw [hb, Nat.mod_eq_of_lt (by omega), Nat.mod_eq_of_lt (by omega)]
  have h := Nat.shiftLeft_add_eq_or_of_lt (b := c) (i := 8) (by omega) m
  rw [Nat.shiftLeft_eq] at h
  rw [← h, wrap_u64 (by omega) (by omega)]
  omega
section
variable {X : Cx} {σ : Env} {L : Lst} {ty t : TypeId} {pos : String} {af : Array Edge} {x : Operand} {r re : TRow} {d : Option Nat} {g : Option (Nat × Bool)} {e : TypeId} {p : Option Addr} {n cap j : Nat}
theorem Ok1.pre3 {hi mx : Operand} (ht : X.tb.row t = some r) (hk : r.k = .slice e) (he : X.tb.row e = some re) (hx : ev σ x = some (.slice p n cap)) (hh : ev σ hi = some (.int .i64 j)) (hm : ev σ mx = some (.int .i64 j)) (h2 : j ≤ cap) :
    Ok1 X ⟨d, .slice t x none (some hi) (some mx), ty, pos, af, g⟩ σ L (.slice p j j) := .mk fun a w ha hw => by
  rw [slice_run (l := 0) (h := (j : Int)) (m := (j : Int)) X.tb ht hk he ha hx (by simp [bd, hm]) (by simp [bd, hh]) rfl (by omega) (by omega) (by omega) (by omega) (.inr (by simp))]
  have : p.map (·.add (0 * re.size)) = p := by cases p <;> simp [Addr.add]
  simp only [Int.toNat_zero, this, ite_self, Int.toNat_natCast, Nat.sub_zero]
end
/-- The number that bytes make, the highest first. -/
def beN (xs : List Int) : Int := xs.foldl (fun a c => a * 256 + c) 0
theorem be_snoc {xs : List Int} {i : Nat} {x : Int} (h : xs[i]? = some x) : beN (xs.take (i + 1)) = beN (xs.take i) * 256 + x := by
  unfold beN
  rw [List.take_add_one, h, List.foldl_append]
  rfl
theorem be_range : ∀ (n : Nat) (xs : List Int), xs.length = n → Byt xs → 0 ≤ beN xs ∧ beN xs < 256 ^ n := by
  intro n
  induction n with
  | zero => intro xs h _; rw [List.length_eq_zero_iff.1 h]; exact ⟨Int.le_refl _, by decide⟩
  | succ n ih =>
    intro xs h hb
    obtain ⟨x, hx⟩ : ∃ x, xs[n]? = some x := ⟨_, List.getElem?_eq_getElem (by omega)⟩
    have h1 := ih (xs.take n) (by rw [List.length_take]; omega) fun y hy => hb y (List.mem_of_mem_take hy)
    have h2 := be_snoc hx
    rw [List.take_of_length_le (by omega)] at h2
    have h3 := hb x (List.mem_of_getElem? hx)
    have h4 : (256 : Int) ^ (n + 1) = 256 ^ n * 256 := Int.pow_succ ..
    omega
/-- What is left to be read, and the first error. -/
structure Rs where
  q : Option Addr
  cap : Nat
  xs : List Int
  e : Int
def Rs.L (s : Rs) (br : Nat) : Lst := [(br, .cells ⟨[.slice s.q s.xs.length s.cap, .int .i64 s.e]⟩ 130 (0, 0))]
def Rs.fail (s : Rs) (e : Int) : Rs := if s.e = 0 then ⟨none, 0, [], e⟩ else s
def Rs.drop (s : Rs) (k : Nat) : Rs := ⟨sufP s.q s.cap k 1, s.cap - k, s.xs.drop k, s.e⟩
structure Rs.ok (s : Rs) (br : Nat) (w : World) : Prop where
  rd : RdSl w s.q u8V s.xs
  cap : s.xs.length ≤ s.cap
  off : s.xs ≠ [] → Off s.q [br]
  byt : Byt s.xs
  big : s.xs.length ≤ 1000000000
theorem rfail_ok (br : Nat) (s : Rs) (e : Int) (w : World) : CallM Try.prog 69 [.pointer (some ⟨br, 0, none⟩), .int .i64 e] (s.L br) w fun v L => v = .tuple #[] ∧ L = (s.fail e).L br := by
  by_cases h : s.e = 0
  · refine enterK (tb := tb) Try.func69 rfl Try.ntmps69 rfl ?_
    rw [Rs.fail, if_pos h]
    simp only [Rs.L, h]
    repeat' (first | (apply R.is1; first | (apply R.isBin; (apply R.pure; exact rfl; (apply Ok1.eql_t; exact rfl; exact rfl; omega))) | (apply R.pure; exact rfl; first | (apply Ok1.move; exact rfl) | (apply Ok1.fieldAddr; (iterate 5 exact rfl)) | (apply Ok1.load; exact rfl; (apply Ld.own1; exact rfl; exact rfl; exact At.head; exact rfl)) | (apply Ok1.nilCheck; exact rfl))) | (apply R.is0; (apply R.store; (iterate 6 exact rfl); exact Upd.head; exact rfl)) | apply R.nil | (apply T.is; first | apply T.seq | apply T.region | (apply T.cond_t; exact rfl)))
    (apply RetOk.n)
    exact ⟨_, by (focus ((repeat' (first | exact Keep.nil _ | exact Ext.one _ _ | apply Keep.cons)); done)), rfl, rfl⟩
  · refine enterK (tb := tb) Try.func69 rfl Try.ntmps69 rfl ?_
    rw [Rs.fail, if_neg h]
    simp only [Rs.L]
    repeat' (first | (apply R.is1; first | (apply R.isBin; (apply R.pure; exact rfl; (apply Ok1.eql_f; exact rfl; exact rfl; omega))) | (apply R.pure; exact rfl; first | (apply Ok1.move; exact rfl) | (apply Ok1.fieldAddr; (iterate 5 exact rfl)) | (apply Ok1.load; exact rfl; (apply Ld.own1; exact rfl; exact rfl; exact At.head; exact rfl)) | (apply Ok1.nilCheck; exact rfl))) | apply R.nil | (apply T.is; first | apply T.seq | apply T.region | apply T.skip | (apply T.cond_f; exact rfl)))
    (apply RetOk.n)
    exact ⟨_, by (focus ((repeat' (first | exact Keep.nil _ | exact Ext.one _ _ | apply Keep.cons)); done)), rfl, rfl⟩
theorem rtake_no (br : Nat) (s : Rs) (k : Nat) (h : s.e ≠ 0 ∨ s.xs.length < k) (w : World) : CallM Try.prog 96 [.pointer (some ⟨br, 0, none⟩), .int .i64 k] (s.L br) w fun v L => v = .slice none 0 0 ∧ L = (s.fail 4).L br := by
  have hf := fun w1 => rfail_ok br s 4 w1
  refine enterK (tb := tb) Try.func96 rfl Try.ntmps96 rfl ?_
  generalize (s.fail 4).L br = L4 at *
  by_cases he : s.e = 0
  · have hk : s.xs.length < k := h.resolve_left fun h => h he
    simp only [Rs.L, he] at hf ⊢
    repeat' (first | (apply R.is1; first | (apply R.isBin; (apply R.pure; exact rfl; first | (apply Ok1.gtr_t; exact rfl; exact rfl; omega) | (apply Ok1.neq_f; exact rfl; exact rfl; omega))) | (apply R.isCall; first | (apply R.callE (Li := [(br, .cells ⟨[.slice s.q s.xs.length s.cap, .int .i64 0]⟩ 130 (0, 0))]); (iterate 3 exact rfl); (focus ((repeat' (exact Ext.one _ _)); done)); intro w1 hw1; exact hf w1; rintro v Lo ⟨rfl, rfl⟩) | (apply R.pure; exact rfl; (apply Ok1.lenS; (iterate 3 exact rfl)))) | (apply R.pure; exact rfl; first | (apply Ok1.move; exact rfl) | (apply Ok1.fieldAddr; (iterate 5 exact rfl)) | (apply Ok1.load; exact rfl; (apply Ld.own1; exact rfl; exact rfl; exact At.head; exact rfl)) | (apply Ok1.assign; exact rfl) | (apply Ok1.pick_f; exact rfl; exact rfl) | (apply Ok1.nilCheck; exact rfl))) | (apply R.isG; (apply R.guard_run; exact rfl; exact rfl)) | apply R.nil | (apply T.is; first | apply T.seq | apply T.region | apply T.ret | (apply T.cond_t; exact rfl)))
    (apply RetOk.t; exact rfl)
    exact ⟨_, by (focus ((repeat' (first | exact Ext.here _ _ | apply Keep.last)); done)), rfl, rfl⟩
  · simp only [Rs.L] at hf ⊢
    repeat' (first | (apply R.is1; first | (apply R.isBin; (apply R.pure; exact rfl; (apply Ok1.neq_t; exact rfl; exact rfl; omega))) | (apply R.isCall; (apply R.callE (Li := [(br, .cells ⟨[.slice s.q s.xs.length s.cap, .int .i64 s.e]⟩ 130 (0, 0))]); (iterate 3 exact rfl); (focus ((repeat' (exact Ext.one _ _)); done)); intro w1 hw1; exact hf w1; rintro v Lo ⟨rfl, rfl⟩)) | (apply R.pure; exact rfl; first | (apply Ok1.move; exact rfl) | (apply Ok1.fieldAddr; (iterate 5 exact rfl)) | (apply Ok1.load; exact rfl; (apply Ld.own1; exact rfl; exact rfl; exact At.head; exact rfl)) | (apply Ok1.assign; exact rfl) | (apply Ok1.pick_t; exact rfl; exact rfl) | (apply Ok1.nilCheck; exact rfl))) | (apply R.isG; (apply R.guard_not; (iterate 3 exact rfl))) | apply R.nil | (apply T.is; first | apply T.seq | apply T.region | apply T.ret | (apply T.cond_t; exact rfl)))
    (apply RetOk.t; exact rfl)
    exact ⟨_, by (focus ((repeat' (first | exact Ext.here _ _ | apply Keep.last)); done)), rfl, rfl⟩
theorem rtake_ok (br : Nat) (s : Rs) (k : Nat) (he : s.e = 0) (hk : k ≤ s.xs.length) (hc : s.xs.length ≤ s.cap) (w : World) : CallM Try.prog 96 [.pointer (some ⟨br, 0, none⟩), .int .i64 k] (s.L br) w fun v L => v = .slice s.q k k ∧ L = (s.drop k).L br := by
  refine enterK (tb := tb) Try.func96 rfl Try.ntmps96 rfl ?_
  simp only [Rs.L, Rs.drop, he, List.length_drop]
  repeat' (first | (apply R.is1; first | (apply R.isBin; (apply R.pure; exact rfl; first | (apply Ok1.gtr_f; exact rfl; exact rfl; omega) | (apply Ok1.neq_f; exact rfl; exact rfl; omega))) | (apply R.isCall; (apply R.pure; exact rfl; (apply Ok1.lenS; (iterate 3 exact rfl)))) | (apply R.pure; exact rfl; first | (apply Ok1.pre3 (j := k); (iterate 6 exact rfl); omega) | (apply Ok1.sufR (i := k) (sz := 1); (iterate 6 exact rfl); exact hk; exact hc) | (apply Ok1.move; exact rfl) | (apply Ok1.fieldAddr; (iterate 5 exact rfl)) | (apply Ok1.load; exact rfl; (apply Ld.own1; exact rfl; exact rfl; exact At.head; exact rfl)) | (apply Ok1.assign; exact rfl) | (apply Ok1.pick_f; exact rfl; exact rfl) | (apply Ok1.nilCheck; exact rfl))) | (apply R.is0; (apply R.store; (iterate 6 exact rfl); exact Upd.head; exact rfl)) | (apply R.isG; (apply R.guard_run; exact rfl; exact rfl)) | apply R.nil | (apply T.is; first | apply T.seq | apply T.region | apply T.skip | apply T.ret | (apply T.cond_f; exact rfl)))
  (apply RetOk.t; exact rfl)
  exact ⟨_, by (focus ((repeat' (first | exact Keep.nil _ | exact Ext.one _ _ | apply Keep.cons)); done)), rfl, rfl⟩
/-- The next number of k bytes. -/
def Rs.num (s : Rs) (k : Nat) : Int × Bool × Rs :=
  if s.e ≠ 0 ∨ s.xs.length < k then (0, false, s.fail 4) else if beN (s.xs.take k) ≤ 9223372036854775807 then (beN (s.xs.take k), true, s.drop k) else (0, false, (s.drop k).fail 3)
theorem pw8 {z k : Nat} (hz : z ≤ 3) (hk : pw z = k) : 1 ≤ k ∧ k ≤ 8 ∧ IntKind.i64.wrap (1 * pw (z : Int).toNat) = k := by
  have : z = 0 ∨ z = 1 ∨ z = 2 ∨ z = 3 := by omega
  rcases this with rfl | rfl | rfl | rfl
  · have : k = 1 := by have h : pw 0 = 1 := rfl; omega
    subst this; exact ⟨by decide, by decide, by decide⟩
  · have : k = 2 := by have h : pw 1 = 2 := rfl; omega
    subst this; exact ⟨by decide, by decide, by decide⟩
  · have : k = 4 := by have h : pw 2 = 4 := rfl; omega
    subst this; exact ⟨by decide, by decide, by decide⟩
  · have : k = 8 := by have h : pw 3 = 8 := rfl; omega
    subst this; exact ⟨by decide, by decide, by decide⟩
theorem rnumber_ok (br : Nat) (s : Rs) (z k : Nat) (hz : z ≤ 3) (hk : pw z = k) (w : World) (hs : s.ok br w) : CallM Try.prog 95 [.pointer (some ⟨br, 0, none⟩), .int .i64 z] (s.L br) w fun v L => v = .tuple #[.int .i64 (s.num k).1, .bool (s.num k).2.1] ∧ L = (s.num k).2.2.L br := by
  obtain ⟨hk1, hk8, hwr⟩ := pw8 hz hk
  have hwd := width_ok (z : Int) k (by omega) (by omega) hwr
  refine enterK (tb := tb) Try.func95 rfl Try.ntmps95 rfl ?_
  by_cases h : s.e ≠ 0 ∨ s.xs.length < k
  · have ht := fun w1 => rtake_no br s k h w1
    rw [Rs.num, if_pos h]
    simp only
    generalize s.L br = L0 at *
    generalize (s.fail 4).L br = L4 at *
    repeat' (first | (apply R.is1; first | (apply R.isBin; (apply R.pure; exact rfl; first | (apply Ok1.lss_f; exact rfl; exact rfl; omega) | (apply Ok1.gtr_f; exact rfl; exact rfl; omega))) | (apply R.isCall; first | apply R.callP rfl rfl rfl hwd | (apply R.callE (Li := L0); (iterate 3 exact rfl); (focus ((repeat' (exact Ext.all _)); done)); intro w1 hw1; exact ht w1; rintro v Lo ⟨rfl, rfl⟩) | (apply R.pure; exact rfl; (apply Ok1.lenS; (iterate 3 exact rfl)))) | (apply R.pure; exact rfl; first | (apply Ok1.move; exact rfl) | (apply Ok1.assign; exact rfl) | (apply Ok1.convI64; (iterate 5 exact rfl); omega; omega))) | apply R.nil | (apply T.is; first | apply T.rounds 1 | apply T.seq | apply T.region | apply T.block | apply T.skip | apply T.exit | apply T.ret | (apply T.cond_f; exact rfl)))
    (apply RetOk.tt; exact rfl; exact rfl)
    exact ⟨_, by (focus ((repeat' (first | exact Ext.here _ _ | apply Keep.last)); done)), rfl, rfl⟩
  · have he : s.e = 0 := Classical.byContradiction fun h1 => h (.inl h1)
    have hkl : k ≤ s.xs.length := Nat.le_of_not_lt fun h1 => h (.inr h1)
    have ht := fun w1 => rtake_ok br s k he hkl hs.cap w1
    have hne : s.xs ≠ [] := by intro h0; rw [h0] at hkl; simp at hkl; omega
    have hoff := hs.off hne
    have hpre := hs.rd.pre u8V_len k
    have hbt : Byt (s.xs.take k) := fun y hy => hs.byt y (List.mem_of_mem_take hy)
    have hlt : (s.xs.take k).length = k := by rw [List.length_take]; omega
    have hbe : ∀ i ≤ k, 0 ≤ beN ((s.xs.take k).take i) ∧ beN ((s.xs.take k).take i) < 256 ^ i := fun i hi => be_range i _ (by rw [List.length_take]; omega) fun y hy => hbt y (List.mem_of_mem_take hy)
    rw [Rs.num, if_neg h]
    obtain ⟨q, hq⟩ : ∃ q, q = s.q := ⟨_, rfl⟩
    rw [← hq] at ht hoff hpre
    have hfl := fun w1 => rfail_ok br (s.drop k) 3 w1
    obtain ⟨S, hS⟩ : ∃ S, S = blks (s.L br) := ⟨_, rfl⟩
    have hoff : Off q S := by rw [hS]; exact hoff
    rw [← hS]
    generalize s.L br = L0 at *
    generalize s.drop k = s1 at *
    generalize s.xs.take k = ys at *
    repeat' (first | (apply R.is1; first | (apply R.isCall; first | apply R.callP rfl rfl rfl hwd | (apply R.callE (Li := L0); (iterate 3 exact rfl); (focus ((repeat' (exact Ext.all _)); done)); intro w1 hw1; exact ht w1; rintro v Lo ⟨rfl, rfl⟩) | (apply R.pure; exact rfl; (apply Ok1.lenS; (iterate 3 exact rfl)))) | (apply R.pure; exact rfl; first | (apply Ok1.move; exact rfl) | (apply Ok1.assign; exact rfl))) | apply R.nil | (apply T.is; first | apply T.seq | apply T.region | apply T.block))
    apply T.loopK (α := Nat) (I := fun i => i ≤ k) (σi := fun i => [(0, .pointer (some ⟨br, 0, none⟩)), (6, .slice q k k), (7, .int .u64 (beN (ys.take i))), (14, .slice q k k), (15, .int .i64 k), (16, .int .i64 i)]) (Li := fun _ => s1.L br) (μ := fun i => k - i) (i0 := 0)
    · exact Nat.zero_le _
    · exact ⟨rfl, rfl, rfl, rfl, rfl, rfl, trivial⟩
    · (focus ((repeat' (first | exact Keep.nil _ | exact Ext.one _ _ | apply Keep.cons)); done))
    · intro i hi
      have hb := hbe i hi
      rcases Nat.lt_or_ge i k with hlt | hge
      · obtain ⟨y, hy⟩ : ∃ y, ys[i]? = some y := ⟨_, List.getElem?_eq_getElem (by omega)⟩
        obtain ⟨b, o, hpe, H⟩ := hpre.at hy
        replace H := H 1 u8V_len
        have hyb := hbt y (List.mem_of_getElem? hy)
        have hpw : (256 : Int) ^ i ≤ 72057594037927936 := by
          have : i = 0 ∨ i = 1 ∨ i = 2 ∨ i = 3 ∨ i = 4 ∨ i = 5 ∨ i = 6 ∨ i = 7 := by omega
          rcases this with rfl | rfl | rfl | rfl | rfl | rfl | rfl | rfl <;> decide
        have hor : orI .u64 (IntKind.u64.wrap (beN (ys.take i) * pw (Int.toNat 8))) y = beN (ys.take (i + 1)) := by
          rw [be_snoc hy]
          obtain ⟨m, hm⟩ : ∃ m : Nat, beN (ys.take i) = m := ⟨(beN (ys.take i)).toNat, by omega⟩
          obtain ⟨c, hc⟩ : ∃ c : Nat, y = c := ⟨y.toNat, by omega⟩
          rw [hm, hc, show pw (Int.toNat 8) = 256 from rfl, wrap_u64 (by omega) (by omega)]
          exact or8 m c (by omega) (by omega)
        repeat' (first | (apply R.is1; first | (apply R.isBin; (apply R.pure; exact rfl; first | (apply Ok1.shl; exact rfl; exact rfl; omega; exact Nat.le_of_ble_eq_true rfl; exact rfl) | (apply Ok1.orK; exact rfl; exact rfl) | (apply Ok1.add64; exact rfl; exact rfl; omega; omega) | (apply Ok1.lss_t; exact rfl; exact rfl; omega))) | (apply R.pure; exact rfl; first | (apply Ok1.indexAddrP; (iterate 4 exact rfl); exact hpe; exact rfl; omega; omega) | (apply Ok1.load; exact rfl; apply Ld.row1 (f := 0) H; exact rfl; exact hoff _ hpe; (iterate 3 exact rfl)) | (apply Ok1.move; exact rfl) | (apply Ok1.assign; exact rfl) | (apply Ok1.convU64; (iterate 5 exact rfl); omega; omega))) | apply R.nil | (apply T.is; first | apply T.seq | apply T.region | apply T.block | apply T.skip | (apply T.cond_t; exact rfl)))
        refine ⟨i + 1, by omega, by omega, ⟨rfl, rfl, ?_, rfl, rfl, rfl, trivial⟩, by (focus ((repeat' (first | exact Keep.nil _ | exact Ext.one _ _ | apply Keep.cons)); done))⟩
        rw [← hor]; rfl
      · have hik : i = k := by omega
        subst hik
        rw [List.take_of_length_le (by omega)] at hb ⊢
        by_cases hmx : beN ys ≤ 9223372036854775807
        · rw [if_pos hmx]
          repeat' (first | (apply R.is1; first | (apply R.isBin; (apply R.pure; exact rfl; first | (apply Ok1.lss_f; exact rfl; exact rfl; omega) | (apply Ok1.gtr_t; exact rfl; exact rfl; omega) | (apply Ok1.gtr_f; exact rfl; exact rfl; omega))) | (apply R.isCall; (apply R.pure; exact rfl; (apply Ok1.lenS; (iterate 3 exact rfl)))) | (apply R.pure; exact rfl; first | (apply Ok1.move; exact rfl) | (apply Ok1.assign; exact rfl) | (apply Ok1.convI64; (iterate 5 exact rfl); omega; omega))) | apply R.nil | (apply T.is; first | apply T.seq | apply T.region | apply T.skip | apply T.exit | apply T.ret | (apply T.cond_f; exact rfl)))
          (apply RetOk.tt; exact rfl; exact rfl)
          exact ⟨_, by (focus ((repeat' (first | exact Keep.nil _ | exact Ext.one _ _ | apply Keep.cons)); done)), rfl, rfl⟩
        · rw [if_neg hmx]
          repeat' (first | (apply R.is1; first | (apply R.isBin; (apply R.pure; exact rfl; first | (apply Ok1.lss_f; exact rfl; exact rfl; omega) | (apply Ok1.gtr_t; exact rfl; exact rfl; omega))) | (apply R.isCall; (apply R.callE (Li := s1.L br); (iterate 3 exact rfl); (focus ((repeat' (exact Ext.one _ _)); done)); intro w1 hw1; exact hfl w1; rintro v Lo ⟨rfl, rfl⟩)) | (apply R.pure; exact rfl; first | (apply Ok1.move; exact rfl) | (apply Ok1.assign; exact rfl))) | apply R.nil | (apply T.is; first | apply T.seq | apply T.region | apply T.exit | apply T.ret | (apply T.cond_t; exact rfl) | (apply T.cond_f; exact rfl)))
          (apply RetOk.tt; exact rfl; exact rfl)
          exact ⟨_, by (focus ((repeat' (first | exact Keep.nil _ | exact Ext.one _ _ | apply Keep.cons)); done)), rfl, rfl⟩
/-- A field of a number. -/
def Rs.get (s : Rs) (z k : Nat) : List Value := if (s.num k).2.1 = true then fldV z (s.num k).1 else fldV 0 0
theorem rget_ok (br : Nat) (s : Rs) (z k : Nat) (hz : z ≤ 3) (hk : pw z = k) (w : World) (hs : s.ok br w) : CallM Try.prog 70 [.pointer (some ⟨br, 0, none⟩), .int .i64 z] (s.L br) w fun v L => v = .agg ⟨s.get z k⟩ ∧ L = (s.num k).2.2.L br := by
  have hn := fun w1 h1 => rnumber_ok br s z k hz hk w1 h1
  refine enterK (tb := tb) Try.func70 rfl Try.ntmps70 rfl ?_
  have hin : ∀ w1 S, Chg S w w1 → S = blks (s.L br) → s.ok br w1 := fun w1 S hc hS => ⟨hs.rd.chg' hc (fun h => hS ▸ hs.off h), hs.cap, hs.off, hs.byt, hs.big⟩
  rw [Rs.get]
  generalize s.num k = r at *
  obtain ⟨v1, v2, s'⟩ := r
  simp only at hn ⊢
  obtain ⟨S, hS⟩ : ∃ S, S = blks (s.L br) := ⟨_, rfl⟩
  rw [← hS]
  generalize s.L br = L0 at *
  cases v2 with
  | true =>
    repeat' (first | (apply R.is1; first | (apply R.isBin; (apply R.pure; exact rfl; first | (apply Ok1.lss_t; exact rfl; exact rfl; omega) | (apply Ok1.lss_f; exact rfl; exact rfl; omega) | (apply Ok1.gtr_f; exact rfl; exact rfl; omega) | (apply Ok1.eqlP; (iterate 5 exact rfl)))) | (apply R.isCall; (apply R.callE (Li := L0); (iterate 3 exact rfl); (focus ((repeat' (first | exact Ext.all _ | apply Ext.cons)); done)); intro w1 hw1; exact hn w1 (hin w1 _ hw1.chg hS); rintro v Lo ⟨rfl, rfl⟩)) | (apply R.pure; exact rfl; first | (apply Ok1.move; exact rfl) | (apply Ok1.fieldAddr; (iterate 5 exact rfl)) | (apply Ok1.assign; exact rfl) | (apply Ok1.build; (iterate 5 exact rfl)) | (apply Ok1.extract; exact rfl; exact rfl) | (apply Ok1.pick_f; exact rfl; exact rfl) | (apply Ok1.not_t; exact rfl) | (apply Ok1.nilCheck; exact rfl)) | (apply R.alloc; (iterate 3 exact rfl); intro)) | (apply R.is0; (apply R.store; (iterate 6 exact rfl); (focus ((repeat' (first | exact Upd.head | apply Upd.tail)); done)); exact rfl)) | (apply R.isG; (apply R.guard_run; exact rfl; exact rfl)) | apply R.nil | (apply T.is; first | apply T.seq | apply T.region | apply T.block | apply T.skip | apply T.ret | (apply T.cond_t; exact rfl) | (apply T.cond_f; exact rfl)))
    (apply RetOk.c; exact rfl; ((apply Ld.ownk; exact rfl; exact rfl; (focus ((repeat' (first | exact At.head | apply At.tail)); done)); exact rfl)))
    exact ⟨_, by (focus ((repeat' (first | exact Keep.nil _ | exact Ext.one _ _ | apply Keep.cons)); done)), rfl, rfl⟩
  | false =>
    repeat' (first | (apply R.is1; first | (apply R.isBin; (apply R.pure; exact rfl; first | (apply Ok1.lss_t; exact rfl; exact rfl; omega) | (apply Ok1.lss_f; exact rfl; exact rfl; omega) | (apply Ok1.gtr_f; exact rfl; exact rfl; omega) | (apply Ok1.eqlP; (iterate 5 exact rfl)))) | (apply R.isCall; (apply R.callE (Li := L0); (iterate 3 exact rfl); (focus ((repeat' (first | exact Ext.all _ | apply Ext.cons)); done)); intro w1 hw1; exact hn w1 (hin w1 _ hw1.chg hS); rintro v Lo ⟨rfl, rfl⟩)) | (apply R.pure; exact rfl; first | (apply Ok1.move; exact rfl) | (apply Ok1.fieldAddr; (iterate 5 exact rfl)) | (apply Ok1.assign; exact rfl) | (apply Ok1.build; (iterate 5 exact rfl)) | (apply Ok1.extract; exact rfl; exact rfl) | (apply Ok1.pick_f; exact rfl; exact rfl) | (apply Ok1.not_f; exact rfl) | (apply Ok1.nilCheck; exact rfl)) | (apply R.alloc; (iterate 3 exact rfl); intro)) | (apply R.is0; (apply R.store; (iterate 6 exact rfl); (focus ((repeat' (first | exact Upd.head | apply Upd.tail)); done)); exact rfl)) | (apply R.isG; (apply R.guard_run; exact rfl; exact rfl)) | apply R.nil | (apply T.is; first | apply T.seq | apply T.region | apply T.block | apply T.ret | (apply T.cond_t; exact rfl) | (apply T.cond_f; exact rfl)))
    (apply RetOk.c; exact rfl; ((apply Ld.ownk; exact rfl; exact rfl; (focus ((repeat' (first | exact At.head | apply At.tail)); done)); exact rfl)))
    exact ⟨_, by (focus ((repeat' (first | exact Keep.nil _ | exact Ext.one _ _ | apply Keep.cons)); done)), rfl, rfl⟩
theorem rnum_ok (br : Nat) (s : Rs) (z k : Nat) (hz : z ≤ 3) (hk : pw z = k) (w : World) (hs : s.ok br w) : CallM Try.prog 34 [.pointer (some ⟨br, 0, none⟩), .int .i64 z] (s.L br) w fun v L => v = .int .i64 (s.num k).1 ∧ L = (s.num k).2.2.L br := by
  have hn := fun w1 h1 => rget_ok br s z k hz hk w1 h1
  have hin : ∀ w1 S, Chg S w w1 → S = blks (s.L br) → s.ok br w1 := fun w1 S hc hS => ⟨hs.rd.chg' hc (fun h => hS ▸ hs.off h), hs.cap, hs.off, hs.byt, hs.big⟩
  have h0 : (s.num k).2.1 = false → (s.num k).1 = 0 := by
    unfold Rs.num
    split
    · exact fun _ => rfl
    · split
      · intro h; cases h
      · exact fun _ => rfl
  have hv : ∃ v0, s.get z k = [v0, .int .i64 (s.num k).1, .slice none 0 0] := by
    unfold Rs.get fldV
    cases h : (s.num k).2.1 with
    | true => exact ⟨_, rfl⟩
    | false => rw [h0 h]; exact ⟨_, rfl⟩
  obtain ⟨v0, hv⟩ := hv
  rw [hv] at hn
  refine enterK (tb := tb) Try.func34 rfl Try.ntmps34 rfl ?_
  generalize s.num k = r at *
  obtain ⟨v1, v2, s'⟩ := r
  simp only at hn ⊢
  obtain ⟨S, hS⟩ : ∃ S, S = blks (s.L br) := ⟨_, rfl⟩
  rw [← hS]
  generalize s.L br = L0 at *
  repeat' (first | (apply R.is1; first | (apply R.isBin; (apply R.pure; exact rfl; first | (apply Ok1.eql_f; exact rfl; exact rfl; omega) | (apply Ok1.neqP; (iterate 5 exact rfl)))) | (apply R.isCall; (apply R.callE (Li := L0); (iterate 3 exact rfl); (focus ((repeat' (exact Ext.all _)); done)); intro w1 hw1; exact hn w1 (hin w1 _ hw1.chg hS); rintro v Lo ⟨rfl, rfl⟩)) | (apply R.pure; exact rfl; first | (apply Ok1.move; exact rfl) | (apply Ok1.assign; exact rfl) | (apply Ok1.pick_t; exact rfl; exact rfl) | (apply Ok1.field1; (iterate 7 exact rfl)))) | (apply R.isG; (apply R.guard_run; exact rfl; exact rfl)) | apply R.nil | (apply T.is; first | apply T.seq | apply T.region | apply T.skip | apply T.ret | (apply T.cond_f; exact rfl)))
  (apply RetOk.t; exact rfl)
  exact ⟨_, by (focus ((repeat' (first | exact Keep.nil _ | exact Ext.one _ _ | apply Keep.cons)); done)), rfl, rfl⟩
theorem rerr_ok (br : Nat) (s : Rs) (w : World) (hb : w.heap[br]? = some (.cells ⟨[.slice s.q s.xs.length s.cap, .int .i64 s.e]⟩ 130 (0, 0))) : CallW Try.prog 35 [.pointer (some ⟨br, 0, none⟩)] w fun v _ => v = .int .i64 s.e := by
  refine enterW (tb := tb) Try.func35 rfl Try.ntmps35 rfl ?_
  repeat' (first | (apply R.is1; first | (apply R.isBin; (apply R.pure; exact rfl; (apply Ok1.eqlP; (iterate 5 exact rfl)))) | (apply R.pure; exact rfl; first | (apply Ok1.move; exact rfl) | (apply Ok1.fieldAddr; (iterate 5 exact rfl)) | (apply Ok1.load; exact rfl; (apply Ld.blk1; exact rfl; exact rfl; assumption; (exact List.not_mem_nil); exact rfl)) | (apply Ok1.assign; exact rfl) | (apply Ok1.nilCheck; exact rfl))) | apply R.nil | (apply T.is; first | apply T.seq | apply T.region | apply T.skip | apply T.ret | (apply T.cond_f; exact rfl)))
  (apply RetOk.t; exact rfl)
  rfl
theorem rleft_ok (br : Nat) (s : Rs) (w : World) (hb : w.heap[br]? = some (.cells ⟨[.slice s.q s.xs.length s.cap, .int .i64 s.e]⟩ 130 (0, 0))) : CallW Try.prog 71 [.pointer (some ⟨br, 0, none⟩)] w fun v _ => v = .int .i64 s.xs.length := by
  refine enterW (tb := tb) Try.func71 rfl Try.ntmps71 rfl ?_
  repeat' (first | (apply R.is1; first | (apply R.isBin; (apply R.pure; exact rfl; (apply Ok1.eqlP; (iterate 5 exact rfl)))) | (apply R.isCall; (apply R.pure; exact rfl; (apply Ok1.lenS; (iterate 3 exact rfl)))) | (apply R.pure; exact rfl; first | (apply Ok1.move; exact rfl) | (apply Ok1.fieldAddr; (iterate 5 exact rfl)) | (apply Ok1.load; exact rfl; (apply Ld.blk1; exact rfl; exact rfl; assumption; (exact List.not_mem_nil); exact rfl)) | (apply Ok1.assign; exact rfl) | (apply Ok1.nilCheck; exact rfl))) | apply R.nil | (apply T.is; first | apply T.seq | apply T.region | apply T.skip | apply T.ret | (apply T.cond_f; exact rfl)))
  (apply RetOk.t; exact rfl)
  rfl
def Rs.fin (s : Rs) : Int := if s.e ≠ 0 then s.e else if 0 < s.xs.length then 3 else 0
theorem rend_ok (br : Nat) (s : Rs) (w : World) (hb : w.heap[br]? = some (.cells ⟨[.slice s.q s.xs.length s.cap, .int .i64 s.e]⟩ 130 (0, 0))) : CallW Try.prog 36 [.pointer (some ⟨br, 0, none⟩)] w fun v _ => v = .int .i64 s.fin := by
  have h1 := fun w1 (hc : Chg [] w w1) => rerr_ok br s w1 (hc.heap hb List.not_mem_nil)
  have h2 := fun w1 (hc : Chg [] w w1) => rleft_ok br s w1 (hc.heap hb List.not_mem_nil)
  refine enterW (tb := tb) Try.func36 rfl Try.ntmps36 rfl ?_
  rw [Rs.fin]
  by_cases he : s.e = 0
  · rw [if_neg (fun h => h he)]
    rw [he] at h1
    by_cases hx : 0 < s.xs.length
    · rw [if_pos hx]
      repeat' (first | (apply R.is1; first | (apply R.isBin; (apply R.pure; exact rfl; first | (apply Ok1.gtr_t; exact rfl; exact rfl; omega) | (apply Ok1.neq_f; exact rfl; exact rfl; omega))) | (apply R.isCall; (apply R.callV; (iterate 3 exact rfl); intro w1 hw1; first | exact h1 w1 hw1.chg | exact h2 w1 hw1.chg)) | (apply R.pure; exact rfl; first | (apply Ok1.move; exact rfl) | (apply Ok1.assign; exact rfl))) | apply R.nil | (apply T.is; first | apply T.seq | apply T.region | apply T.skip | apply T.ret | (apply T.cond_t; exact rfl) | (apply T.cond_f; exact rfl)))
      (apply RetOk.t; exact rfl)
      rfl
    · rw [if_neg hx]
      repeat' (first | (apply R.is1; first | (apply R.isBin; (apply R.pure; exact rfl; first | (apply Ok1.gtr_f; exact rfl; exact rfl; omega) | (apply Ok1.neq_f; exact rfl; exact rfl; omega))) | (apply R.isCall; (apply R.callV; (iterate 3 exact rfl); intro w1 hw1; first | exact h1 w1 hw1.chg | exact h2 w1 hw1.chg)) | (apply R.pure; exact rfl; first | (apply Ok1.move; exact rfl) | (apply Ok1.assign; exact rfl))) | apply R.nil | (apply T.is; first | apply T.seq | apply T.region | apply T.skip | apply T.ret | (apply T.cond_f; exact rfl)))
      (apply RetOk.t; exact rfl)
      rfl
  · rw [if_pos he]
    repeat' (first | (apply R.is1; first | (apply R.isBin; (apply R.pure; exact rfl; (apply Ok1.neq_t; exact rfl; exact rfl; omega))) | (apply R.isCall; (apply R.callV; (iterate 3 exact rfl); intro w1 hw1; exact h1 w1 hw1.chg)) | (apply R.pure; exact rfl; first | (apply Ok1.move; exact rfl) | (apply Ok1.assign; exact rfl))) | apply R.nil | (apply T.is; first | apply T.seq | apply T.region | apply T.ret | (apply T.cond_t; exact rfl)))
    (apply RetOk.t; exact rfl)
    rfl
/-- A reader whose bytes lie in known blocks. -/
structure RsO (s : Rs) (M : Lst) : Prop where
  rd : ∀ (w0 w : World) (S : List Nat) (L' : Lst), Hp w0 S L' w → (∀ z ∈ M, z ∈ L') → RdSl w s.q u8V s.xs
  adr : s.xs ≠ [] → ∃ b o, s.q = some ⟨b, o, none⟩ ∧ b ∈ blks M
  cap : s.xs.length ≤ s.cap
  byt : Byt s.xs
  big : s.xs.length ≤ 1000000000
theorem RsO.ok {s : Rs} {M : Lst} (h : RsO s M) {br : Nat} {w0 w : World} {S : List Nat} {L Lr : Lst} (hw : Hp w0 S L w) (he : Ext L (s.L br) Lr) (hin : ∀ z ∈ M, z ∈ Lr) : s.ok br w := by
  refine ⟨h.rd _ _ _ _ hw fun z hz => he.perm.subset (List.mem_append_right _ (hin z hz)), h.cap, fun hne a ha => ?_, h.byt, h.big⟩
  obtain ⟨b, o, hp, hb⟩ := h.adr hne
  rw [hp] at ha
  cases ha
  obtain ⟨z, hz, hze⟩ := List.mem_map.1 hb
  obtain ⟨zb, zo⟩ := z
  simp only at hze
  subst hze
  exact RdSl.off hw he (hin _ hz)
theorem RsO.fail {s : Rs} {M : Lst} (h : RsO s M) (e : Int) : RsO (s.fail e) M := by
  unfold Rs.fail
  split
  · exact ⟨fun _ _ _ _ _ _ => .inl rfl, (fun h => absurd rfl h), Nat.zero_le _, (fun y hy => by cases hy), Nat.zero_le _⟩
  · exact h
theorem RsO.drop {s : Rs} {M : Lst} (h : RsO s M) {k : Nat} (hk : k ≤ s.xs.length) : RsO (s.drop k) M := by
  refine ⟨fun w0 w S L' hw hin => (h.rd w0 w S L' hw hin).suf u8V_len hk h.cap, fun hne => ?_, ?_, fun y hy => h.byt y (List.mem_of_mem_drop hy), ?_⟩
  · have h1 : s.xs ≠ [] := by intro h0; apply hne; simp [Rs.drop, h0]
    obtain ⟨b, o, hp, hb⟩ := h.adr h1
    by_cases hc : s.cap = k
    · exfalso; apply hne; simp only [Rs.drop]; exact List.drop_of_length_le (by have := h.cap; omega)
    · exact ⟨b, o + k * 1, by simp [Rs.drop, sufP, hc, hp, Addr.add_none], hb⟩
  · have := h.cap; simp only [Rs.drop, List.length_drop]; omega
  · have := h.big; simp only [Rs.drop, List.length_drop]; omega
theorem RsO.num {s : Rs} {M : Lst} (h : RsO s M) (k : Nat) : RsO (s.num k).2.2 M := by
  unfold Rs.num
  split
  · exact h.fail 4
  · rename_i hn
    have hk : k ≤ s.xs.length := Nat.le_of_not_lt fun h1 => hn (.inr h1)
    split
    · exact h.drop hk
    · exact (h.drop hk).fail 3
theorem ovc_leR {n : Nat} {ov : Ov} {xs : List Value} (h : OvOk 1 ov n xs) : n ≤ ovc ov n := by
  unfold ovc
  cases ov with
  | none => have := h.2; simp only at this ⊢; omega
  | some q => simp only; omega
theorem rnewr_ok (p : Option Addr) (n cap : Nat) (xs : List Int) (hn : n = xs.length) (hbig : n ≤ 1000000000) (hb : Byt xs) (w : World) (hp : RdSl w p u8V xs) :
    CallM Try.prog 33 [.slice p n cap] [] w fun v L => ∃ br s M, v = .pointer (some ⟨br, 0, none⟩) ∧ s.xs = (if n ≤ 1024 then xs else []) ∧ s.e = (if n ≤ 1024 then 0 else 2) ∧ RsO s M ∧ L = s.L br ++ M := by
  have hcl := fun w1 (hc : Chg [] w w1) => clone_ok p n cap xs hn hbig w1 (hp.chg' hc (fun _ => Off.nil _))
  subst hn
  have hro : ∀ ov, OvOk 1 ov xs.length (u8s xs) → RsO ⟨ovp ov, ovc ov xs.length, xs, 0⟩ (blkL 5 ov (u8s xs)) := fun ov hov => by
    rw [← fl_u8] at hov ⊢
    refine ⟨fun w0 w S L' hw hin => RdSl.own' hw hin hov u8V_len, fun hne => ?_, ?_, hb, hbig⟩
    · cases ov with
      | none => exact absurd (List.eq_nil_of_length_eq_zero hov.2) hne
      | some q => exact ⟨_, _, rfl, by simp [blks, blkL]⟩
    · exact ovc_leR hov
  refine enterK (tb := tb) Try.func33 rfl Try.ntmps33 rfl ?_
  by_cases hl : xs.length ≤ 1024
  · repeat' (first | (apply R.is1; first | (apply R.isBin; (apply R.pure; exact rfl; (apply Ok1.gtr_f; exact rfl; exact rfl; omega))) | (apply R.isCall; first | (apply R.callE; (iterate 3 exact rfl); exact Ext.none _; intro w1 hw1; exact hcl w1 hw1.chg; rintro v Lo ⟨ov, hov, hsome, rfl, rfl⟩; rw [slV_eq hov]) | (apply R.pure; exact rfl; (apply Ok1.lenS; (iterate 3 exact rfl)))) | (apply R.pure; exact rfl; first | (apply Ok1.move; exact rfl) | (apply Ok1.assign; exact rfl) | (apply Ok1.build; (iterate 5 exact rfl))) | (apply R.box; (iterate 3 exact rfl); intro)) | apply R.nil | (apply T.is; first | apply T.seq | apply T.region | apply T.skip | apply T.ret | (apply T.cond_f; exact rfl)))
    (apply RetOk.t; exact rfl)
    refine ⟨_, ?_, _, ⟨ovp ov, ovc ov xs.length, xs, 0⟩, _, rfl, by simp only [if_pos hl], by simp only [if_pos hl], hro ov hov, rfl⟩
    simp only [Rs.L, List.append_nil, List.cons_append, List.nil_append]
    (focus ((repeat' (first | exact Ext.one _ _ | exact Ext.all _ | apply Keep.cons | apply Keep.last)); done))
  · repeat' (first | (apply R.is1; first | (apply R.isBin; (apply R.pure; exact rfl; (apply Ok1.gtr_t; exact rfl; exact rfl; omega))) | (apply R.isCall; first | (apply R.callE (vs := [.slice p xs.length cap]); (iterate 3 exact rfl); exact Ext.none _; intro w1 hw1; exact hcl w1 hw1.chg; rintro v Lo ⟨ov, hov, hsome, rfl, rfl⟩; rw [slV_eq hov]) | (apply R.callE (Li := [(_, .cells ⟨[.slice (ovp ov) xs.length (ovc ov xs.length), .int .i64 0]⟩ 130 (0, 0))]); (iterate 3 exact rfl); (focus ((repeat' (exact Ext.one _ _)); done)); intro w1 hw1; exact rfail_ok _ ⟨ovp ov, ovc ov xs.length, xs, 0⟩ 2 w1; rintro v Lo ⟨rfl, rfl⟩) | (apply R.pure; exact rfl; (apply Ok1.lenS; (iterate 3 exact rfl)))) | (apply R.pure; exact rfl; first | (apply Ok1.move; exact rfl) | (apply Ok1.fieldAddr; (iterate 5 exact rfl)) | (apply Ok1.assign; exact rfl) | (apply Ok1.build; (iterate 5 exact rfl)) | (apply Ok1.nilCheck; exact rfl)) | (apply R.box; (iterate 3 exact rfl); intro)) | apply R.nil | (apply T.is; first | apply T.seq | apply T.region | apply T.ret | (apply T.cond_t; exact rfl)))
    (apply RetOk.t; exact rfl)
    refine ⟨_, ?_, _, (⟨ovp ov, ovc ov xs.length, xs, 0⟩ : Rs).fail 2, _, rfl, by simp only [if_neg hl, Rs.fail, if_pos], by simp only [if_neg hl, Rs.fail, if_pos], (hro ov hov).fail 2, rfl⟩
    simp only [Rs.L, List.append_nil, List.cons_append, List.nil_append]
    (focus ((repeat' (first | exact Ext.one _ _ | exact Ext.all _ | apply Keep.cons | apply Keep.last)); done))
end Go.Proofs.Ytligpachgcmkcaa
