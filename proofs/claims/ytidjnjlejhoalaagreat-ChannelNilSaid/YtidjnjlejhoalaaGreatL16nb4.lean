/- Texts of the proof: Rr1, Rb5, Rg0, Rg1, Rf6, Dd2, Tk1, Sy13, Sy18, Sy19, Sz2, Eng32, Sz3, Sz5, Ky1, Ky2, K1, Ch1, Ch2, Ch3, Ch4, Ch5, Ch6, Ch7, Ch8, Ch9, Ch10, Ch11, Ch12. -/
import Derived.Test.YtidjnjlejhoalaaGreatL16nb3
import Derived.Lib.MakeNoZero
import Derived.Laws.Externs
set_option linter.unusedSimpArgs false
set_option linter.unusedVariables false
namespace Go.Proofs.YtidjnjlejhoalaaGreat
open Go.RowKit Go.Shelf
set_option maxRecDepth 100000
theorem or8 (m c : Nat) (hm : m < 72057594037927936) (hc : c < 256) : orI .u64 ((m : Int) * 256) c = (m : Int) * 256 + c := by
  unfold orI
  have e1 : ((m : Int) * 256) = ((m * 256 : Nat) : Int) := by omega
  rw [e1, BitVec.ofInt_natCast, BitVec.ofInt_natCast, BitVec.toNat_or, BitVec.toNat_ofNat, BitVec.toNat_ofNat]
  have hb : IntKind.u64.bits = 64 := rfl
  rw [hb, Nat.mod_eq_of_lt (by omega), Nat.mod_eq_of_lt (by omega)]
  have h := Nat.shiftLeft_add_eq_or_of_lt (b := c) (i := 8) (by omega) m
  rw [Nat.shiftLeft_eq] at h
  rw [← h, wrap_u64 (by omega) (by omega)]
  omega
section
variable {X : Cx} {σ : Env} {L : Lst} {ty t : TypeId} {pos : String} {af : Array Edge} {x : Operand} {r re : TRow} {d : Option Nat} {g : Option (Nat × Bool)} {e : TypeId} {p : Option Addr} {n cap j : Nat}
theorem Ok1.pre3 {hi mx : Operand} (ht : X.tb.row t = some r) (hk : r.k = .slice e) (he : X.tb.row e = some re) (hx : ev σ x = some (.slice p n cap)) (hh : ev σ hi = some (.int .i64 j)) (hm : ev σ mx = some (.int .i64 j)) (h2 : j ≤ cap) :
    Ok1 X ⟨d, .slice t x none (some hi) (some mx), ty, pos, af, g⟩ σ L (.slice p j j) := .mk fun a w ha hw => by
  rw [slice_run (l := 0) (h := (j : Int)) (m := (j : Int)) X.tb ht hk he ha hx (by simp [bd, hm]) (by simp [bd, hh]) rfl (by omega) (by omega) (by omega) (by omega) (.inr (by simp))]
  have : p.map (·.add (0 * re.size)) = p := by cases p <;> simp [Addr.add]
  simp only [Int.toNat_zero, this, ite_self, Int.toNat_natCast, Nat.sub_zero]
end
/-- The number that bytes make, the highest first. -/
def beN (xs : List Int) : Int := xs.foldl (fun a c => a * 256 + c) 0
theorem be_snoc {xs : List Int} {i : Nat} {x : Int} (h : xs[i]? = some x) : beN (xs.take (i + 1)) = beN (xs.take i) * 256 + x := by
  unfold beN
  rw [List.take_add_one, h, List.foldl_append]
  rfl
theorem be_range : ∀ (n : Nat) (xs : List Int), xs.length = n → Byt xs → 0 ≤ beN xs ∧ beN xs < 256 ^ n := by
  intro n
  induction n with
  | zero => intro xs h _; rw [List.length_eq_zero_iff.1 h]; exact ⟨Int.le_refl _, by decide⟩
  | succ n ih =>
    intro xs h hb
    obtain ⟨x, hx⟩ : ∃ x, xs[n]? = some x := ⟨_, List.getElem?_eq_getElem (by omega)⟩
    have h1 := ih (xs.take n) (by rw [List.length_take]; omega) fun y hy => hb y (List.mem_of_mem_take hy)
    have h2 := be_snoc hx
    rw [List.take_of_length_le (by omega)] at h2
    have h3 := hb x (List.mem_of_getElem? hx)
    have h4 : (256 : Int) ^ (n + 1) = 256 ^ n * 256 := Int.pow_succ ..
    omega
/-- What is left to be read, and the first error. -/
structure Rs where
  q : Option Addr
  cap : Nat
  xs : List Int
  e : Int
def Rs.L (s : Rs) (br : Nat) : Lst := [(br, .cells ⟨[.slice s.q s.xs.length s.cap, .int .i64 s.e]⟩ 249 (0, 0))]
def Rs.fail (s : Rs) (e : Int) : Rs := if s.e = 0 then ⟨none, 0, [], e⟩ else s
def Rs.drop (s : Rs) (k : Nat) : Rs := ⟨sufP s.q s.cap k 1, s.cap - k, s.xs.drop k, s.e⟩
structure Rs.ok (s : Rs) (br : Nat) (w : World) : Prop where
  rd : RdSl w s.q u8V s.xs
  cap : s.xs.length ≤ s.cap
  off : s.xs ≠ [] → Off s.q [br]
  byt : Byt s.xs
  big : s.xs.length ≤ 1000000000
theorem rfail_ok (br : Nat) (s : Rs) (e : Int) (w : World) : CallM Tryz.prog 133 [.pointer (some ⟨br, 0, none⟩), .int .i64 e] (s.L br) w fun v L => v = .tuple #[] ∧ L = (s.fail e).L br := by
  by_cases h : s.e = 0
  · refine enterK (tb := tb) Tryz.func133 rfl Tryz.ntmps133 rfl ?_
    rw [Rs.fail, if_pos h]
    simp only [Rs.L, h]
    repeat' (first | (apply R.is1; first | (apply R.isBin; (apply R.pure; exact rfl; (apply Ok1.eql_t; exact rfl; exact rfl; omega))) | (apply R.pure; exact rfl; first | (apply Ok1.move; exact rfl) | (apply Ok1.fieldAddr; (iterate 5 exact rfl)) | (apply Ok1.load; exact rfl; (apply Ld.own1; exact rfl; exact rfl; exact At.head; exact rfl)) | (apply Ok1.nilCheck; exact rfl))) | (apply R.is0; (apply R.store; (iterate 6 exact rfl); exact Upd.head; exact rfl)) | apply R.nil | (apply T.is; first | apply T.seq | apply T.region | (apply T.cond_t; exact rfl)))
    (apply RetOk.n)
    exact ⟨_, by (focus ((repeat' (first | exact Keep.nil _ | exact Ext.one _ _ | apply Keep.cons)); done)), rfl, rfl⟩
  · refine enterK (tb := tb) Tryz.func133 rfl Tryz.ntmps133 rfl ?_
    rw [Rs.fail, if_neg h]
    simp only [Rs.L]
    repeat' (first | (apply R.is1; first | (apply R.isBin; (apply R.pure; exact rfl; (apply Ok1.eql_f; exact rfl; exact rfl; omega))) | (apply R.pure; exact rfl; first | (apply Ok1.move; exact rfl) | (apply Ok1.fieldAddr; (iterate 5 exact rfl)) | (apply Ok1.load; exact rfl; (apply Ld.own1; exact rfl; exact rfl; exact At.head; exact rfl)) | (apply Ok1.nilCheck; exact rfl))) | apply R.nil | (apply T.is; first | apply T.seq | apply T.region | apply T.skip | (apply T.cond_f; exact rfl)))
    (apply RetOk.n)
    exact ⟨_, by (focus ((repeat' (first | exact Keep.nil _ | exact Ext.one _ _ | apply Keep.cons)); done)), rfl, rfl⟩
theorem rtake_no (br : Nat) (s : Rs) (k : Nat) (h : s.e ≠ 0 ∨ s.xs.length < k) (w : World) : CallM Tryz.prog 253 [.pointer (some ⟨br, 0, none⟩), .int .i64 k] (s.L br) w fun v L => v = .slice none 0 0 ∧ L = (s.fail 4).L br := by
  have hf := fun w1 => rfail_ok br s 4 w1
  refine enterK (tb := tb) Tryz.func253 rfl Tryz.ntmps253 rfl ?_
  generalize (s.fail 4).L br = L4 at *
  by_cases he : s.e = 0
  · have hk : s.xs.length < k := h.resolve_left fun h => h he
    simp only [Rs.L, he] at hf ⊢
    repeat' (first | (apply R.is1; first | (apply R.isBin; (apply R.pure; exact rfl; first | (apply Ok1.gtr_t; exact rfl; exact rfl; omega) | (apply Ok1.neq_f; exact rfl; exact rfl; omega))) | (apply R.isCall; first | (apply R.callE (Li := [(br, .cells ⟨[.slice s.q s.xs.length s.cap, .int .i64 0]⟩ 249 (0, 0))]); (iterate 3 exact rfl); (focus ((repeat' (exact Ext.one _ _)); done)); intro w1 hw1; exact hf w1; rintro v Lo ⟨rfl, rfl⟩) | (apply R.pure; exact rfl; (apply Ok1.lenS; (iterate 3 exact rfl)))) | (apply R.pure; exact rfl; first | (apply Ok1.move; exact rfl) | (apply Ok1.fieldAddr; (iterate 5 exact rfl)) | (apply Ok1.load; exact rfl; (apply Ld.own1; exact rfl; exact rfl; exact At.head; exact rfl)) | (apply Ok1.assign; exact rfl) | (apply Ok1.pick_f; exact rfl; exact rfl) | (apply Ok1.nilCheck; exact rfl))) | (apply R.isG; (apply R.guard_run; exact rfl; exact rfl)) | apply R.nil | (apply T.is; first | apply T.seq | apply T.region | apply T.ret | (apply T.cond_t; exact rfl)))
    (apply RetOk.t; exact rfl)
    exact ⟨_, by (focus ((repeat' (first | exact Ext.here _ _ | apply Keep.last)); done)), rfl, rfl⟩
  · simp only [Rs.L] at hf ⊢
    repeat' (first | (apply R.is1; first | (apply R.isBin; (apply R.pure; exact rfl; (apply Ok1.neq_t; exact rfl; exact rfl; omega))) | (apply R.isCall; (apply R.callE (Li := [(br, .cells ⟨[.slice s.q s.xs.length s.cap, .int .i64 s.e]⟩ 249 (0, 0))]); (iterate 3 exact rfl); (focus ((repeat' (exact Ext.one _ _)); done)); intro w1 hw1; exact hf w1; rintro v Lo ⟨rfl, rfl⟩)) | (apply R.pure; exact rfl; first | (apply Ok1.move; exact rfl) | (apply Ok1.fieldAddr; (iterate 5 exact rfl)) | (apply Ok1.load; exact rfl; (apply Ld.own1; exact rfl; exact rfl; exact At.head; exact rfl)) | (apply Ok1.assign; exact rfl) | (apply Ok1.pick_t; exact rfl; exact rfl) | (apply Ok1.nilCheck; exact rfl))) | (apply R.isG; (apply R.guard_not; (iterate 3 exact rfl))) | apply R.nil | (apply T.is; first | apply T.seq | apply T.region | apply T.ret | (apply T.cond_t; exact rfl)))
    (apply RetOk.t; exact rfl)
    exact ⟨_, by (focus ((repeat' (first | exact Ext.here _ _ | apply Keep.last)); done)), rfl, rfl⟩
theorem rtake_ok (br : Nat) (s : Rs) (k : Nat) (he : s.e = 0) (hk : k ≤ s.xs.length) (hc : s.xs.length ≤ s.cap) (w : World) : CallM Tryz.prog 253 [.pointer (some ⟨br, 0, none⟩), .int .i64 k] (s.L br) w fun v L => v = .slice s.q k k ∧ L = (s.drop k).L br := by
  refine enterK (tb := tb) Tryz.func253 rfl Tryz.ntmps253 rfl ?_
  simp only [Rs.L, Rs.drop, he, List.length_drop]
  repeat' (first | (apply R.is1; first | (apply R.isBin; (apply R.pure; exact rfl; first | (apply Ok1.gtr_f; exact rfl; exact rfl; omega) | (apply Ok1.neq_f; exact rfl; exact rfl; omega))) | (apply R.isCall; (apply R.pure; exact rfl; (apply Ok1.lenS; (iterate 3 exact rfl)))) | (apply R.pure; exact rfl; first | (apply Ok1.pre3 (j := k); (iterate 6 exact rfl); omega) | (apply Ok1.sufR (i := k) (sz := 1); (iterate 6 exact rfl); exact hk; exact hc) | (apply Ok1.move; exact rfl) | (apply Ok1.fieldAddr; (iterate 5 exact rfl)) | (apply Ok1.load; exact rfl; (apply Ld.own1; exact rfl; exact rfl; exact At.head; exact rfl)) | (apply Ok1.assign; exact rfl) | (apply Ok1.pick_f; exact rfl; exact rfl) | (apply Ok1.nilCheck; exact rfl))) | (apply R.is0; (apply R.store; (iterate 6 exact rfl); exact Upd.head; exact rfl)) | (apply R.isG; (apply R.guard_run; exact rfl; exact rfl)) | apply R.nil | (apply T.is; first | apply T.seq | apply T.region | apply T.skip | apply T.ret | (apply T.cond_f; exact rfl)))
  (apply RetOk.t; exact rfl)
  exact ⟨_, by (focus ((repeat' (first | exact Keep.nil _ | exact Ext.one _ _ | apply Keep.cons)); done)), rfl, rfl⟩
/-- The next number of k bytes. -/
def Rs.num (s : Rs) (k : Nat) : Int × Bool × Rs :=
  if s.e ≠ 0 ∨ s.xs.length < k then (0, false, s.fail 4) else if beN (s.xs.take k) ≤ 9223372036854775807 then (beN (s.xs.take k), true, s.drop k) else (0, false, (s.drop k).fail 3)
theorem pw8 {z k : Nat} (hz : z ≤ 3) (hk : pw z = k) : 1 ≤ k ∧ k ≤ 8 ∧ IntKind.i64.wrap (1 * pw (z : Int).toNat) = k := by
  have : z = 0 ∨ z = 1 ∨ z = 2 ∨ z = 3 := by omega
  rcases this with rfl | rfl | rfl | rfl
  · have : k = 1 := by have h : pw 0 = 1 := rfl; omega
    subst this; exact ⟨by decide, by decide, by decide⟩
  · have : k = 2 := by have h : pw 1 = 2 := rfl; omega
    subst this; exact ⟨by decide, by decide, by decide⟩
  · have : k = 4 := by have h : pw 2 = 4 := rfl; omega
    subst this; exact ⟨by decide, by decide, by decide⟩
  · have : k = 8 := by have h : pw 3 = 8 := rfl; omega
    subst this; exact ⟨by decide, by decide, by decide⟩
theorem rnumber_ok (br : Nat) (s : Rs) (z k : Nat) (hz : z ≤ 3) (hk : pw z = k) (w : World) (hs : s.ok br w) : CallM Tryz.prog 252 [.pointer (some ⟨br, 0, none⟩), .int .i64 z] (s.L br) w fun v L => v = .tuple #[.int .i64 (s.num k).1, .bool (s.num k).2.1] ∧ L = (s.num k).2.2.L br := by
  obtain ⟨hk1, hk8, hwr⟩ := pw8 hz hk
  have hwd := width_ok (z : Int) k (by omega) (by omega) hwr
  refine enterK (tb := tb) Tryz.func252 rfl Tryz.ntmps252 rfl ?_
  by_cases h : s.e ≠ 0 ∨ s.xs.length < k
  · have ht := fun w1 => rtake_no br s k h w1
    rw [Rs.num, if_pos h]
    simp only
    generalize s.L br = L0 at *
    generalize (s.fail 4).L br = L4 at *
    repeat' (first | (apply R.is1; first | (apply R.isBin; (apply R.pure; exact rfl; first | (apply Ok1.lss_f; exact rfl; exact rfl; omega) | (apply Ok1.gtr_f; exact rfl; exact rfl; omega))) | (apply R.isCall; first | apply R.callP rfl rfl rfl hwd | (apply R.callE (Li := L0); (iterate 3 exact rfl); (focus ((repeat' (exact Ext.all _)); done)); intro w1 hw1; exact ht w1; rintro v Lo ⟨rfl, rfl⟩) | (apply R.pure; exact rfl; (apply Ok1.lenS; (iterate 3 exact rfl)))) | (apply R.pure; exact rfl; first | (apply Ok1.move; exact rfl) | (apply Ok1.assign; exact rfl) | (apply Ok1.convI64; (iterate 5 exact rfl); omega; omega))) | apply R.nil | (apply T.is; first | apply T.rounds 1 | apply T.seq | apply T.region | apply T.block | apply T.skip | apply T.exit | apply T.ret | (apply T.cond_f; exact rfl)))
    (apply RetOk.tt; exact rfl; exact rfl)
    exact ⟨_, by (focus ((repeat' (first | exact Ext.here _ _ | apply Keep.last)); done)), rfl, rfl⟩
  · have he : s.e = 0 := Classical.byContradiction fun h1 => h (.inl h1)
    have hkl : k ≤ s.xs.length := Nat.le_of_not_lt fun h1 => h (.inr h1)
    have ht := fun w1 => rtake_ok br s k he hkl hs.cap w1
    have hne : s.xs ≠ [] := by intro h0; rw [h0] at hkl; simp at hkl; omega
    have hoff := hs.off hne
    have hpre := hs.rd.pre u8V_len k
    have hbt : Byt (s.xs.take k) := fun y hy => hs.byt y (List.mem_of_mem_take hy)
    have hlt : (s.xs.take k).length = k := by rw [List.length_take]; omega
    have hbe : ∀ i ≤ k, 0 ≤ beN ((s.xs.take k).take i) ∧ beN ((s.xs.take k).take i) < 256 ^ i := fun i hi => be_range i _ (by rw [List.length_take]; omega) fun y hy => hbt y (List.mem_of_mem_take hy)
    rw [Rs.num, if_neg h]
    obtain ⟨q, hq⟩ : ∃ q, q = s.q := ⟨_, rfl⟩
    rw [← hq] at ht hoff hpre
    have hfl := fun w1 => rfail_ok br (s.drop k) 3 w1
    obtain ⟨S, hS⟩ : ∃ S, S = blks (s.L br) := ⟨_, rfl⟩
    have hoff : Off q S := by rw [hS]; exact hoff
    rw [← hS]
    generalize s.L br = L0 at *
    generalize s.drop k = s1 at *
    generalize s.xs.take k = ys at *
    repeat' (first | (apply R.is1; first | (apply R.isCall; first | apply R.callP rfl rfl rfl hwd | (apply R.callE (Li := L0); (iterate 3 exact rfl); (focus ((repeat' (exact Ext.all _)); done)); intro w1 hw1; exact ht w1; rintro v Lo ⟨rfl, rfl⟩) | (apply R.pure; exact rfl; (apply Ok1.lenS; (iterate 3 exact rfl)))) | (apply R.pure; exact rfl; first | (apply Ok1.move; exact rfl) | (apply Ok1.assign; exact rfl))) | apply R.nil | (apply T.is; first | apply T.seq | apply T.region | apply T.block))
    apply T.loopK (α := Nat) (I := fun i => i ≤ k) (σi := fun i => [(0, .pointer (some ⟨br, 0, none⟩)), (6, .slice q k k), (7, .int .u64 (beN (ys.take i))), (14, .slice q k k), (15, .int .i64 k), (16, .int .i64 i)]) (Li := fun _ => s1.L br) (μ := fun i => k - i) (i0 := 0)
    · exact Nat.zero_le _
    · exact ⟨rfl, rfl, rfl, rfl, rfl, rfl, trivial⟩
    · (focus ((repeat' (first | exact Keep.nil _ | exact Ext.one _ _ | apply Keep.cons)); done))
    · intro i hi
      have hb := hbe i hi
      rcases Nat.lt_or_ge i k with hlt | hge
      · obtain ⟨y, hy⟩ : ∃ y, ys[i]? = some y := ⟨_, List.getElem?_eq_getElem (by omega)⟩
        obtain ⟨b, o, hpe, H⟩ := hpre.at hy
        replace H := H 1 u8V_len
        have hyb := hbt y (List.mem_of_getElem? hy)
        have hpw : (256 : Int) ^ i ≤ 72057594037927936 := by
          have : i = 0 ∨ i = 1 ∨ i = 2 ∨ i = 3 ∨ i = 4 ∨ i = 5 ∨ i = 6 ∨ i = 7 := by omega
          rcases this with rfl | rfl | rfl | rfl | rfl | rfl | rfl | rfl <;> decide
        have hor : orI .u64 (IntKind.u64.wrap (beN (ys.take i) * pw (Int.toNat 8))) y = beN (ys.take (i + 1)) := by
          rw [be_snoc hy]
          obtain ⟨m, hm⟩ : ∃ m : Nat, beN (ys.take i) = m := ⟨(beN (ys.take i)).toNat, by omega⟩
          obtain ⟨c, hc⟩ : ∃ c : Nat, y = c := ⟨y.toNat, by omega⟩
          rw [hm, hc, show pw (Int.toNat 8) = 256 from rfl, wrap_u64 (by omega) (by omega)]
          exact or8 m c (by omega) (by omega)
        repeat' (first | (apply R.is1; first | (apply R.isBin; (apply R.pure; exact rfl; first | (apply Ok1.shl; exact rfl; exact rfl; omega; exact Nat.le_of_ble_eq_true rfl; exact rfl) | (apply Ok1.orK; exact rfl; exact rfl) | (apply Ok1.add64; exact rfl; exact rfl; omega; omega) | (apply Ok1.lss_t; exact rfl; exact rfl; omega))) | (apply R.pure; exact rfl; first | (apply Ok1.indexAddrP; (iterate 4 exact rfl); exact hpe; exact rfl; omega; omega) | (apply Ok1.load; exact rfl; apply Ld.row1 (f := 0) H; exact rfl; exact hoff _ hpe; (iterate 3 exact rfl)) | (apply Ok1.move; exact rfl) | (apply Ok1.assign; exact rfl) | (apply Ok1.convU64; (iterate 5 exact rfl); omega; omega))) | apply R.nil | (apply T.is; first | apply T.seq | apply T.region | apply T.block | apply T.skip | (apply T.cond_t; exact rfl)))
        refine ⟨i + 1, by omega, by omega, ⟨rfl, rfl, ?_, rfl, rfl, rfl, trivial⟩, by (focus ((repeat' (first | exact Keep.nil _ | exact Ext.one _ _ | apply Keep.cons)); done))⟩
        rw [← hor]; rfl
      · have hik : i = k := by omega
        subst hik
        rw [List.take_of_length_le (by omega)] at hb ⊢
        by_cases hmx : beN ys ≤ 9223372036854775807
        · rw [if_pos hmx]
          repeat' (first | (apply R.is1; first | (apply R.isBin; (apply R.pure; exact rfl; first | (apply Ok1.lss_f; exact rfl; exact rfl; omega) | (apply Ok1.gtr_t; exact rfl; exact rfl; omega) | (apply Ok1.gtr_f; exact rfl; exact rfl; omega))) | (apply R.isCall; (apply R.pure; exact rfl; (apply Ok1.lenS; (iterate 3 exact rfl)))) | (apply R.pure; exact rfl; first | (apply Ok1.move; exact rfl) | (apply Ok1.assign; exact rfl) | (apply Ok1.convI64; (iterate 5 exact rfl); omega; omega))) | apply R.nil | (apply T.is; first | apply T.seq | apply T.region | apply T.skip | apply T.exit | apply T.ret | (apply T.cond_f; exact rfl)))
          (apply RetOk.tt; exact rfl; exact rfl)
          exact ⟨_, by (focus ((repeat' (first | exact Keep.nil _ | exact Ext.one _ _ | apply Keep.cons)); done)), rfl, rfl⟩
        · rw [if_neg hmx]
          repeat' (first | (apply R.is1; first | (apply R.isBin; (apply R.pure; exact rfl; first | (apply Ok1.lss_f; exact rfl; exact rfl; omega) | (apply Ok1.gtr_t; exact rfl; exact rfl; omega))) | (apply R.isCall; (apply R.callE (Li := s1.L br); (iterate 3 exact rfl); (focus ((repeat' (exact Ext.one _ _)); done)); intro w1 hw1; exact hfl w1; rintro v Lo ⟨rfl, rfl⟩)) | (apply R.pure; exact rfl; first | (apply Ok1.move; exact rfl) | (apply Ok1.assign; exact rfl))) | apply R.nil | (apply T.is; first | apply T.seq | apply T.region | apply T.exit | apply T.ret | (apply T.cond_t; exact rfl) | (apply T.cond_f; exact rfl)))
          (apply RetOk.tt; exact rfl; exact rfl)
          exact ⟨_, by (focus ((repeat' (first | exact Keep.nil _ | exact Ext.one _ _ | apply Keep.cons)); done)), rfl, rfl⟩
/-- A field of a number. -/
def Rs.get (s : Rs) (z k : Nat) : List Value := if (s.num k).2.1 = true then fldV z (s.num k).1 else fldV 0 0
theorem rget_ok (br : Nat) (s : Rs) (z k : Nat) (hz : z ≤ 3) (hk : pw z = k) (w : World) (hs : s.ok br w) : CallM Tryz.prog 200 [.pointer (some ⟨br, 0, none⟩), .int .i64 z] (s.L br) w fun v L => v = .agg ⟨s.get z k⟩ ∧ L = (s.num k).2.2.L br := by
  have hn := fun w1 h1 => rnumber_ok br s z k hz hk w1 h1
  refine enterK (tb := tb) Tryz.func200 rfl Tryz.ntmps200 rfl ?_
  have hin : ∀ w1 S, Chg S w w1 → S = blks (s.L br) → s.ok br w1 := fun w1 S hc hS => ⟨hs.rd.chg' hc (fun h => hS ▸ hs.off h), hs.cap, hs.off, hs.byt, hs.big⟩
  rw [Rs.get]
  generalize s.num k = r at *
  obtain ⟨v1, v2, s'⟩ := r
  simp only at hn ⊢
  obtain ⟨S, hS⟩ : ∃ S, S = blks (s.L br) := ⟨_, rfl⟩
  rw [← hS]
  generalize s.L br = L0 at *
  cases v2 with
  | true =>
    repeat' (first | (apply R.is1; first | (apply R.isBin; (apply R.pure; exact rfl; first | (apply Ok1.lss_t; exact rfl; exact rfl; omega) | (apply Ok1.lss_f; exact rfl; exact rfl; omega) | (apply Ok1.gtr_f; exact rfl; exact rfl; omega) | (apply Ok1.eqlP; (iterate 5 exact rfl)))) | (apply R.isCall; (apply R.callE (Li := L0); (iterate 3 exact rfl); (focus ((repeat' (first | exact Ext.all _ | apply Ext.cons)); done)); intro w1 hw1; exact hn w1 (hin w1 _ hw1.chg hS); rintro v Lo ⟨rfl, rfl⟩)) | (apply R.pure; exact rfl; first | (apply Ok1.move; exact rfl) | (apply Ok1.fieldAddr; (iterate 5 exact rfl)) | (apply Ok1.assign; exact rfl) | (apply Ok1.build; (iterate 5 exact rfl)) | (apply Ok1.extract; exact rfl; exact rfl) | (apply Ok1.pick_f; exact rfl; exact rfl) | (apply Ok1.not_t; exact rfl) | (apply Ok1.nilCheck; exact rfl)) | (apply R.alloc; (iterate 3 exact rfl); intro)) | (apply R.is0; (apply R.store; (iterate 6 exact rfl); (focus ((repeat' (first | exact Upd.head | apply Upd.tail)); done)); exact rfl)) | (apply R.isG; (apply R.guard_run; exact rfl; exact rfl)) | apply R.nil | (apply T.is; first | apply T.seq | apply T.region | apply T.block | apply T.skip | apply T.ret | (apply T.cond_t; exact rfl) | (apply T.cond_f; exact rfl)))
    (apply RetOk.c; exact rfl; ((apply Ld.ownk; exact rfl; exact rfl; (focus ((repeat' (first | exact At.head | apply At.tail)); done)); exact rfl)))
    exact ⟨_, by (focus ((repeat' (first | exact Keep.nil _ | exact Ext.one _ _ | apply Keep.cons)); done)), rfl, rfl⟩
  | false =>
    repeat' (first | (apply R.is1; first | (apply R.isBin; (apply R.pure; exact rfl; first | (apply Ok1.lss_t; exact rfl; exact rfl; omega) | (apply Ok1.lss_f; exact rfl; exact rfl; omega) | (apply Ok1.gtr_f; exact rfl; exact rfl; omega) | (apply Ok1.eqlP; (iterate 5 exact rfl)))) | (apply R.isCall; (apply R.callE (Li := L0); (iterate 3 exact rfl); (focus ((repeat' (first | exact Ext.all _ | apply Ext.cons)); done)); intro w1 hw1; exact hn w1 (hin w1 _ hw1.chg hS); rintro v Lo ⟨rfl, rfl⟩)) | (apply R.pure; exact rfl; first | (apply Ok1.move; exact rfl) | (apply Ok1.fieldAddr; (iterate 5 exact rfl)) | (apply Ok1.assign; exact rfl) | (apply Ok1.build; (iterate 5 exact rfl)) | (apply Ok1.extract; exact rfl; exact rfl) | (apply Ok1.pick_f; exact rfl; exact rfl) | (apply Ok1.not_f; exact rfl) | (apply Ok1.nilCheck; exact rfl)) | (apply R.alloc; (iterate 3 exact rfl); intro)) | (apply R.is0; (apply R.store; (iterate 6 exact rfl); (focus ((repeat' (first | exact Upd.head | apply Upd.tail)); done)); exact rfl)) | (apply R.isG; (apply R.guard_run; exact rfl; exact rfl)) | apply R.nil | (apply T.is; first | apply T.seq | apply T.region | apply T.block | apply T.ret | (apply T.cond_t; exact rfl) | (apply T.cond_f; exact rfl)))
    (apply RetOk.c; exact rfl; ((apply Ld.ownk; exact rfl; exact rfl; (focus ((repeat' (first | exact At.head | apply At.tail)); done)); exact rfl)))
    exact ⟨_, by (focus ((repeat' (first | exact Keep.nil _ | exact Ext.one _ _ | apply Keep.cons)); done)), rfl, rfl⟩
theorem rnum_ok (br : Nat) (s : Rs) (z k : Nat) (hz : z ≤ 3) (hk : pw z = k) (w : World) (hs : s.ok br w) : CallM Tryz.prog 112 [.pointer (some ⟨br, 0, none⟩), .int .i64 z] (s.L br) w fun v L => v = .int .i64 (s.num k).1 ∧ L = (s.num k).2.2.L br := by
  have hn := fun w1 h1 => rget_ok br s z k hz hk w1 h1
  have hin : ∀ w1 S, Chg S w w1 → S = blks (s.L br) → s.ok br w1 := fun w1 S hc hS => ⟨hs.rd.chg' hc (fun h => hS ▸ hs.off h), hs.cap, hs.off, hs.byt, hs.big⟩
  have h0 : (s.num k).2.1 = false → (s.num k).1 = 0 := by
    unfold Rs.num
    split
    · exact fun _ => rfl
    · split
      · intro h; cases h
      · exact fun _ => rfl
  have hv : ∃ v0, s.get z k = [v0, .int .i64 (s.num k).1, .slice none 0 0] := by
    unfold Rs.get fldV
    cases h : (s.num k).2.1 with
    | true => exact ⟨_, rfl⟩
    | false => rw [h0 h]; exact ⟨_, rfl⟩
  obtain ⟨v0, hv⟩ := hv
  rw [hv] at hn
  refine enterK (tb := tb) Tryz.func112 rfl Tryz.ntmps112 rfl ?_
  generalize s.num k = r at *
  obtain ⟨v1, v2, s'⟩ := r
  simp only at hn ⊢
  obtain ⟨S, hS⟩ : ∃ S, S = blks (s.L br) := ⟨_, rfl⟩
  rw [← hS]
  generalize s.L br = L0 at *
  repeat' (first | (apply R.is1; first | (apply R.isBin; (apply R.pure; exact rfl; first | (apply Ok1.eql_f; exact rfl; exact rfl; omega) | (apply Ok1.neqP; (iterate 5 exact rfl)))) | (apply R.isCall; (apply R.callE (Li := L0); (iterate 3 exact rfl); (focus ((repeat' (exact Ext.all _)); done)); intro w1 hw1; exact hn w1 (hin w1 _ hw1.chg hS); rintro v Lo ⟨rfl, rfl⟩)) | (apply R.pure; exact rfl; first | (apply Ok1.move; exact rfl) | (apply Ok1.assign; exact rfl) | (apply Ok1.pick_t; exact rfl; exact rfl) | (apply Ok1.field1; (iterate 7 exact rfl)))) | (apply R.isG; (apply R.guard_run; exact rfl; exact rfl)) | apply R.nil | (apply T.is; first | apply T.seq | apply T.region | apply T.skip | apply T.ret | (apply T.cond_f; exact rfl)))
  (apply RetOk.t; exact rfl)
  exact ⟨_, by (focus ((repeat' (first | exact Keep.nil _ | exact Ext.one _ _ | apply Keep.cons)); done)), rfl, rfl⟩
theorem rerr_ok (br : Nat) (s : Rs) (w : World) (hb : w.heap[br]? = some (.cells ⟨[.slice s.q s.xs.length s.cap, .int .i64 s.e]⟩ 249 (0, 0))) : CallW Tryz.prog 131 [.pointer (some ⟨br, 0, none⟩)] w fun v _ => v = .int .i64 s.e := by
  refine enterW (tb := tb) Tryz.func131 rfl Tryz.ntmps131 rfl ?_
  repeat' (first | (apply R.is1; first | (apply R.isBin; (apply R.pure; exact rfl; (apply Ok1.eqlP; (iterate 5 exact rfl)))) | (apply R.pure; exact rfl; first | (apply Ok1.move; exact rfl) | (apply Ok1.fieldAddr; (iterate 5 exact rfl)) | (apply Ok1.load; exact rfl; (apply Ld.blk1; exact rfl; exact rfl; assumption; (exact List.not_mem_nil); exact rfl)) | (apply Ok1.assign; exact rfl) | (apply Ok1.nilCheck; exact rfl))) | apply R.nil | (apply T.is; first | apply T.seq | apply T.region | apply T.skip | apply T.ret | (apply T.cond_f; exact rfl)))
  (apply RetOk.t; exact rfl)
  rfl
theorem rleft_ok (br : Nat) (s : Rs) (w : World) (hb : w.heap[br]? = some (.cells ⟨[.slice s.q s.xs.length s.cap, .int .i64 s.e]⟩ 249 (0, 0))) : CallW Tryz.prog 179 [.pointer (some ⟨br, 0, none⟩)] w fun v _ => v = .int .i64 s.xs.length := by
  refine enterW (tb := tb) Tryz.func179 rfl Tryz.ntmps179 rfl ?_
  repeat' (first | (apply R.is1; first | (apply R.isBin; (apply R.pure; exact rfl; (apply Ok1.eqlP; (iterate 5 exact rfl)))) | (apply R.isCall; (apply R.pure; exact rfl; (apply Ok1.lenS; (iterate 3 exact rfl)))) | (apply R.pure; exact rfl; first | (apply Ok1.move; exact rfl) | (apply Ok1.fieldAddr; (iterate 5 exact rfl)) | (apply Ok1.load; exact rfl; (apply Ld.blk1; exact rfl; exact rfl; assumption; (exact List.not_mem_nil); exact rfl)) | (apply Ok1.assign; exact rfl) | (apply Ok1.nilCheck; exact rfl))) | apply R.nil | (apply T.is; first | apply T.seq | apply T.region | apply T.skip | apply T.ret | (apply T.cond_f; exact rfl)))
  (apply RetOk.t; exact rfl)
  rfl
def Rs.fin (s : Rs) : Int := if s.e ≠ 0 then s.e else if 0 < s.xs.length then 3 else 0
theorem rend_ok (br : Nat) (s : Rs) (w : World) (hb : w.heap[br]? = some (.cells ⟨[.slice s.q s.xs.length s.cap, .int .i64 s.e]⟩ 249 (0, 0))) : CallW Tryz.prog 134 [.pointer (some ⟨br, 0, none⟩)] w fun v _ => v = .int .i64 s.fin := by
  have h1 := fun w1 (hc : Chg [] w w1) => rerr_ok br s w1 (hc.heap hb List.not_mem_nil)
  have h2 := fun w1 (hc : Chg [] w w1) => rleft_ok br s w1 (hc.heap hb List.not_mem_nil)
  refine enterW (tb := tb) Tryz.func134 rfl Tryz.ntmps134 rfl ?_
  rw [Rs.fin]
  by_cases he : s.e = 0
  · rw [if_neg (fun h => h he)]
    rw [he] at h1
    by_cases hx : 0 < s.xs.length
    · rw [if_pos hx]
      repeat' (first | (apply R.is1; first | (apply R.isBin; (apply R.pure; exact rfl; first | (apply Ok1.gtr_t; exact rfl; exact rfl; omega) | (apply Ok1.neq_f; exact rfl; exact rfl; omega))) | (apply R.isCall; (apply R.callV; (iterate 3 exact rfl); intro w1 hw1; first | exact h1 w1 hw1.chg | exact h2 w1 hw1.chg)) | (apply R.pure; exact rfl; first | (apply Ok1.move; exact rfl) | (apply Ok1.assign; exact rfl))) | apply R.nil | (apply T.is; first | apply T.seq | apply T.region | apply T.skip | apply T.ret | (apply T.cond_t; exact rfl) | (apply T.cond_f; exact rfl)))
      (apply RetOk.t; exact rfl)
      rfl
    · rw [if_neg hx]
      repeat' (first | (apply R.is1; first | (apply R.isBin; (apply R.pure; exact rfl; first | (apply Ok1.gtr_f; exact rfl; exact rfl; omega) | (apply Ok1.neq_f; exact rfl; exact rfl; omega))) | (apply R.isCall; (apply R.callV; (iterate 3 exact rfl); intro w1 hw1; first | exact h1 w1 hw1.chg | exact h2 w1 hw1.chg)) | (apply R.pure; exact rfl; first | (apply Ok1.move; exact rfl) | (apply Ok1.assign; exact rfl))) | apply R.nil | (apply T.is; first | apply T.seq | apply T.region | apply T.skip | apply T.ret | (apply T.cond_f; exact rfl)))
      (apply RetOk.t; exact rfl)
      rfl
  · rw [if_pos he]
    repeat' (first | (apply R.is1; first | (apply R.isBin; (apply R.pure; exact rfl; (apply Ok1.neq_t; exact rfl; exact rfl; omega))) | (apply R.isCall; (apply R.callV; (iterate 3 exact rfl); intro w1 hw1; exact h1 w1 hw1.chg)) | (apply R.pure; exact rfl; first | (apply Ok1.move; exact rfl) | (apply Ok1.assign; exact rfl))) | apply R.nil | (apply T.is; first | apply T.seq | apply T.region | apply T.ret | (apply T.cond_t; exact rfl)))
    (apply RetOk.t; exact rfl)
    rfl
/-- A reader whose bytes lie in known blocks. -/
structure RsO (s : Rs) (M : Lst) : Prop where
  rd : ∀ (w0 w : World) (S : List Nat) (L' : Lst), Hp w0 S L' w → (∀ z ∈ M, z ∈ L') → RdSl w s.q u8V s.xs
  adr : s.xs ≠ [] → ∃ b o, s.q = some ⟨b, o, none⟩ ∧ b ∈ blks M
  cap : s.xs.length ≤ s.cap
  byt : Byt s.xs
  big : s.xs.length ≤ 1000000000
theorem RsO.ok {s : Rs} {M : Lst} (h : RsO s M) {br : Nat} {w0 w : World} {S : List Nat} {L Lr : Lst} (hw : Hp w0 S L w) (he : Ext L (s.L br) Lr) (hin : ∀ z ∈ M, z ∈ Lr) : s.ok br w := by
  refine ⟨h.rd _ _ _ _ hw fun z hz => he.perm.subset (List.mem_append_right _ (hin z hz)), h.cap, fun hne a ha => ?_, h.byt, h.big⟩
  obtain ⟨b, o, hp, hb⟩ := h.adr hne
  rw [hp] at ha
  cases ha
  obtain ⟨z, hz, hze⟩ := List.mem_map.1 hb
  obtain ⟨zb, zo⟩ := z
  simp only at hze
  subst hze
  exact RdSl.off hw he (hin _ hz)
theorem RsO.fail {s : Rs} {M : Lst} (h : RsO s M) (e : Int) : RsO (s.fail e) M := by
  unfold Rs.fail
  split
  · exact ⟨fun _ _ _ _ _ _ => .inl rfl, (fun h => absurd rfl h), Nat.zero_le _, (fun y hy => by cases hy), Nat.zero_le _⟩
  · exact h
theorem RsO.drop {s : Rs} {M : Lst} (h : RsO s M) {k : Nat} (hk : k ≤ s.xs.length) : RsO (s.drop k) M := by
  refine ⟨fun w0 w S L' hw hin => (h.rd w0 w S L' hw hin).suf u8V_len hk h.cap, fun hne => ?_, ?_, fun y hy => h.byt y (List.mem_of_mem_drop hy), ?_⟩
  · have h1 : s.xs ≠ [] := by intro h0; apply hne; simp [Rs.drop, h0]
    obtain ⟨b, o, hp, hb⟩ := h.adr h1
    by_cases hc : s.cap = k
    · exfalso; apply hne; simp only [Rs.drop]; exact List.drop_of_length_le (by have := h.cap; omega)
    · exact ⟨b, o + k * 1, by simp [Rs.drop, sufP, hc, hp, Addr.add_none], hb⟩
  · have := h.cap; simp only [Rs.drop, List.length_drop]; omega
  · have := h.big; simp only [Rs.drop, List.length_drop]; omega
theorem RsO.num {s : Rs} {M : Lst} (h : RsO s M) (k : Nat) : RsO (s.num k).2.2 M := by
  unfold Rs.num
  split
  · exact h.fail 4
  · rename_i hn
    have hk : k ≤ s.xs.length := Nat.le_of_not_lt fun h1 => hn (.inr h1)
    split
    · exact h.drop hk
    · exact (h.drop hk).fail 3
theorem ovc_leR {n : Nat} {ov : Ov} {xs : List Value} (h : OvOk 1 ov n xs) : n ≤ ovc ov n := by
  unfold ovc
  cases ov with
  | none => have := h.2; simp only at this ⊢; omega
  | some q => simp only; omega
theorem rnewr_ok (p : Option Addr) (n cap : Nat) (xs : List Int) (hn : n = xs.length) (hbig : n ≤ 1000000000) (hb : Byt xs) (w : World) (hp : RdSl w p u8V xs) :
    CallM Tryz.prog 43 [.slice p n cap] [] w fun v L => ∃ br s M, v = .pointer (some ⟨br, 0, none⟩) ∧ s.xs = (if n ≤ 1024 then xs else []) ∧ s.e = (if n ≤ 1024 then 0 else 2) ∧ RsO s M ∧ L = s.L br ++ M := by
  have hcl := fun w1 (hc : Chg [] w w1) => clone_ok p n cap xs hn hbig w1 (hp.chg' hc (fun _ => Off.nil _))
  subst hn
  have hro : ∀ ov, OvOk 1 ov xs.length (u8s xs) → RsO ⟨ovp ov, ovc ov xs.length, xs, 0⟩ (blkL 5 ov (u8s xs)) := fun ov hov => by
    rw [← fl_u8] at hov ⊢
    refine ⟨fun w0 w S L' hw hin => RdSl.own' hw hin hov u8V_len, fun hne => ?_, ?_, hb, hbig⟩
    · cases ov with
      | none => exact absurd (List.eq_nil_of_length_eq_zero hov.2) hne
      | some q => exact ⟨_, _, rfl, by simp [blks, blkL]⟩
    · exact ovc_leR hov
  refine enterK (tb := tb) Tryz.func43 rfl Tryz.ntmps43 rfl ?_
  by_cases hl : xs.length ≤ 1024
  · repeat' (first | (apply R.is1; first | (apply R.isBin; (apply R.pure; exact rfl; (apply Ok1.gtr_f; exact rfl; exact rfl; omega))) | (apply R.isCall; first | (apply R.callE; (iterate 3 exact rfl); exact Ext.none _; intro w1 hw1; exact hcl w1 hw1.chg; rintro v Lo ⟨ov, hov, hsome, rfl, rfl⟩; rw [slV_eq hov]) | (apply R.pure; exact rfl; (apply Ok1.lenS; (iterate 3 exact rfl)))) | (apply R.pure; exact rfl; first | (apply Ok1.move; exact rfl) | (apply Ok1.assign; exact rfl) | (apply Ok1.build; (iterate 5 exact rfl))) | (apply R.box; (iterate 3 exact rfl); intro)) | apply R.nil | (apply T.is; first | apply T.seq | apply T.region | apply T.skip | apply T.ret | (apply T.cond_f; exact rfl)))
    (apply RetOk.t; exact rfl)
    refine ⟨_, ?_, _, ⟨ovp ov, ovc ov xs.length, xs, 0⟩, _, rfl, by simp only [if_pos hl], by simp only [if_pos hl], hro ov hov, rfl⟩
    simp only [Rs.L, List.append_nil, List.cons_append, List.nil_append]
    (focus ((repeat' (first | exact Ext.one _ _ | exact Ext.all _ | apply Keep.cons | apply Keep.last)); done))
  · repeat' (first | (apply R.is1; first | (apply R.isBin; (apply R.pure; exact rfl; (apply Ok1.gtr_t; exact rfl; exact rfl; omega))) | (apply R.isCall; first | (apply R.callE (vs := [.slice p xs.length cap]); (iterate 3 exact rfl); exact Ext.none _; intro w1 hw1; exact hcl w1 hw1.chg; rintro v Lo ⟨ov, hov, hsome, rfl, rfl⟩; rw [slV_eq hov]) | (apply R.callE (Li := [(_, .cells ⟨[.slice (ovp ov) xs.length (ovc ov xs.length), .int .i64 0]⟩ 249 (0, 0))]); (iterate 3 exact rfl); (focus ((repeat' (exact Ext.one _ _)); done)); intro w1 hw1; exact rfail_ok _ ⟨ovp ov, ovc ov xs.length, xs, 0⟩ 2 w1; rintro v Lo ⟨rfl, rfl⟩) | (apply R.pure; exact rfl; (apply Ok1.lenS; (iterate 3 exact rfl)))) | (apply R.pure; exact rfl; first | (apply Ok1.move; exact rfl) | (apply Ok1.fieldAddr; (iterate 5 exact rfl)) | (apply Ok1.assign; exact rfl) | (apply Ok1.build; (iterate 5 exact rfl)) | (apply Ok1.nilCheck; exact rfl)) | (apply R.box; (iterate 3 exact rfl); intro)) | apply R.nil | (apply T.is; first | apply T.seq | apply T.region | apply T.ret | (apply T.cond_t; exact rfl)))
    (apply RetOk.t; exact rfl)
    refine ⟨_, ?_, _, (⟨ovp ov, ovc ov xs.length, xs, 0⟩ : Rs).fail 2, _, rfl, by simp only [if_neg hl, Rs.fail, if_pos], by simp only [if_neg hl, Rs.fail, if_pos], (hro ov hov).fail 2, rfl⟩
    simp only [Rs.L, List.append_nil, List.cons_append, List.nil_append]
    (focus ((repeat' (first | exact Ext.one _ _ | exact Ext.all _ | apply Keep.cons | apply Keep.last)); done))
end Go.Proofs.YtidjnjlejhoalaaGreat
set_option linter.unusedSimpArgs false
set_option linter.unusedVariables false
namespace Go.Proofs.YtidjnjlejhoalaaGreat
open Go.RowKit Go.Shelf
set_option maxRecDepth 100000
theorem DlO.mono {d : Dl} {L L' : Lst} (h : DlO d L) (hs : ∀ z ∈ L, z ∈ L') : DlO d L' :=
  ⟨h.cap, fun x hx hne => by obtain ⟨b, o, h1, h2⟩ := h.adr x hx hne; obtain ⟨z, hz, e⟩ := List.mem_map.1 h2; exact ⟨b, o, h1, List.mem_map.2 ⟨z, hs z hz, e⟩⟩, fun w0 w S L' hw hin => h.rd w0 w S L' hw fun z hz => hin z (hs z hz)⟩
end Go.Proofs.YtidjnjlejhoalaaGreat
set_option linter.unusedSimpArgs false
set_option linter.unusedVariables false
namespace Go.Proofs.YtidjnjlejhoalaaGreat
open Go.RowKit Go.Shelf
structure Rs.is (s : Rs) (xs : List Int) (e : Int) : Prop where
  xs : s.xs = xs
  e : s.e = e
/-- Two readers with the same bytes. -/
def Rs.eqv (s t : Rs) : Prop := s.xs = t.xs ∧ s.e = t.e
theorem Rs.eqv.drop {s t : Rs} (h : s.eqv t) (k : Nat) : (s.drop k).eqv (t.drop k) := ⟨by simp only [Rs.drop]; rw [h.1], h.2⟩
end Go.Proofs.YtidjnjlejhoalaaGreat
set_option linter.unusedSimpArgs false
set_option linter.unusedVariables false
namespace Go.Proofs.YtidjnjlejhoalaaGreat
open Go.RowKit Go.Shelf
def Grw (ls ls' : List (List Int)) : Prop := ls'.length = ls.length ∧ ∀ (i : Nat) (xs : List Int), ls[i]? = some xs → ∃ zs, ls'[i]? = some (xs ++ zs)
theorem Grw.refl (ls : List (List Int)) : Grw ls ls := ⟨rfl, fun i xs h => ⟨[], by rw [List.append_nil]; exact h⟩⟩
theorem Grw.mem {gs gs' : List Lg} (h : Grw (lgs gs) (lgs gs')) {y : Int} (hy : y ∈ lcat gs) : y ∈ lcat gs' := by
  obtain ⟨g, hg, hyg⟩ := List.mem_flatMap.1 hy
  obtain ⟨i, hi, rfl⟩ := List.getElem_of_mem hg
  obtain ⟨zs, hz⟩ := h.2 i gs[i].xs (by rw [lgs, List.getElem?_map, List.getElem?_eq_getElem hi]; rfl)
  rw [lgs, List.getElem?_map] at hz
  cases hg' : gs'[i]? with
  | none => rw [hg'] at hz; cases hz
  | some g' =>
    rw [hg'] at hz
    simp only [Option.map_some, Option.some.injEq] at hz
    exact List.mem_flatMap.2 ⟨g', List.mem_of_getElem? hg', by rw [hz]; exact List.mem_append_left _ hyg⟩
theorem Grw.le {gs gs' : List Lg} (h : Grw (lgs gs) (lgs gs')) : ∀ x ∈ (gs'.map fun g => (g.xs.length : Int)).zip (gs.map fun g => (g.xs.length : Int)), x.2 ≤ x.1 := by
  intro x hx
  obtain ⟨i, hi, rfl⟩ := List.getElem_of_mem hx
  simp only [List.length_zip, List.length_map] at hi
  simp only [List.getElem_zip, List.getElem_map]
  obtain ⟨zs, hz⟩ := h.2 i gs[i].xs (by rw [lgs, List.getElem?_map, List.getElem?_eq_getElem (by omega)]; rfl)
  rw [lgs, List.getElem?_map, List.getElem?_eq_getElem (by omega)] at hz
  simp only [Option.map_some, Option.some.injEq] at hz
  rw [hz, List.length_append]
  omega
end Go.Proofs.YtidjnjlejhoalaaGreat
set_option linter.unusedSimpArgs false
set_option linter.unusedVariables false
namespace Go.Proofs.YtidjnjlejhoalaaGreat
open Go.RowKit Go.Shelf
set_option maxRecDepth 100000
structure RAct where
  kind : Int
  n : Int
  l : Pi
  f0 : Int
  f1 : Int
  f2 : Int
  f3 : Int
  l0 : Pi
  l1 : Pi
  l2 : Pi
  l3 : Pi
deriving Inhabited
def Pi.w (z : Pi) : Value := .slice z.p z.xs.length z.cap
def RAct.v (a : RAct) : List Value := [.int .i64 a.kind, .int .i64 a.n, a.l.w, .int .i64 a.f0, .int .i64 a.f1, .int .i64 a.f2, .int .i64 a.f3, a.l0.w, a.l1.w, a.l2.w, a.l3.w]
def RAct.d (a : RAct) : Dl := [(a.f0, a.l0), (a.f1, a.l1), (a.f2, a.l2), (a.f3, a.l3)]
structure RAct.ok (w : World) (a : RAct) : Prop where
  rd : RdSl w a.l.p iV a.l.xs
  cap : a.l.xs.length ≤ a.l.cap
  drd : ∀ x ∈ a.d, RdSl w x.2.p iV x.2.xs
  dcap : ∀ x ∈ a.d, x.2.xs.length ≤ x.2.cap
theorem DlO.off {d : Dl} {M : Lst} (h : DlO d M) {w0 w : World} {S : List Nat} {L Li Lr : Lst} (hw : Hp w0 S L w) (he : Ext L Li Lr) (hin : ∀ z ∈ M, z ∈ Lr) : ∀ x ∈ d, x.2.xs ≠ [] → Off x.2.p (blks Li) := by
  intro x hx hne a ha
  obtain ⟨b, o, hp, hb⟩ := h.adr x hx hne
  rw [hp] at ha
  cases ha
  obtain ⟨z, hz, hze⟩ := List.mem_map.1 hb
  obtain ⟨zb, zo⟩ := z
  simp only at hze
  subst hze
  exact RdSl.off hw he (hin _ hz)
end Go.Proofs.YtidjnjlejhoalaaGreat
set_option linter.unusedSimpArgs false
set_option linter.unusedVariables false
namespace Go.Proofs.YtidjnjlejhoalaaGreat
open Go.RowKit Go.Shelf
set_option maxRecDepth 100000
def val : List Nat → Nat
  | [] => 0
  | d :: r => d + 65536 * val r
end Go.Proofs.YtidjnjlejhoalaaGreat
set_option linter.unusedSimpArgs false
set_option linter.unusedVariables false
namespace Go.Proofs.YtidjnjlejhoalaaGreat
open Go.RowKit Go.Shelf
set_option maxRecDepth 100000
end Go.Proofs.YtidjnjlejhoalaaGreat
set_option linter.unusedSimpArgs false
set_option linter.unusedVariables false
namespace Go.Proofs.YtidjnjlejhoalaaGreat
open Go.RowKit Go.Shelf
set_option maxRecDepth 100000
end Go.Proofs.YtidjnjlejhoalaaGreat
set_option linter.unusedSimpArgs false
set_option linter.unusedVariables false
namespace Go.Proofs.YtidjnjlejhoalaaGreat
open Go.RowKit Go.Shelf
set_option maxRecDepth 100000
def zs (n : Nat) : List Value := List.replicate n (.int .u32 0)
end Go.Proofs.YtidjnjlejhoalaaGreat
set_option linter.unusedSimpArgs false
set_option linter.unusedVariables false
namespace Go.Proofs.YtidjnjlejhoalaaGreat
open Go.RowKit Go.Shelf
set_option maxRecDepth 100000
theorem Rs.ok.fail {s : Rs} {br : Nat} {w : World} (h : s.ok br w) (e : Int) : (s.fail e).ok br w := by
  unfold Rs.fail
  split
  · exact ⟨.inl rfl, Nat.le_refl _, (fun h => absurd rfl h), (fun y hy => by cases hy), Nat.zero_le _⟩
  · exact h
theorem Rs.ok.drop {s : Rs} {br : Nat} {w : World} (h : s.ok br w) {k : Nat} (hk : k ≤ s.xs.length) : (s.drop k).ok br w := by
  refine ⟨h.rd.suf u8V_len hk h.cap, ?_, fun hne => ?_, fun y hy => h.byt y (List.mem_of_mem_drop hy), ?_⟩
  · have := h.cap; simp only [Rs.drop, List.length_drop]; omega
  · exact (h.off (by intro h0; apply hne; simp [Rs.drop, h0])).suf _ _ _
  · have := h.big; simp only [Rs.drop, List.length_drop]; omega
theorem Rs.ok.num {s : Rs} {br : Nat} {w : World} (h : s.ok br w) (k : Nat) : (s.num k).2.2.ok br w := by
  unfold Rs.num
  split
  · exact h.fail 4
  · rename_i hn
    have hk : k ≤ s.xs.length := Nat.le_of_not_lt fun h1 => hn (.inr h1)
    split
    · exact h.drop hk
    · exact (h.drop hk).fail 3
theorem Rs.ok.chg {s : Rs} {br : Nat} {w w1 : World} (h : s.ok br w) {S : List Nat} (hc : Chg S w w1) (hS : S = [br]) : s.ok br w1 := ⟨h.rd.chg' hc (fun h9 => hS ▸ h.off h9), h.cap, h.off, h.byt, h.big⟩
theorem rL_blk (s : Rs) (br : Nat) : blks (s.L br) = [br] := rfl
theorem Ext.memI9 {L s L1 : Lst} {x : Nat × Obj} (hm : x ∈ s) (h : Ext L s L1) : x ∈ L := h.mem x hm
end Go.Proofs.YtidjnjlejhoalaaGreat
set_option linter.unusedSimpArgs false
set_option linter.unusedVariables false
namespace Go.Proofs.YtidjnjlejhoalaaGreat
open Go.RowKit Go.Shelf
set_option maxRecDepth 100000
def sTok : ByteArray := ⟨#[116, 111, 107, 101, 110]⟩
def secretI (k : List Int) (c : Cl) : List Int := deriveI k sTok [clI c]
def clC (c : Cl) : List Value := [.int .i64 c.id, .int .i64 c.roles, .int .i64 c.exp, .int .i64 c.ser]
def tkC (c : Cl) (s : List Int) : List Value := clC c ++ u8s s
def zI (n : Nat) : List Int := List.replicate n 0
theorem list32 {α : Type} : ∀ (l : List α), l.length = 32 → ∃ x0 x1 x2 x3 x4 x5 x6 x7 x8 x9 x10 x11 x12 x13 x14 x15 x16 x17 x18 x19 x20 x21 x22 x23 x24 x25 x26 x27 x28 x29 x30 x31, l = [x0, x1, x2, x3, x4, x5, x6, x7, x8, x9, x10, x11, x12, x13, x14, x15, x16, x17, x18, x19, x20, x21, x22, x23, x24, x25, x26, x27, x28, x29, x30, x31] := by
  intro l h
  match l, h with
  | [x0, x1, x2, x3, x4, x5, x6, x7, x8, x9, x10, x11, x12, x13, x14, x15, x16, x17, x18, x19, x20, x21, x22, x23, x24, x25, x26, x27, x28, x29, x30, x31], _ => exact ⟨x0, x1, x2, x3, x4, x5, x6, x7, x8, x9, x10, x11, x12, x13, x14, x15, x16, x17, x18, x19, x20, x21, x22, x23, x24, x25, x26, x27, x28, x29, x30, x31, rfl⟩
theorem fill_tk (a b : Nat) (c : Cl) (d : List Int) (hd : d.length = 32) : fillE (fldPl [(a, 0, 4), (b, 4, 32)]) (tkC ⟨0, 0, 0, 0⟩ (zI 32)) [(0, .agg ⟨clC c⟩), (1, .agg ⟨u8s d⟩)] = some (tkC c d) := by
  obtain ⟨x0, x1, x2, x3, x4, x5, x6, x7, x8, x9, x10, x11, x12, x13, x14, x15, x16, x17, x18, x19, x20, x21, x22, x23, x24, x25, x26, x27, x28, x29, x30, x31, rfl⟩ := list32 d hd
  rfl
theorem secret_len (k : List Int) (c : Cl) : (secretI k c).length = 32 := derive_len _ _ _
theorem secret_byt (k : List Int) (c : Cl) : Byt (secretI k c) := derive_byt _ _ _
theorem make_ok (c : Cl) (hr : c.right) (bk : Nat) (k : List Int) (hkl : k.length ≤ 999999000) (hkb : Byt k) (w : World) (hk : KeyR w bk k) : CallW Tryz.prog 68 [.pointer (some ⟨bk, 0, none⟩), kvC c] w fun v _ => v = .tuple #[.agg ⟨tkC c (secretI k c)⟩, .int .i64 0] := by
  have hcb := clBytes_ok c hr
  have hdl := secret_len k c
  have hdd : secretI k c = deriveI k sTok [clI c] := rfl
  have hcl := clI_len c
  have hcy := clI_byt c
  have hfl : (frameI [strI sTok, clI c]).length = 22 := rfl
  have hst : sTok.size = 5 := rfl
  generalize hsec : secretI k c = d at *
  generalize clI c = cb at *
  have hls : (u8s d).length = 32 := by rw [u8s_len, hdl]
  have htl : (tkC c d).length = 36 := by simp [tkC, clC, hls]
  have hto : (tkC c d).all Value.oneCell' = true := by simp only [tkC, List.all_append, u8s_one, Bool.and_true]; rfl
  have hfill := fun a b => fill_tk a b c d hdl
  refine enterW (tb := tb) Tryz.func68 rfl Tryz.ntmps68 rfl ?_
  simp only [kvC]
  repeat' (first | (apply R.is1; first | (apply R.isBin; (apply R.pure; exact rfl; first | (apply Ok1.neq_f; exact rfl; exact rfl; omega) | (apply Ok1.eqlP; (iterate 5 exact rfl)))) | (apply R.isCall; (apply R.callE (vs := [.agg ⟨[.int .i64 c.id, .int .i64 c.roles, .int .i64 c.exp, .int .i64 c.ser]⟩]); (iterate 3 exact rfl); exact Ext.none _; intro w1 hw1; exact hcb w1; rintro v Lo ⟨ov, hov, rfl, rfl⟩; rw [slV_eq hov]; obtain ⟨b9, j9, k9, rfl⟩ := ovsome hov (by decide); simp only [blkL, List.cons_append, List.nil_append])) | (apply R.pure; exact rfl; first | (apply Ok1.move; exact rfl) | (apply Ok1.load; exact rfl; (apply Ld.ownk; exact rfl; exact rfl; (focus ((repeat' (first | exact At.head | apply At.tail)); done)); exact rfl)) | (apply Ok1.assign; exact rfl) | (apply Ok1.extract; exact rfl; exact rfl)) | (apply R.box; (iterate 3 exact rfl); intro) | (apply R.alloc; (iterate 3 exact rfl); intro)) | apply R.nil | (apply T.is; first | apply T.seq | apply T.region | apply T.skip | (apply T.cond_f; exact rfl)))
  simp only [ovp, ovc]
  apply T.drawC (id := 6) [2] (by decide)
  (apply A.take 0; exact rfl; exact rfl; kernel_rfl; kernel_rfl; kernel_rfl; (apply Ok1.load; exact rfl; (apply Ld.ownk; exact rfl; exact rfl; exact At.head; exact rfl)))
    <;> (apply A.take 1; exact rfl; exact rfl; kernel_rfl; kernel_rfl; kernel_rfl; (apply Ok1.move; exact rfl))
    <;> (apply A.take 2; exact rfl; exact rfl; kernel_rfl; kernel_rfl; kernel_rfl; (apply Ok1.move; exact rfl))
    <;> (apply A.one 3; kernel_rfl; exact rfl; (((apply R.buildSlice; (iterate 12 exact rfl); intro))); apply R.nil; refine ⟨?_, ?_⟩; (focus ((repeat' (first | exact trivial | (refine ⟨?_, ?_⟩; (focus ((repeat' (first | exact At.head | apply At.tail)); done))))))))
    <;> (apply A.one 4; kernel_rfl; exact rfl; (((apply R.callE (vs := [.pointer (some ⟨bk, 0, none⟩), .string sTok, .slice (some ⟨_, 0, none⟩) 1 1]); (iterate 3 exact rfl); exact Ext.none _; intro w1 hw1; exact derive_ok bk k hkl hkb sTok (by rw [hst]; decide) _ 1 1 [⟨some ⟨b9, 0, none⟩, 9 + j9, cb⟩] rfl (by decide) (by intro x hx; cases List.mem_singleton.1 hx; exact hcy) (by rw [List.map_cons, List.map_nil, hfl]; decide) (by intro x hx; cases List.mem_singleton.1 hx; rw [hcl]; decide) w1 (hk.chg hw1.chg) (RdSl.of (junk := []) hw1 (by exact At.head) (by simp [fl, Pt.v, hcl])) (by intro x hx; cases List.mem_singleton.1 hx; exact RdSl.of (junk := k9) hw1 (by (focus ((repeat' (first | exact At.head | apply At.tail)); done))) (by rw [fl_u8])); rw [List.map_cons, List.map_nil, ← hdd]; rintro v Lo ⟨bk2, ov2, rfl, hov2, rfl⟩))); apply R.nil; refine ⟨?_, ?_⟩; (focus ((repeat' (first | exact trivial | (refine ⟨?_, ?_⟩; (focus ((repeat' (first | exact At.head | apply At.tail | apply At.right)); done))))))))
    <;> (apply A.one 5; kernel_rfl; exact rfl; (((apply R.callE (vs := [.pointer (some ⟨bk2, 0, none⟩)]); (iterate 3 exact rfl); exact Ext.none _; intro w1 hw1; exact bytes_ok bk2 d (by rw [hdl]; decide) w1 (KeyR.of (by rw [hdl]; exact hov2) hw1 (Ext.mem (by (focus ((repeat' (exact Ext.here _ _)); done))))); rw [hdl]; rintro v Lo ⟨ov3, hov3, rfl, rfl⟩; rw [slV_eq hov3]; obtain ⟨b3, j3, k3, rfl⟩ := ovsome hov3 (by decide); simp only [ovp, ovc, blkL, List.cons_append, List.nil_append]))); apply R.nil; refine ⟨?_, ?_⟩; (focus ((repeat' (first | exact trivial | (refine ⟨?_, ?_⟩; (focus ((repeat' (first | exact At.head | apply At.tail | apply At.right)); done))))))))
    <;> (apply A.take 6; exact rfl; exact rfl; kernel_rfl; kernel_rfl; kernel_rfl; (apply Ok1.arrPtr; (iterate 3 exact rfl); omega))
    <;> (apply A.one 7; kernel_rfl; exact rfl; (((apply R.pure; exact rfl; (apply Ok1.load; exact rfl; apply Ld.ownk; exact rfl; exact rfl; exact At.head; exact subE_app _ _ hls)))); apply R.nil; refine ⟨?_, ?_⟩; (focus ((repeat' (first | exact trivial | (refine ⟨?_, ?_⟩; (focus ((repeat' (first | exact At.head | apply At.tail | apply At.right)); done))))))))
    <;> (apply A.take 8; exact rfl; exact rfl; kernel_rfl; kernel_rfl; kernel_rfl; (apply Ok1.build; (iterate 4 exact rfl); exact hfill _ _))
    <;> (apply A.one 9; kernel_rfl; exact rfl; (((apply R.store; (iterate 4 exact rfl); exact htl; exact hto; (focus ((repeat' (first | exact Upd.head | apply Upd.tail | apply Upd.right)); done)); exact setE_all htl))); apply R.nil; refine ⟨?_, ?_⟩; (focus ((repeat' (first | exact trivial | (refine ⟨?_, ?_⟩; (focus ((repeat' (first | exact At.head | apply At.tail | apply At.right)); done))))))))
    <;> (apply A.take 10; exact rfl; exact rfl; kernel_rfl; kernel_rfl; kernel_rfl; (apply Ok1.assign; exact rfl))
    <;> (apply A.done; kernel_rfl)
  repeat' ((apply T.is; apply T.ret))
  all_goals apply RetOk.ct
  all_goals first | exact rfl | skip
  all_goals (apply Ld.ownk; exact rfl; exact rfl; (focus ((repeat' (first | exact At.head | apply At.tail | apply At.right)); done)); exact subE_all htl)
theorem RdSl.mid {w0 w : World} {S : List Nat} {L : Lst} {b : Nat} {e : TypeId} {fz : Nat × Nat} {pre junk : List Value} {xs : List Int} (hw : Hp w0 S L w) (hat : At L b (.cells ⟨pre ++ u8s xs ++ junk⟩ e fz)) {o : Nat} (ho : o = pre.length) : RdSl w (some ⟨b, o, none⟩) u8V xs := by
  subst ho
  right
  refine ⟨b, pre.length, rfl, fun k hk => ?_⟩
  have h1 := hw.get b _ hat.mem
  rw [fl_u8] at hk ⊢
  simp only [World.cell?, h1]
  simp only [List.append_assoc, List.getElem?_toArray]
  rw [List.getElem?_append_right (by omega), List.getElem?_append_left (by omega), Nat.add_sub_cancel_left]
  rfl
theorem key_ok (c : Cl) (s : List Int) (hs : s.length = 32) : ∀ w, CallM Tryz.prog 169 [.agg ⟨tkC c s⟩] [] w fun v L => ∃ bk ov, v = .pointer (some ⟨bk, 0, none⟩) ∧ OvOk 1 ov 32 (u8s s) ∧ L = KL bk ov s := by
  intro w
  refine enterK (tb := tb) Tryz.func169 rfl Tryz.ntmps169 rfl ?_
  have hls : (u8s s).length = 32 := by rw [u8s_len, hs]
  have htl : (tkC c s).length = 36 := by simp [tkC, clC, hls]
  repeat' (first | (apply R.is1; first | (apply R.isCall; (apply R.callE; (iterate 3 exact rfl); exact Ext.none _; intro w1 hw1; exact new_ok (some ⟨_, 4, none⟩) 32 32 s hs.symm (by decide) w1 (RdSl.mid (pre := clC c) (junk := []) hw1 (by rw [List.append_nil]; exact At.head) rfl); rintro v Lo ⟨bk2, ov2, rfl, hov2, _, rfl⟩)) | (apply R.pure; exact rfl; first | (apply Ok1.sliceArr; (iterate 4 exact rfl)) | (apply Ok1.fieldAddr; (iterate 5 exact rfl)) | (apply Ok1.assign; exact rfl)) | (apply R.box; (iterate 3 exact rfl); intro)) | apply R.nil | (apply T.is; first | apply T.seq | apply T.region | apply T.ret))
  (apply RetOk.t; exact rfl)
  rw [hs] at hov2
  refine ⟨_, ?_, bk2, ov2, rfl, hov2, rfl⟩
  (focus ((repeat' (first | exact Ext.one _ _ | exact Ext.here _ _ | apply Keep.cons | apply Keep.last)); done))
end Go.Proofs.YtidjnjlejhoalaaGreat
set_option linter.unusedSimpArgs false
set_option linter.unusedVariables false
namespace Go.Proofs.YtidjnjlejhoalaaGreat
open Go.RowKit Go.Shelf
set_option maxRecDepth 100000
def Rs.cA (s : Rs) : Rs := (s.num 2).2.2
def Rs.cB (s : Rs) : Rs := (s.cA.num 1).2.2
def Rs.cD (s : Rs) : Rs := (s.cB.num 4).2.2
def Rs.c4 (s : Rs) : Rs := (s.cD.num 2).2.2
def Rs.cv (s : Rs) : Cl := ⟨(s.num 2).1, (s.cA.num 1).1, (s.cB.num 4).1, (s.cD.num 2).1⟩
def cl0 : Cl := ⟨0, 0, 0, 0⟩
def rdC (s : Rs) : Cl × Int := if s.c4.e ≠ 0 then (cl0, s.c4.e) else if s.cv.right then (s.cv, 0) else (cl0, 3)
theorem cread_ok (br : Nat) (s : Rs) (w : World) (hs : s.ok br w) : CallM Tryz.prog 143 [.pointer (some ⟨br, 0, none⟩)] (s.L br) w fun v L => v = .tuple #[kvC (rdC s).1, .int .i64 (rdC s).2] ∧ L = s.c4.L br := by
  have hbl0 := rL_blk s br
  have oA : s.cA.ok br w := hs.num 2
  have oB : s.cB.ok br w := oA.num 1
  have oD : s.cD.ok br w := oB.num 4
  have h1 : ∀ w1, s.ok br w1 → CallM Tryz.prog 112 [.pointer (some ⟨br, 0, none⟩), .int .i64 1] (s.L br) w1 fun v L => v = .int .i64 s.cv.id ∧ L = s.cA.L br := fun w1 h => rnum_ok br s 1 2 (by decide) rfl w1 h
  have h2 : ∀ w1, s.cA.ok br w1 → CallM Tryz.prog 112 [.pointer (some ⟨br, 0, none⟩), .int .i64 0] (s.cA.L br) w1 fun v L => v = .int .i64 s.cv.roles ∧ L = s.cB.L br := fun w1 h => rnum_ok br s.cA 0 1 (by decide) rfl w1 h
  have h3 : ∀ w1, s.cB.ok br w1 → CallM Tryz.prog 112 [.pointer (some ⟨br, 0, none⟩), .int .i64 2] (s.cB.L br) w1 fun v L => v = .int .i64 s.cv.exp ∧ L = s.cD.L br := fun w1 h => rnum_ok br s.cB 2 4 (by decide) rfl w1 h
  have h4 : ∀ w1, s.cD.ok br w1 → CallM Tryz.prog 112 [.pointer (some ⟨br, 0, none⟩), .int .i64 1] (s.cD.L br) w1 fun v L => v = .int .i64 s.cv.ser ∧ L = s.c4.L br := fun w1 h => rnum_ok br s.cD 1 2 (by decide) rfl w1 h
  have hre := fun w1 h => rerr_ok br s.c4 w1 h
  have hck := check_ok s.cv.id s.cv.roles s.cv.exp s.cv.ser
  have hD : rdC s = if s.c4.e ≠ 0 then (cl0, s.c4.e) else if s.cv.right then (s.cv, 0) else (cl0, 3) := rfl
  have hm3 : (br, Obj.cells ⟨[.slice s.c4.q s.c4.xs.length s.c4.cap, .int .i64 s.c4.e]⟩ 249 (0, 0)) ∈ s.c4.L br := by simp [Rs.L]
  generalize hL4 : s.c4.L br = L4 at *
  generalize s.c4 = s4 at *
  generalize hLD : s.cD.L br = LD at *
  generalize s.cD = sD at *
  generalize hLB : s.cB.L br = LB at *
  generalize s.cB = sB at *
  generalize hLA : s.cA.L br = LA at *
  generalize s.cA = sA at *
  generalize s.cv = c at *
  generalize rdC s = rd at *
  generalize hLS : s.L br = LS at *
  refine enterK (tb := tb) Tryz.func143 rfl Tryz.ntmps143 rfl ?_
  by_cases he : s4.e = 0
  · rw [if_neg (fun h => h he)] at hD
    rw [he] at hre hm3
    by_cases hr : c.right
    · rw [if_pos hr] at hD hck
      subst hD
      repeat' (first | (apply R.is1; first | (apply R.isBin; (apply R.pure; exact rfl; (apply Ok1.neq_f; exact rfl; exact rfl; omega))) | (apply R.isCall; first | (apply R.callE (Li := LS) (vs := [.pointer (some ⟨br, 0, none⟩), .int .i64 1]); (iterate 3 exact rfl); (focus ((repeat' (first | exact Ext.all _ | apply Ext.cons | apply Ext.app)); done)); intro w1 hw1; exact h1 w1 (hs.chg hw1.chg hbl0); rintro v Lo ⟨rfl, hq⟩; rw [hq]; clear hq) | (apply R.callE (Li := LA) (vs := [.pointer (some ⟨br, 0, none⟩), .int .i64 0]); (iterate 3 exact rfl); (focus ((repeat' (exact Ext.here _ _)); done)); intro w1 hw1; exact h2 w1 (oA.chg hw1.chg hbl0); rintro v Lo ⟨rfl, hq⟩; rw [hq]; clear hq) | (apply R.callE (Li := LB) (vs := [.pointer (some ⟨br, 0, none⟩), .int .i64 2]); (iterate 3 exact rfl); (focus ((repeat' (exact Ext.here _ _)); done)); intro w1 hw1; exact h3 w1 (oB.chg hw1.chg hbl0); rintro v Lo ⟨rfl, hq⟩; rw [hq]; clear hq) | (apply R.callE (Li := LD) (vs := [.pointer (some ⟨br, 0, none⟩), .int .i64 1]); (iterate 3 exact rfl); (focus ((repeat' (exact Ext.here _ _)); done)); intro w1 hw1; exact h4 w1 (oD.chg hw1.chg hbl0); rintro v Lo ⟨rfl, hq⟩; rw [hq]; clear hq) | (apply R.callV (vs := [.pointer (some ⟨br, 0, none⟩)]); (iterate 3 exact rfl); intro w1 hw1; (apply hre w1; apply hw1.get; apply Ext.memI9 hm3; (focus ((repeat' (first | exact Ext.here _ _ | apply Ext.cons)); done)))) | apply R.callP rfl rfl rfl hck) | (apply R.pure; exact rfl; first | (apply Ok1.move; exact rfl) | (apply Ok1.load; exact rfl; (apply Ld.ownk; exact rfl; exact rfl; exact At.head; exact rfl)) | (apply Ok1.assign; exact rfl) | (apply Ok1.build; (iterate 5 exact rfl))) | (apply R.alloc; (iterate 3 exact rfl); intro)) | (apply R.is0; (apply R.store; (iterate 6 exact rfl); (focus ((repeat' (first | exact Upd.head | apply Upd.tail | apply Upd.right)); done)); exact rfl)) | apply R.nil | (apply T.is; first | apply T.seq | apply T.region | apply T.skip | apply T.ret | (apply T.cond_f; exact rfl)))
      (apply RetOk.ct; exact rfl; ((apply Ld.ownk; exact rfl; exact rfl; (focus ((repeat' (first | exact At.head | apply At.tail | apply At.right)); done)); exact rfl)); exact rfl)
      exact ⟨_, by (focus ((repeat' (first | exact Ext.here _ _ | apply Keep.last | apply Ext.cons)); done)), rfl, rfl⟩
    · rw [if_neg hr] at hD hck
      subst hD
      repeat' (first | (apply R.is1; first | (apply R.isBin; (apply R.pure; exact rfl; first | (apply Ok1.neq_t; exact rfl; exact rfl; omega) | (apply Ok1.neq_f; exact rfl; exact rfl; omega))) | (apply R.isCall; first | (apply R.callE (Li := LS) (vs := [.pointer (some ⟨br, 0, none⟩), .int .i64 1]); (iterate 3 exact rfl); (focus ((repeat' (first | exact Ext.all _ | apply Ext.cons | apply Ext.app)); done)); intro w1 hw1; exact h1 w1 (hs.chg hw1.chg hbl0); rintro v Lo ⟨rfl, hq⟩; rw [hq]; clear hq) | (apply R.callE (Li := LA) (vs := [.pointer (some ⟨br, 0, none⟩), .int .i64 0]); (iterate 3 exact rfl); (focus ((repeat' (exact Ext.here _ _)); done)); intro w1 hw1; exact h2 w1 (oA.chg hw1.chg hbl0); rintro v Lo ⟨rfl, hq⟩; rw [hq]; clear hq) | (apply R.callE (Li := LB) (vs := [.pointer (some ⟨br, 0, none⟩), .int .i64 2]); (iterate 3 exact rfl); (focus ((repeat' (exact Ext.here _ _)); done)); intro w1 hw1; exact h3 w1 (oB.chg hw1.chg hbl0); rintro v Lo ⟨rfl, hq⟩; rw [hq]; clear hq) | (apply R.callE (Li := LD) (vs := [.pointer (some ⟨br, 0, none⟩), .int .i64 1]); (iterate 3 exact rfl); (focus ((repeat' (exact Ext.here _ _)); done)); intro w1 hw1; exact h4 w1 (oD.chg hw1.chg hbl0); rintro v Lo ⟨rfl, hq⟩; rw [hq]; clear hq) | (apply R.callV (vs := [.pointer (some ⟨br, 0, none⟩)]); (iterate 3 exact rfl); intro w1 hw1; (apply hre w1; apply hw1.get; apply Ext.memI9 hm3; (focus ((repeat' (first | exact Ext.here _ _ | apply Ext.cons)); done)))) | apply R.callP rfl rfl rfl hck) | (apply R.pure; exact rfl; first | (apply Ok1.move; exact rfl) | (apply Ok1.load; exact rfl; (apply Ld.ownk; exact rfl; exact rfl; exact At.head; exact rfl)) | (apply Ok1.assign; exact rfl) | (apply Ok1.build; (iterate 5 exact rfl))) | (apply R.alloc; (iterate 3 exact rfl); intro)) | (apply R.is0; (apply R.store; (iterate 6 exact rfl); (focus ((repeat' (first | exact Upd.head | apply Upd.tail | apply Upd.right)); done)); exact rfl)) | apply R.nil | (apply T.is; first | apply T.seq | apply T.region | apply T.skip | apply T.ret | (apply T.cond_t; exact rfl) | (apply T.cond_f; exact rfl)))
      (apply RetOk.ct; exact rfl; ((apply Ld.ownk; exact rfl; exact rfl; (focus ((repeat' (first | exact At.head | apply At.tail | apply At.right)); done)); exact rfl)); exact rfl)
      exact ⟨_, by (focus ((repeat' (first | exact Ext.here _ _ | apply Keep.last | apply Ext.cons)); done)), rfl, rfl⟩
  · rw [if_pos he] at hD
    subst hD
    repeat' (first | (apply R.is1; first | (apply R.isBin; (apply R.pure; exact rfl; (apply Ok1.neq_t; exact rfl; exact rfl; omega))) | (apply R.isCall; first | (apply R.callE (Li := LS) (vs := [.pointer (some ⟨br, 0, none⟩), .int .i64 1]); (iterate 3 exact rfl); (focus ((repeat' (first | exact Ext.all _ | apply Ext.cons | apply Ext.app)); done)); intro w1 hw1; exact h1 w1 (hs.chg hw1.chg hbl0); rintro v Lo ⟨rfl, hq⟩; rw [hq]; clear hq) | (apply R.callE (Li := LA) (vs := [.pointer (some ⟨br, 0, none⟩), .int .i64 0]); (iterate 3 exact rfl); (focus ((repeat' (exact Ext.here _ _)); done)); intro w1 hw1; exact h2 w1 (oA.chg hw1.chg hbl0); rintro v Lo ⟨rfl, hq⟩; rw [hq]; clear hq) | (apply R.callE (Li := LB) (vs := [.pointer (some ⟨br, 0, none⟩), .int .i64 2]); (iterate 3 exact rfl); (focus ((repeat' (exact Ext.here _ _)); done)); intro w1 hw1; exact h3 w1 (oB.chg hw1.chg hbl0); rintro v Lo ⟨rfl, hq⟩; rw [hq]; clear hq) | (apply R.callE (Li := LD) (vs := [.pointer (some ⟨br, 0, none⟩), .int .i64 1]); (iterate 3 exact rfl); (focus ((repeat' (exact Ext.here _ _)); done)); intro w1 hw1; exact h4 w1 (oD.chg hw1.chg hbl0); rintro v Lo ⟨rfl, hq⟩; rw [hq]; clear hq) | (apply R.callV (vs := [.pointer (some ⟨br, 0, none⟩)]); (iterate 3 exact rfl); intro w1 hw1; (apply hre w1; apply hw1.get; apply Ext.memI9 hm3; (focus ((repeat' (first | exact Ext.here _ _ | apply Ext.cons)); done))))) | (apply R.pure; exact rfl; first | (apply Ok1.move; exact rfl) | (apply Ok1.assign; exact rfl) | (apply Ok1.build; (iterate 5 exact rfl))) | (apply R.alloc; (iterate 3 exact rfl); intro)) | (apply R.is0; (apply R.store; (iterate 6 exact rfl); (focus ((repeat' (first | exact Upd.head | apply Upd.tail | apply Upd.right)); done)); exact rfl)) | apply R.nil | (apply T.is; first | apply T.seq | apply T.region | apply T.ret | (apply T.cond_t; exact rfl)))
    all_goals (apply RetOk.ct; exact rfl; ((apply Ld.ownk; exact rfl; exact rfl; (focus ((repeat' (first | exact At.head | apply At.tail | apply At.right)); done)); exact rfl)); exact rfl)
    all_goals exact ⟨_, by (focus ((repeat' (first | exact Ext.here _ _ | apply Keep.last | apply Ext.cons)); done)), rfl, rfl⟩
end Go.Proofs.YtidjnjlejhoalaaGreat
set_option linter.unusedSimpArgs false
set_option linter.unusedVariables false
namespace Go.Proofs.YtidjnjlejhoalaaGreat
open Go.RowKit Go.Shelf
set_option maxRecDepth 100000
section
variable {X : Cx} {σ : Env} {L : Lst} {Rp : Value → Lst → Prop} {a b c' ta tb : Nat} {u v z : Value} {p q : Addr}
end
def NR (a b : Int) : Prop := 1 ≤ a ∧ a ≤ 65535 ∧ 1 ≤ b ∧ b ≤ 2147483647
instance (a b : Int) : Decidable (NR a b) := by unfold NR; infer_instance
theorem nonce_ok (a b : Int) : CallP Tryz.prog 184 [.agg ⟨[.int .i64 a, .int .i64 b]⟩] (.int .i64 (if NR a b then 0 else 10)) := by
  refine enterP (tb := tb) Tryz.func184 rfl Tryz.ntmps184 rfl fun w => ?_
  repeat' (first | (apply R.is1; first | (apply R.isBin; first | (apply R.lss rfl rfl rfl <;> intro) | (apply R.gtr rfl rfl rfl <;> intro)) | (apply R.pure; exact rfl; first | (apply Ok1.move; exact rfl) | (apply Ok1.fieldAddr; (iterate 5 exact rfl)) | (apply Ok1.load; exact rfl; (apply Ld.own1; exact rfl; exact rfl; exact At.head; exact rfl)) | (apply Ok1.assign; exact rfl) | (apply Ok1.pick_t; exact rfl; exact rfl) | (apply Ok1.pick_f; exact rfl; exact rfl)) | (apply R.box; (iterate 3 exact rfl); intro)) | (apply R.isG; first | (apply R.guard_run; exact rfl; exact rfl) | (apply R.guard_not; (iterate 3 exact rfl))) | apply R.nil | (apply T.is; first | apply T.seq | apply T.region | apply T.skip | apply T.ret | (apply T.cond_t; exact rfl) | (apply T.cond_f; exact rfl)))
  all_goals (apply RetOk.t; exact rfl)
  all_goals first
    | (rw [if_pos (by unfold NR; omega)]; done)
    | (rw [if_neg (by unfold NR; omega)]; done)
theorem Rs.num_many {s : Rs} {k : Nat} (he : s.e = 0) (h : k ≤ s.xs.length) (hv : beN (s.xs.take k) ≤ 9223372036854775807) : s.num k = (beN (s.xs.take k), true, s.drop k) := by
  unfold Rs.num
  rw [if_neg (by omega), if_pos hv]
end Go.Proofs.YtidjnjlejhoalaaGreat
set_option linter.unusedSimpArgs false
set_option linter.unusedVariables false
namespace Go.Proofs.YtidjnjlejhoalaaGreat
open Go.RowKit Go.Shelf
set_option maxRecDepth 100000
def ZK (z k : Nat) : Prop := z = 0 ∧ k = 1 ∨ z = 1 ∧ k = 2 ∨ z = 2 ∧ k = 4
end Go.Proofs.YtidjnjlejhoalaaGreat
set_option linter.unusedSimpArgs false
set_option linter.unusedVariables false
namespace Go.Proofs.YtidjnjlejhoalaaGreat
open Go.RowKit Go.Shelf
set_option maxRecDepth 100000
theorem be_numI {z k : Nat} (hz : ZK z k) {v : Int} (h0 : 0 ≤ v) (h1 : k = 1 → v ≤ 255) (h2 : k = 2 → v ≤ 65535) (h4 : v ≤ 4294967295) : beN (numI z v) = v ∧ (numI z v).length = k := by
  rcases hz with ⟨rfl, rfl⟩ | ⟨rfl, rfl⟩ | ⟨rfl, rfl⟩
  · have := h1 rfl
    refine ⟨?_, rfl⟩
    simp only [numI, beN, List.foldl]
    omega
  · have := h2 rfl
    refine ⟨?_, rfl⟩
    simp only [numI, beN, List.foldl]
    omega
  · refine ⟨?_, rfl⟩
    simp only [numI, len4, beN, List.foldl]
    omega
theorem Rs.num_fwd {s : Rs} {z k : Nat} {v : Int} {rest : List Int} (hz : ZK z k) (h0 : 0 ≤ v) (h1 : k = 1 → v ≤ 255) (h2 : k = 2 → v ≤ 65535) (h4 : v ≤ 4294967295) (hs : s.xs = numI z v ++ rest) (he : s.e = 0) :
    (s.num k).1 = v ∧ (s.num k).2.2.xs = rest ∧ (s.num k).2.2.e = 0 := by
  obtain ⟨g1, g2⟩ := be_numI hz h0 h1 h2 h4
  have ht : s.xs.take k = numI z v := by rw [hs, ← g2, List.take_left]
  have hd : s.xs.drop k = rest := by rw [hs, ← g2, List.drop_left]
  have hl : k ≤ s.xs.length := by rw [hs, List.length_append, g2]; omega
  rw [Rs.num_many he hl (by rw [ht, g1]; omega), ht, g1]
  exact ⟨rfl, hd, he⟩
theorem Rs.c4_fwd {s : Rs} {c : Cl} {rest : List Int} (hr : c.right) (hs : s.xs = clI c ++ rest) (he : s.e = 0) : s.cv = c ∧ s.c4.xs = rest ∧ s.c4.e = 0 := by
  unfold Cl.right at hr
  simp only [clI, List.nil_append, List.append_assoc] at hs
  obtain ⟨a1, a2, a3⟩ := Rs.num_fwd (z := 1) (k := 2) (.inr (.inl ⟨rfl, rfl⟩)) (by omega) (by omega) (by omega) (by omega) hs he
  obtain ⟨b1, b2, b3⟩ := Rs.num_fwd (s := s.cA) (z := 0) (k := 1) (.inl ⟨rfl, rfl⟩) (by omega) (by omega) (by omega) (by omega) a2 a3
  obtain ⟨c1, c2, c3⟩ := Rs.num_fwd (s := s.cB) (z := 2) (k := 4) (.inr (.inr ⟨rfl, rfl⟩)) (by omega) (by omega) (by omega) (by omega) b2 b3
  obtain ⟨d1, d2, d3⟩ := Rs.num_fwd (s := s.cD) (z := 1) (k := 2) (.inr (.inl ⟨rfl, rfl⟩)) (by omega) (by omega) (by omega) (by omega) c2 c3
  refine ⟨?_, d2, d3⟩
  simp only [Rs.cv, a1, b1, c1, d1]
theorem rdC_fwd {s : Rs} {c : Cl} {rest : List Int} (hr : c.right) (hs : s.xs = clI c ++ rest) (he : s.e = 0) : rdC s = (c, 0) := by
  obtain ⟨h1, h2, h3⟩ := Rs.c4_fwd hr hs he
  unfold rdC
  rw [if_neg (fun h => h h3), h1, if_pos hr]
end Go.Proofs.YtidjnjlejhoalaaGreat
set_option linter.unusedSimpArgs false
set_option linter.unusedVariables false
namespace Go.Proofs.YtidjnjlejhoalaaGreat
open Go.RowKit Go.Shelf
section
variable {X : Cx} {σ : Env} {L L' : Lst} {dd : Nat} {ty : TypeId} {pos : String} {af : Array Edge} {x y : Operand} {t t2 e : TypeId} {r r2 re : TRow}
variable {all : Array Oper} {rest : List Oper} {K : Env → Lst → Prop} {p : Option Addr} {n m cap b o : Nat}
theorem copy_runO {α : Type} {v : α → List Value} {xs : List α} {P : Program} (tb : Tb P) (ht : tb.row t = some r) (hk : r.k = .slice e) (he : tb.row e = some re) (hs : re.size = 1) (hv : ∀ a, (v a).length = 1) {w : World} {dn dcap : Nat} {cs cs' : List Value} {te : TypeId}
    (hp : RdSl w p v xs) (h1 : (fl v xs).all Value.oneCell' = true) (hb : w.heap[b]? = some (.cells ⟨cs⟩ te (0, 0))) (hc : setE cs o (fl v (xs.take dn)) = some cs') :
    ∃ w', (Builtin.copy_ #[t, t2] ty #[.slice (some ⟨b, o, none⟩) dn dcap, .slice p xs.length cap]).run P w = .ok (.int .i64 (min xs.length dn : Nat)) w' ∧ w'.heap[b]? = some (.cells ⟨cs'⟩ te (0, 0)) ∧ Chg [b] w w' := by
  have hu : P.underlying t = some (.slice e) := by have := (tb.get ht).is; rw [hk] at this; exact this
  have hone : (fl v (xs.take dn)).all Value.oneCell' = true := by
    rw [List.all_eq_true] at h1 ⊢
    intro z hz
    rw [← fl_takeG hv] at hz
    exact h1 z (List.mem_of_mem_take hz)
  obtain ⟨w', g1, g2, g3⟩ := run_stores P ⟨b, o, none⟩ rfl te (fl v (xs.take dn)) 0 w cs cs' hone hb hc
  have hf : (Builtin.firstCells 1 (min xs.length dn) (.slice p xs.length cap)).run P w = .ok ⟨fl v (xs.take dn)⟩ w := by
    by_cases hx : xs.take dn = []
    · have h9 : (xs.take dn).length = 0 := by rw [hx]; rfl
      have h0 : min xs.length dn = 0 := by
        rw [List.length_take] at h9
        omega
      rw [hx, h0]
      cases p <;> simp [Builtin.firstCells, loadCells, loadCellsFrom, fl]
    · refine first_run ((hp.pre hv dn).holds hx) ?_
      rw [fl_len hv, List.length_take, Nat.min_comm]
  refine ⟨w', ?_, g2, g3⟩
  unfold Builtin.copy_
  simp only [List.getElem?_toArray, List.getElem?_cons_zero, List.getElem?_cons_succ, Sem.run_bind, run_underlying hu, Result.andThen_ok, (tb.get he).size, hs, Sem.run_pure, Builtin.lenOf, show Nat.min xs.length dn = min xs.length dn from rfl, hf, g1, goInt]
theorem R.copyOff {α : Type} {v : α → List Value} {xs : List α} {dn dcap : Nat} {cs cs' : List Value} {te : TypeId} {k : Nat} (hn : Nat.blt dd X.n = true) (ht : X.tb.row t = some r) (hk : r.k = .slice e) (he : X.tb.row e = some re) (hs : re.size = 1)
    (hx : ev σ x = some (.slice (some ⟨b, o, none⟩) dn dcap)) (hy : ev σ y = some (.slice p m cap)) (hm : m = xs.length) (hv : ∀ a, (v a).length = 1) (hh : ∀ w, Hp X.w0 X.S L w → RdSl w p v xs) (h1 : (fl v xs).all Value.oneCell' = true)
    (hu : Upd L b (.cells ⟨cs⟩ te (0, 0)) (.cells ⟨cs'⟩ te (0, 0)) L') (hc : setE cs o (fl v (xs.take dn)) = some cs') (hmin : min m dn = k) (h : R X all rest K ((dd, .int .i64 (k : Nat)) :: σ) L') :
    R X all (⟨some dd, .call { callee := .builtin .copy, args := #[x, y], argTypes := #[t, t2] }, ty, pos, af, none⟩ :: rest) K σ L :=
  R.value rfl rfl hn fun a w ha hw => by
    subst hm
    subst hmin
    obtain ⟨w', g1, g2, g3⟩ := copy_runO (ty := ty) (t2 := t2) (dcap := dcap) (cap := cap) X.tb ht hk he hs hv (hh w hw) h1 (hw.get _ _ hu.mem) hc
    refine ⟨_, w', L', ?_, hw.upd hu g3 g2, h⟩
    simp [execOp, resolve, ha.ev hx, ha.ev hy, invoke, builtin, g1]
/-- All of what is read is copied. -/
theorem R.copyAll {α : Type} {v : α → List Value} {xs : List α} {dn dcap o' : Nat} {cs cs' : List Value} {te : TypeId} (hn : Nat.blt dd X.n = true) (ht : X.tb.row t = some r) (hk : r.k = .slice e) (he : X.tb.row e = some re) (hs : re.size = 1)
    (hx : ev σ x = some (.slice (some ⟨b, o, none⟩) dn dcap)) (hy : ev σ y = some (.slice p m cap)) (hm : m = xs.length) (hv : ∀ a, (v a).length = 1) (hh : ∀ w, Hp X.w0 X.S L w → RdSl w p v xs) (h1 : (fl v xs).all Value.oneCell' = true)
    (hdn : xs.length ≤ dn) (ho : o = o') (hu : Upd L b (.cells ⟨cs⟩ te (0, 0)) (.cells ⟨cs'⟩ te (0, 0)) L') (hc : setE cs o' (fl v xs) = some cs') (h : R X all rest K ((dd, .int .i64 (m : Nat)) :: σ) L') :
    R X all (⟨some dd, .call { callee := .builtin .copy, args := #[x, y], argTypes := #[t, t2] }, ty, pos, af, none⟩ :: rest) K σ L :=
  R.copyOff hn ht hk he hs hx hy hm hv hh h1 hu (by rw [List.take_of_length_le hdn, ho]; exact hc) (Nat.min_eq_left (by omega)) h
theorem setE_off (pre vs cs : List Value) (h : vs.length ≤ cs.length) : setE (pre ++ cs) pre.length vs = some (pre ++ (vs ++ cs.drop vs.length)) := by
  rw [setE_mid _ h, List.append_assoc]
/-- What bytealg.MakeNoZero does: a new row of some bytes. -/
def NoZero (P : Program) (f : FuncId) (e : TypeId) : Prop := ∀ (n : Nat) (w : World), n ≤ 1000000000 → ∃ cs : List Value, (callFunc f #[.int .i64 n]).run P w = .ok (.value (.slice (some ⟨w.heap.size, 0, none⟩) n cs.length)) (w.drew.drew.alloc (.cells ⟨cs⟩ e)) ∧ n ≤ cs.length
theorem NoZero.of {P : Program} {f : FuncId} {fn : Func} {ps : Array TypeId} {t e : TypeId} (hf : P.funcs[f]? = some fn) (hname : (fn.name == "runtime.NumGoroutine") = false) (hb : fn.body.isNone = true) (hn : Extern.findNext fn = none) (he : Extern.find fn = some (Extern.BytealgMakeNoZero.makeNoZero ps #[t])) (ht : P.underlying t = some (.slice e)) : NoZero P f e := by
  intro n w hn9
  obtain ⟨cs, h1, h2, _⟩ := Lib.run_makeNoZero (P := P) w ps t e ht n (by omega)
  refine ⟨cs.toList, ?_, by simpa using h2⟩
  rw [run_callFunc_extern hf hname hb hn he, h1]
  simp
theorem R.noZero {f : FuncId} {xs : List Operand} {ats : Array TypeId} (hz : NoZero X.P f e) (hx : evs σ xs = some [.int .i64 (n : Nat)]) (hl : n ≤ 1000000000) (hn : Nat.blt dd X.n = true)
    (h : ∀ b cs, n ≤ cs.length → R X all rest K ((dd, .slice (some ⟨b, 0, none⟩) n cs.length) :: σ) ((b, .cells ⟨cs⟩ e (0, 0)) :: L)) :
    R X all (⟨some dd, .call { callee := .value (.func f), args := xs.toArray, argTypes := ats }, ty, pos, af, none⟩ :: rest) K σ L :=
  R.value rfl rfl hn fun a w ha hw => by
    obtain ⟨cs, h1, h2⟩ := hz n w hl
    have hw2 : Hp X.w0 X.S L w.drew.drew := (hw.step (Chg.drew [] w)).step (Chg.drew [] w.drew)
    have hs : w.drew.drew.heap.size = w.heap.size := rfl
    refine ⟨_, _, _, ?_, hw2.alloc (.cells ⟨cs⟩ e (0, 0)), h _ cs h2⟩
    have hargs : xs.map a.eval = [.int .i64 (n : Nat)] := evs_map ha hx
    simp only [execOp, resolve, Act.eval, List.map_toArray, hargs, Deferred.ofValue, Sem.run_bind, Sem.run_pure, Result.andThen_ok, invoke, hs]
    simpa using h1
end
end Go.Proofs.YtidjnjlejhoalaaGreat
set_option linter.unusedSimpArgs false
set_option linter.unusedVariables false
namespace Go.Proofs.YtidjnjlejhoalaaGreat
open Go.RowKit Go.Shelf
set_option maxRecDepth 100000
theorem nozero_ok : NoZero Tryz.prog 305 5 := NoZero.of (ps := #[3]) (t := 22) Tryz.func305 (by kernel_rfl) (by kernel_rfl) (by kernel_rfl) (by kernel_rfl) (by have := (tb.get (t := 22) rfl).is; exact this)
theorem setE_nilO (cs : List Value) (o : Nat) : setE cs o [] = some cs := by simp [setE]
end Go.Proofs.YtidjnjlejhoalaaGreat
set_option linter.unusedSimpArgs false
set_option linter.unusedVariables false
namespace Go.Proofs.YtidjnjlejhoalaaGreat
open Go.RowKit Go.Shelf
set_option maxRecDepth 100000
def nbI (a b : Int) : List Int := ([] ++ numI 1 a) ++ numI 2 b
theorem wnbytes_ok (a b : Int) (hr : NR a b) (w : World) : CallM Tryz.prog 92 [.agg ⟨[.int .i64 a, .int .i64 b]⟩] [] w fun v L => ∃ ov, OvOk 1 ov 6 (u8s (nbI a b)) ∧ v = .tuple #[slV ov 6, .int .i64 0] ∧ L = blkL 5 ov (u8s (nbI a b)) := by
  have hck := nonce_ok a b
  rw [if_pos hr] at hck
  have hf1 : Fits 1 a := by unfold NR at hr; unfold Fits; omega
  have hf2 : Fits 2 b := by unfold NR at hr; unfold Fits; omega
  refine enterK (tb := tb) Tryz.func92 rfl Tryz.ntmps92 rfl ?_
  repeat' (first | (apply R.is1; first | (apply R.isBin; (apply R.pure; exact rfl; (apply Ok1.neq_f; exact rfl; exact rfl; omega))) | (apply R.isCall; apply R.callP rfl rfl rfl hck) | (apply R.pure; exact rfl; first | (apply Ok1.move; exact rfl) | (apply Ok1.load; exact rfl; (apply Ld.ownk; exact rfl; exact rfl; exact At.head; exact rfl)) | (apply Ok1.assign; exact rfl)) | (apply R.box; (iterate 3 exact rfl); intro) | (apply R.alloc; (iterate 3 exact rfl); intro)) | apply R.nil | (apply T.is; first | apply T.seq | apply T.region | apply T.skip | (apply T.cond_f; exact rfl)))
  rename_i bc bw
  obtain ⟨B0, hB0⟩ : ∃ B : List Int, B = [] := ⟨_, rfl⟩
  obtain ⟨B1, hB1⟩ : ∃ B, B = B0 ++ numI 1 a := ⟨_, rfl⟩
  obtain ⟨B2, hB2⟩ : ∃ B, B = B1 ++ numI 2 b := ⟨_, rfl⟩
  have hl0 : B0.length ≤ 1000 := by rw [hB0]; decide
  have hl1 : B1.length ≤ 1000 := by rw [hB1, hB0]; exact Nat.le_of_ble_eq_true rfl
  have hB : B2 = nbI a b := by rw [hB2, hB1, hB0]; rfl
  have hBl : B2.length = 6 := by rw [hB]; rfl
  have hw0 : OvOk 1 none B0.length (u8s B0) := by rw [hB0]; exact OvOk.start 1
  apply T.drawC (id := 5) [1] (by decide)
  (apply A.take 0; exact rfl; exact rfl; kernel_rfl; kernel_rfl; kernel_rfl; (apply Ok1.fieldAddr; (iterate 5 exact rfl))) <;> (apply A.take 1; exact rfl; exact rfl; kernel_rfl; kernel_rfl; kernel_rfl; (apply Ok1.load; exact rfl; (apply Ld.own1; exact rfl; exact rfl; exact At.head; exact rfl))) <;> (apply A.take 4; exact rfl; exact rfl; kernel_rfl; kernel_rfl; kernel_rfl; (apply Ok1.fieldAddr; (iterate 5 exact rfl))) <;> (apply A.take 5; exact rfl; exact rfl; kernel_rfl; kernel_rfl; kernel_rfl; (apply Ok1.load; exact rfl; (apply Ld.own1; exact rfl; exact rfl; exact At.head; exact rfl)))
  refine A.merge (fun σ L => ∃ (ov : Ov), OvOk 1 ov B2.length (u8s B2) ∧ Sub [(5, .pointer (some ⟨bw, 0, none⟩)), (12, .int .i64 a), (16, .int .i64 b), (18, .pointer (some ⟨bw, 0, none⟩))] σ ∧ Keep L (WL bw ov B2 ++ [(bc, .cells ⟨[.int .i64 a, .int .i64 b]⟩ 38 (0, 0))])) 5 #[true, true, true, true, true, true, true, true, false, false, false, false, false] ?_ ?_
  rotate_left 1
  focus
    intro H2_
    refine A.merge (fun σ L => ∃ (ov : Ov) (b1 : Nat), OvOk 1 ov B1.length (u8s B1) ∧ Sub [(5, .pointer (some ⟨bw, 0, none⟩)), (12, .int .i64 a), (16, .int .i64 b), (14, .pointer (some ⟨bw, 0, none⟩)), (17, .slice (some ⟨b1, 0, none⟩) 1 1)] σ ∧ Keep L (WL bw ov B1 ++ [(bc, .cells ⟨[.int .i64 a, .int .i64 b]⟩ 38 (0, 0)), (b1, .cells ⟨[.int .i64 b]⟩ 3 (0, 0))])) 6 #[true, true, true, true, true, true, true, false, false, false, false, false, false] ?_ ?_
    · rintro σ L ⟨ov, b1, hov, hs, hk⟩
      refine A.weak ?_ hs hk
      refine A.multi [7] (by kernel_rfl) (by decide) ⟨⟨_, rfl, ?_⟩, trivial⟩
      · (apply R.callE (Li := WL bw ov B1); (iterate 3 exact rfl); (focus ((repeat' (exact Ext.here _ _)); done)); intro w1 hw1; have h9 := number1_ok bw ov B1 hov 2 b hf2 hl1 b1 _ _ w1 (hw1.get _ _ (At.mem (by (focus ((repeat' (first | exact At.head | apply At.tail | apply At.right)); done))))) (RdSl.off hw1 (by (focus ((repeat' (exact Ext.here _ _)); done))) (At.mem (by (focus ((repeat' (first | exact At.head | apply At.tail)); done))))); rw [← hB2] at h9; exact h9; rintro v Lo ⟨ov1, rfl, hov1, rfl⟩); apply R.nil; refine ⟨(by (focus ((repeat' (first | exact trivial | (refine ⟨?_, ?_⟩; (focus ((repeat' (first | exact At.head | apply At.tail | apply At.right)); done)))))))), A.cast (by kernel_rfl) (H2_ _ _ ⟨ov1, hov1, ⟨rfl, rfl, rfl, rfl, trivial⟩, (by (focus ((repeat' (first | exact Keep.nil _ | exact Ext.one _ _ | exact Ext.here _ _ | apply Keep.cons | apply Keep.app)); done)))⟩)⟩
    intro H1_1
    refine A.merge (fun σ L => ∃ (ov : Ov), OvOk 1 ov B1.length (u8s B1) ∧ Sub [(5, .pointer (some ⟨bw, 0, none⟩)), (12, .int .i64 a), (16, .int .i64 b), (14, .pointer (some ⟨bw, 0, none⟩))] σ ∧ Keep L (WL bw ov B1 ++ [(bc, .cells ⟨[.int .i64 a, .int .i64 b]⟩ 38 (0, 0))])) 7 #[true, true, true, true, true, true, false, false, false, false, false, false, false] ?_ ?_
    · rintro σ L ⟨ov, hov, hs, hk⟩
      refine A.weak ?_ hs hk
      refine A.multi [6] (by kernel_rfl) (by decide) ⟨⟨_, rfl, ?_⟩, trivial⟩
      · (((apply R.buildSlice; (iterate 12 exact rfl); intro))); rename_i b1; apply R.nil; refine ⟨(by (focus ((repeat' (first | exact trivial | (refine ⟨?_, ?_⟩; (focus ((repeat' (first | exact At.head | apply At.tail | apply At.right)); done)))))))), A.cast (by kernel_rfl) (H1_1 _ _ ⟨ov, b1, hov, ⟨rfl, rfl, rfl, rfl, rfl, trivial⟩, (by (focus ((repeat' (first | exact Keep.nil _ | exact Ext.one _ _ | exact Ext.here _ _ | apply Keep.cons | apply Keep.app | apply Ext.cons)); done)))⟩)⟩
    intro H1_
    refine A.merge (fun σ L => ∃ (ov : Ov) (b0 : Nat) (b1 : Nat), OvOk 1 ov B0.length (u8s B0) ∧ Sub [(5, .pointer (some ⟨bw, 0, none⟩)), (12, .int .i64 a), (16, .int .i64 b), (13, .slice (some ⟨b0, 0, none⟩) 1 1), (17, .slice (some ⟨b1, 0, none⟩) 1 1)] σ ∧ Keep L (WL bw ov B0 ++ [(bc, .cells ⟨[.int .i64 a, .int .i64 b]⟩ 38 (0, 0)), (b0, .cells ⟨[.int .i64 a]⟩ 3 (0, 0)), (b1, .cells ⟨[.int .i64 b]⟩ 3 (0, 0))])) 7 #[true, true, true, false, true, true, true, false, false, false, false, false, false] ?_ ?_
    · rintro σ L ⟨ov, b0, b1, hov, hs, hk⟩
      refine A.weak ?_ hs hk
      refine A.multi [3] (by kernel_rfl) (by decide) ⟨⟨_, rfl, ?_⟩, trivial⟩
      · (apply R.callE (Li := WL bw ov B0); (iterate 3 exact rfl); (focus ((repeat' (exact Ext.here _ _)); done)); intro w1 hw1; have h9 := number1_ok bw ov B0 hov 1 a hf1 hl0 b0 _ _ w1 (hw1.get _ _ (At.mem (by (focus ((repeat' (first | exact At.head | apply At.tail | apply At.right)); done))))) (RdSl.off hw1 (by (focus ((repeat' (exact Ext.here _ _)); done))) (At.mem (by (focus ((repeat' (first | exact At.head | apply At.tail)); done))))); rw [← hB1] at h9; exact h9; rintro v Lo ⟨ov1, rfl, hov1, rfl⟩); apply R.nil; refine ⟨(by (focus ((repeat' (first | exact trivial | (refine ⟨?_, ?_⟩; (focus ((repeat' (first | exact At.head | apply At.tail | apply At.right)); done)))))))), A.cast (by kernel_rfl) (H1_1 _ _ ⟨ov1, b1, hov1, ⟨rfl, rfl, rfl, rfl, rfl, trivial⟩, (by (focus ((repeat' (first | exact Keep.nil _ | exact Ext.one _ _ | exact Ext.here _ _ | apply Keep.cons | apply Keep.app | apply Ext.cons)); done)))⟩)⟩
    intro H0_01
    refine A.merge (fun σ L => ∃ (ov : Ov) (b0 : Nat), OvOk 1 ov B0.length (u8s B0) ∧ Sub [(5, .pointer (some ⟨bw, 0, none⟩)), (12, .int .i64 a), (16, .int .i64 b), (13, .slice (some ⟨b0, 0, none⟩) 1 1)] σ ∧ Keep L (WL bw ov B0 ++ [(bc, .cells ⟨[.int .i64 a, .int .i64 b]⟩ 38 (0, 0)), (b0, .cells ⟨[.int .i64 a]⟩ 3 (0, 0))])) 8 #[true, true, true, false, true, true, false, false, false, false, false, false, false] ?_ ?_
    · rintro σ L ⟨ov, b0, hov, hs, hk⟩
      refine A.weak ?_ hs hk
      refine A.multi [3, 6] (by kernel_rfl) (by decide) ⟨⟨_, rfl, ?_⟩, ⟨_, rfl, ?_⟩, trivial⟩
      · (apply R.callE (Li := WL bw ov B0); (iterate 3 exact rfl); (focus ((repeat' (exact Ext.here _ _)); done)); intro w1 hw1; have h9 := number1_ok bw ov B0 hov 1 a hf1 hl0 b0 _ _ w1 (hw1.get _ _ (At.mem (by (focus ((repeat' (first | exact At.head | apply At.tail | apply At.right)); done))))) (RdSl.off hw1 (by (focus ((repeat' (exact Ext.here _ _)); done))) (At.mem (by (focus ((repeat' (first | exact At.head | apply At.tail)); done))))); rw [← hB1] at h9; exact h9; rintro v Lo ⟨ov1, rfl, hov1, rfl⟩); apply R.nil; refine ⟨(by (focus ((repeat' (first | exact trivial | (refine ⟨?_, ?_⟩; (focus ((repeat' (first | exact At.head | apply At.tail | apply At.right)); done)))))))), A.cast (by kernel_rfl) (H1_ _ _ ⟨ov1, hov1, ⟨rfl, rfl, rfl, rfl, trivial⟩, (by (focus ((repeat' (first | exact Keep.nil _ | exact Ext.one _ _ | exact Ext.here _ _ | apply Keep.cons | apply Keep.app)); done)))⟩)⟩
      · (((apply R.buildSlice; (iterate 12 exact rfl); intro))); rename_i b1; apply R.nil; refine ⟨(by (focus ((repeat' (first | exact trivial | (refine ⟨?_, ?_⟩; (focus ((repeat' (first | exact At.head | apply At.tail | apply At.right)); done)))))))), A.cast (by kernel_rfl) (H0_01 _ _ ⟨ov, b0, b1, hov, ⟨rfl, rfl, rfl, rfl, rfl, trivial⟩, (by (focus ((repeat' (first | exact Keep.nil _ | exact Ext.one _ _ | exact Ext.here _ _ | apply Keep.cons | apply Keep.app | apply Ext.cons)); done)))⟩)⟩
    intro H0_0
    refine A.merge (fun σ L => ∃ (ov : Ov) (b1 : Nat), OvOk 1 ov B0.length (u8s B0) ∧ Sub [(5, .pointer (some ⟨bw, 0, none⟩)), (12, .int .i64 a), (16, .int .i64 b), (17, .slice (some ⟨b1, 0, none⟩) 1 1)] σ ∧ Keep L (WL bw ov B0 ++ [(bc, .cells ⟨[.int .i64 a, .int .i64 b]⟩ 38 (0, 0)), (b1, .cells ⟨[.int .i64 b]⟩ 3 (0, 0))])) 8 #[true, true, false, false, true, true, true, false, false, false, false, false, false] ?_ ?_
    · rintro σ L ⟨ov, b1, hov, hs, hk⟩
      refine A.weak ?_ hs hk
      refine A.multi [2] (by kernel_rfl) (by decide) ⟨⟨_, rfl, ?_⟩, trivial⟩
      · (((apply R.buildSlice; (iterate 12 exact rfl); intro))); rename_i b0; apply R.nil; refine ⟨(by (focus ((repeat' (first | exact trivial | (refine ⟨?_, ?_⟩; (focus ((repeat' (first | exact At.head | apply At.tail | apply At.right)); done)))))))), A.cast (by kernel_rfl) (H0_01 _ _ ⟨ov, b0, b1, hov, ⟨rfl, rfl, rfl, rfl, rfl, trivial⟩, (by (focus ((repeat' (first | exact Keep.nil _ | exact Ext.one _ _ | exact Ext.here _ _ | apply Keep.cons | apply Keep.app | apply Ext.cons)); done)))⟩)⟩
    intro H0_1
    refine A.merge (fun σ L => ∃ (ov : Ov), OvOk 1 ov B0.length (u8s B0) ∧ Sub [(5, .pointer (some ⟨bw, 0, none⟩)), (12, .int .i64 a), (16, .int .i64 b)] σ ∧ Keep L (WL bw ov B0 ++ [(bc, .cells ⟨[.int .i64 a, .int .i64 b]⟩ 38 (0, 0))])) 9 #[true, true, false, false, true, true, false, false, false, false, false, false, false] ?_ ?_
    · rintro σ L ⟨ov, hov, hs, hk⟩
      refine A.weak ?_ hs hk
      refine A.multi [2, 6] (by kernel_rfl) (by decide) ⟨⟨_, rfl, ?_⟩, ⟨_, rfl, ?_⟩, trivial⟩
      · (((apply R.buildSlice; (iterate 12 exact rfl); intro))); rename_i b0; apply R.nil; refine ⟨(by (focus ((repeat' (first | exact trivial | (refine ⟨?_, ?_⟩; (focus ((repeat' (first | exact At.head | apply At.tail | apply At.right)); done)))))))), A.cast (by kernel_rfl) (H0_0 _ _ ⟨ov, b0, hov, ⟨rfl, rfl, rfl, rfl, trivial⟩, (by (focus ((repeat' (first | exact Keep.nil _ | exact Ext.one _ _ | exact Ext.here _ _ | apply Keep.cons | apply Keep.app | apply Ext.cons)); done)))⟩)⟩
      · (((apply R.buildSlice; (iterate 12 exact rfl); intro))); rename_i b1; apply R.nil; refine ⟨(by (focus ((repeat' (first | exact trivial | (refine ⟨?_, ?_⟩; (focus ((repeat' (first | exact At.head | apply At.tail | apply At.right)); done)))))))), A.cast (by kernel_rfl) (H0_1 _ _ ⟨ov, b1, hov, ⟨rfl, rfl, rfl, rfl, trivial⟩, (by (focus ((repeat' (first | exact Keep.nil _ | exact Ext.one _ _ | exact Ext.here _ _ | apply Keep.cons | apply Keep.app | apply Ext.cons)); done)))⟩)⟩
    intro H0_
    exact A.cast (by kernel_rfl) (H0_ _ _ ⟨none, hw0, ⟨rfl, rfl, rfl, trivial⟩, (by (focus ((repeat' (first | exact Keep.nil _ | exact Ext.one _ _ | apply Keep.cons)); done)))⟩)
  rintro σ L ⟨ov, hov, hs, hk⟩
  refine A.weak ?_ hs hk
  clear hs hk
  (apply A.one 8; kernel_rfl; exact rfl; (((simp only [WL, List.cons_append]; apply R.callE; (iterate 3 exact rfl); exact Ext.none _; intro w1 hw1; exact wout_ok bw ov B2 hov (by rw [hBl]; decide) w1 (hw1.get _ _ (At.mem (by exact At.head))) (rdown hov hw1 (Ext.mem (by (focus ((repeat' (first | exact Ext.here _ _ | apply Ext.cons)); done))))); rintro v Lo ⟨ov9, hov9, rfl, rfl⟩))); apply R.nil; refine ⟨?_, ?_⟩; (focus ((repeat' (first | exact trivial | (refine ⟨?_, ?_⟩; (focus ((repeat' (first | exact At.head | apply At.tail | apply At.right)); done)))))))) <;> (apply A.take 9; exact rfl; exact rfl; kernel_rfl; kernel_rfl; kernel_rfl; (apply Ok1.extract; exact rfl; exact rfl)) <;> (apply A.take 10; exact rfl; exact rfl; kernel_rfl; kernel_rfl; kernel_rfl; (apply Ok1.extract; exact rfl; exact rfl)) <;> (apply A.take 11; exact rfl; exact rfl; kernel_rfl; kernel_rfl; kernel_rfl; (apply Ok1.assign; exact rfl)) <;> (apply A.take 12; exact rfl; exact rfl; kernel_rfl; kernel_rfl; kernel_rfl; (apply Ok1.assign; exact rfl)) <;> (apply A.done; kernel_rfl)
  rw [hBl] at hov9
  repeat' ((apply T.is; apply T.ret))
  (apply RetOk.tt; exact rfl; exact rfl)
  refine ⟨_, ?_, ov9, hB ▸ hov9, by rw [hBl], rfl⟩
  rw [← hB]
  (focus ((repeat' (first | exact Ext.here _ _ | apply Keep.last)); done))
end Go.Proofs.YtidjnjlejhoalaaGreat
set_option linter.unusedSimpArgs false
set_option linter.unusedVariables false
namespace Go.Proofs.YtidjnjlejhoalaaGreat
open Go.RowKit Go.Shelf
set_option maxRecDepth 100000
def sSend : ByteArray := ⟨#[115, 101, 110, 100, 101, 114]⟩
def twoB (n : Int) : List Int := [n / 256 % 256, n % 256]
def lastI (sz : Nat) (n : Int) : List Int := (twoB n).drop (2 - sz)
def senderI (k : List Int) (v : Int) : List Int := deriveI k sSend [lastI 2 v]
theorem two_byt (n : Int) : Byt (twoB n) := by
  intro x hx
  simp only [twoB, List.mem_cons, List.not_mem_nil, or_false] at hx
  omega
theorem last_byt (sz : Nat) (n : Int) : Byt (lastI sz n) := Byt.drop (two_byt n) _
theorem derived_ok (bk : Nat) (k : List Int) (hkl : k.length ≤ 999999000) (hkb : Byt k) (lab : ByteArray) (hlab : lab.size ≤ 1000) (n a b : Int) (s : Nat) (h1 : a ≤ n) (h2 : n ≤ b) (hs : s ≤ 2) (w : World) (hk : KeyR w bk k) :
    CallM Tryz.prog 240 [.pointer (some ⟨bk, 0, none⟩), .string lab, .int .i64 n, .int .i64 a, .int .i64 b, .int .i64 s] [] w fun v L => ∃ bk' ov, v = .tuple #[.pointer (some ⟨bk', 0, none⟩), .int .i64 0] ∧ OvOk 1 ov 32 (u8s (deriveI k lab [lastI s n])) ∧ L = KL bk' ov (deriveI k lab [lastI s n]) := by
  have hll : (lastI s n).length = s := by simp [lastI, twoB]; omega
  have hfl : (frameI [strI lab, lastI s n]).length ≤ 999998000 := by
    have h3 : (strI lab).length = lab.size := by simp [strI]
    simp only [frameI, List.flatMap_cons, List.flatMap_nil, List.append_nil, List.length_append, hll, h3]
    simp only [len4, List.length_cons, List.length_nil]
    omega
  refine enterK (tb := tb) Tryz.func240 rfl Tryz.ntmps240 rfl ?_
  have hsub : (2 : Int) - (s : Int) = ((2 - s : Nat) : Int) := by omega
  have hsuf := fun p (w1 : World) (h : RdSl w1 p u8V (twoB n)) => RdSl.suf u8V_len h (cap := 2) (i := 2 - s) (by simp [twoB]) (by simp [twoB])
  have hl0 : (twoB n).length = 2 := rfl
  have hcells : u8s (twoB n) = [.int .u8 (IntKind.u8.wrap (n / 256)), .int .u8 (IntKind.u8.wrap n)] := by simp only [u8_mod]; rfl
  have hss : 2 - (2 - s) = s := by omega
  repeat' (first | (apply R.is1; first | (apply R.isBin; (apply R.pure; exact rfl; first | (apply Ok1.sub64; exact rfl; exact rfl; omega; omega) | (apply Ok1.lss_f; exact rfl; exact rfl; omega) | (apply Ok1.gtr_f; exact rfl; exact rfl; omega) | (apply Ok1.shr; exact rfl; exact rfl; omega; exact Nat.le_of_ble_eq_true rfl; (exact pwE8)) | (apply Ok1.eqlP; (iterate 5 exact rfl)))) | (apply R.isCall; (apply R.callE; (iterate 3 exact rfl); exact Ext.none _; intro w1 hw1; exact derive_ok bk k hkl hkb lab (by omega) _ 1 1 [⟨_, 2 - (2 - s), lastI s n⟩] rfl (by decide) (by intro x hx; cases List.mem_singleton.1 hx; exact last_byt _ _) hfl (by intro x hx; cases List.mem_singleton.1 hx; rw [hll]; omega) w1 (hk.chg hw1.chg) (RdSl.of (junk := []) hw1 (by exact At.head) (by simp only [fl, Pt.v, List.map_cons, List.map_nil, List.flatten_cons, List.flatten_nil, List.append_nil]; rw [hll, hss])) (by intro x hx; cases List.mem_singleton.1 hx; exact hsuf _ _ (RdSl.of (junk := []) hw1 (by (focus ((repeat' (first | exact At.head | apply At.tail)); done))) (by rw [fl_u8, hcells]; rfl))); rw [List.map_cons, List.map_nil]; rintro v Lo ⟨bk2, ov2, rfl, hov2, rfl⟩)) | (apply R.pure; exact rfl; first | (apply Ok1.sufR (i := 2 - s) (sz := 1); (iterate 5 exact rfl); exact congrArg (fun z => some (Value.int .i64 z)) hsub; omega; omega) | (apply Ok1.move; exact rfl) | (apply Ok1.assign; exact rfl) | (apply Ok1.pick_f; exact rfl; exact rfl) | (apply Ok1.conv; (iterate 5 exact rfl))) | (apply R.buildSlice; (iterate 12 exact rfl); intro)) | (apply R.isG; (apply R.guard_run; exact rfl; exact rfl)) | apply R.nil | (apply T.is; first | apply T.seq | apply T.region | apply T.block | apply T.skip | apply T.ret | (apply T.cond_f; exact rfl)))
  all_goals (apply RetOk.tt; exact rfl; exact rfl)
  all_goals refine ⟨_, ?_, bk2, ov2, rfl, hov2, rfl⟩
  all_goals (focus ((repeat' (first | exact Ext.one _ _ | exact Ext.here _ _ | apply Keep.cons | apply Keep.last)); done))
theorem sender_ok (bk : Nat) (k : List Int) (hkl : k.length ≤ 999999000) (hkb : Byt k) (n : Int) (h1 : 1 ≤ n) (h2 : n ≤ 65535) (w : World) (hk : KeyR w bk k) :
    CallM Tryz.prog 168 [.pointer (some ⟨bk, 0, none⟩), .int .i64 n] [] w fun v L => ∃ bk' ov, v = .tuple #[.pointer (some ⟨bk', 0, none⟩), .int .i64 0] ∧ OvOk 1 ov 32 (u8s (senderI k n)) ∧ L = KL bk' ov (senderI k n) := by
  refine enterK (tb := tb) Tryz.func168 rfl Tryz.ntmps168 rfl ?_
  repeat' (first | (apply R.is1; first | (apply R.isCall; (apply R.callE; (iterate 3 exact rfl); exact Ext.none _; intro w1 hw1; exact derived_ok bk k hkl hkb sSend (by decide) n 1 65535 2 h1 h2 (by decide) w1 (hk.chg hw1.chg); rintro v Lo ⟨bk2, ov2, rfl, hov2, rfl⟩)) | (apply R.pure; exact rfl; first | (apply Ok1.move; exact rfl) | (apply Ok1.assign; exact rfl) | (apply Ok1.extract; exact rfl; exact rfl))) | apply R.nil | (apply T.is; first | apply T.seq | apply T.region | apply T.ret))
  all_goals (apply RetOk.tt; exact rfl; exact rfl)
  all_goals refine ⟨_, ?_, bk2, ov2, rfl, hov2, rfl⟩
  all_goals (focus ((repeat' (first | exact Ext.one _ _ | exact Ext.here _ _ | apply Keep.cons | apply Keep.last)); done))
end Go.Proofs.YtidjnjlejhoalaaGreat
set_option linter.unusedSimpArgs false
set_option linter.unusedVariables false
namespace Go.Proofs.YtidjnjlejhoalaaGreat
open Go.RowKit Go.Shelf
set_option maxRecDepth 100000
def ringC (c : Cl) (s : List Int) (m1 m2 : Nat) : List Value := tkC c s ++ [.map (some m1), .map (some m2)]
theorem fill_ring (a b e : Nat) (c : Cl) (s : List Int) (hs : s.length = 32) (m1 m2 : Nat) : fillE (fldPl [(a, 0, 36), (b, 36, 1), (e, 37, 1)]) (tkC ⟨0, 0, 0, 0⟩ (zI 32) ++ [.map none, .map none]) [(0, .agg ⟨tkC c s⟩), (1, .map (some m1)), (2, .map (some m2))] = some (ringC c s m1 m2) := by
  obtain ⟨x0, x1, x2, x3, x4, x5, x6, x7, x8, x9, x10, x11, x12, x13, x14, x15, x16, x17, x18, x19, x20, x21, x22, x23, x24, x25, x26, x27, x28, x29, x30, x31, rfl⟩ := list32 s hs
  rfl
def vvK (b : Nat) : Value := .pointer (some ⟨b, 0, none⟩)
def kvR (n : Int) : Value := .int .i64 n
theorem tk_len {c : Cl} {s : List Int} (hs : s.length = 32) : (tkC c s).length = 36 := by simp [tkC, clC, u8s_len, hs]
theorem tk_one (c : Cl) (s : List Int) : (tkC c s).all Value.oneCell' = true := by simp only [tkC, List.all_append, u8s_one, Bool.and_true]; rfl
theorem tk_cl (c : Cl) (s : List Int) : subE (tkC c s) 0 4 = some (clC c) := subE_app (clC c) (u8s s) rfl
def RL0 (br m1 m2 : Nat) (c : Cl) (s : List Int) : Lst := [(br, .cells ⟨ringC c s m1 m2⟩ 300 (0, 0)), (m2, mobj kvR vvK [] 0), (m1, mobj kvC vvK [] 0)]
theorem ring_new (c : Cl) (hr : c.right) (s : List Int) (hs : s.length = 32) (w : World) : CallM Tryz.prog 161 [.agg ⟨tkC c s⟩] [] w fun v L => ∃ br m1 m2, v = .tuple #[.pointer (some ⟨br, 0, none⟩), .int .i64 0] ∧ L = RL0 br m1 m2 c s := by
  have hck := check_ok c.id c.roles c.exp c.ser
  rw [if_pos hr] at hck
  have htl := tk_len (c := c) hs
  have hfill := fun a b e m1 m2 => fill_ring a b e c s hs m1 m2
  refine enterK (tb := tb) Tryz.func161 rfl Tryz.ntmps161 rfl ?_
  repeat' (first | (apply R.is1; first | (apply R.makeMap kvC vvK; exact rfl; intro m2) | (apply R.isBin; (apply R.pure; exact rfl; (apply Ok1.neq_f; exact rfl; exact rfl; omega))) | (apply R.isCall; apply R.callP rfl rfl rfl hck) | (apply R.pure; exact rfl; first | (apply Ok1.load; exact rfl; first | (apply Ld.ownk; exact rfl; exact rfl; exact At.head; exact subE_all htl) | (apply Ld.ownk; exact rfl; exact rfl; exact At.head; exact tk_cl c s)) | (apply Ok1.build; (iterate 4 exact rfl); exact hfill _ _ _ _ _) | (apply Ok1.move; exact rfl) | (apply Ok1.fieldAddr; (iterate 5 exact rfl)) | (apply Ok1.assign; exact rfl)) | (apply R.box; (iterate 3 exact rfl); intro)) | apply R.nil | (apply T.is; first | apply T.seq | apply T.region | apply T.skip | apply T.ret | (apply T.cond_f; exact rfl)))
  rename_i m1 br
  (apply RetOk.tt; exact rfl; exact rfl)
  refine ⟨_, ?_, br, m1, m2, rfl, rfl⟩
  show Keep ((br, _) :: (m2, mobj kvR vvK [] 0) :: _) _
  unfold RL0
  (focus ((repeat' (first | exact Keep.nil _ | exact Ext.one _ _ | apply Keep.cons)); done))
theorem ring_bad (c : Cl) (hr : ¬ c.right) (s : List Int) (hs : s.length = 32) : CallP Tryz.prog 161 [.agg ⟨tkC c s⟩] (.tuple #[.pointer none, .int .i64 10]) := by
  have hck := check_ok c.id c.roles c.exp c.ser
  rw [if_neg hr] at hck
  refine enterP (tb := tb) Tryz.func161 rfl Tryz.ntmps161 rfl fun w0 => ?_
  repeat' (first | (apply R.is1; first | (apply R.isBin; (apply R.pure; exact rfl; (apply Ok1.neq_t; exact rfl; exact rfl; omega))) | (apply R.isCall; apply R.callP rfl rfl rfl hck) | (apply R.pure; exact rfl; first | (apply Ok1.load; exact rfl; (apply Ld.ownk; exact rfl; exact rfl; exact At.head; exact tk_cl c s)) | (apply Ok1.move; exact rfl) | (apply Ok1.fieldAddr; (iterate 5 exact rfl)) | (apply Ok1.assign; exact rfl)) | (apply R.box; (iterate 3 exact rfl); intro)) | apply R.nil | (apply T.is; first | apply T.seq | apply T.region | apply T.ret | (apply T.cond_t; exact rfl)))
  all_goals (apply RetOk.tt; exact rfl; exact rfl)
  all_goals rfl
theorem ring_tk (c : Cl) {s : List Int} (hs : s.length = 32) (m1 m2 : Nat) : subE (ringC c s m1 m2) 0 36 = some (tkC c s) := subE_app _ _ (tk_len hs)
theorem to_ok (br : Nat) (c : Cl) (s : List Int) (hs : s.length = 32) (hsb : Byt s) (m1 m2 : Nat) (e : TypeId) (n : Int) (h1 : 1 ≤ n) (h2 : n ≤ 65535) (w : World) (hb : w.heap[br]? = some (.cells ⟨ringC c s m1 m2⟩ e (0, 0))) :
    CallM Tryz.prog 227 [.pointer (some ⟨br, 0, none⟩), .int .i64 n] [] w fun v L => ∃ bk' ov, v = .tuple #[.pointer (some ⟨bk', 0, none⟩), .int .i64 0] ∧ OvOk 1 ov 32 (u8s (senderI s n)) ∧ L = KL bk' ov (senderI s n) := by
  refine enterK (tb := tb) Tryz.func227 rfl Tryz.ntmps227 rfl ?_
  repeat' (first | (apply R.is1; first | (apply R.isBin; (apply R.pure; exact rfl; (apply Ok1.eqlP; (iterate 5 exact rfl)))) | (apply R.isCall; first | (apply R.callE (vs := [.agg ⟨tkC c s⟩]); (iterate 3 exact rfl); exact Ext.none _; intro w1 hw1; exact key_ok c s hs w1; rintro v Lo ⟨bk2, ov2, rfl, hov2, rfl⟩) | (apply R.callE (vs := [.pointer (some ⟨bk2, 0, none⟩), .int .i64 n]); (iterate 3 exact rfl); exact Ext.none _; intro w1 hw1; exact sender_ok bk2 s (by rw [hs]; decide) hsb n h1 h2 w1 (KeyR.of (by rw [hs]; exact hov2) hw1 (Ext.mem (by (focus ((repeat' (exact Ext.here _ _)); done))))); rintro v Lo ⟨bk3, ov3, rfl, hov3, rfl⟩)) | (apply R.pure; exact rfl; first | (apply Ok1.load; exact rfl; apply Ld.blkk; exact rfl; exact rfl; exact hb; exact List.not_mem_nil; exact ring_tk c hs m1 m2) | (apply Ok1.move; exact rfl) | (apply Ok1.fieldAddr; (iterate 5 exact rfl)) | (apply Ok1.assign; exact rfl) | (apply Ok1.extract; exact rfl; exact rfl) | (apply Ok1.nilCheck; exact rfl))) | apply R.nil | (apply T.is; first | apply T.seq | apply T.region | apply T.skip | apply T.ret | (apply T.cond_f; exact rfl)))
  all_goals (apply RetOk.tt; exact rfl; exact rfl)
  all_goals refine ⟨_, ?_, bk3, ov3, rfl, hov3, rfl⟩
  all_goals (focus ((repeat' (first | exact Ext.one _ _ | exact Ext.here _ _ | apply Keep.cons | apply Keep.last)); done))
end Go.Proofs.YtidjnjlejhoalaaGreat
set_option linter.unusedSimpArgs false
set_option linter.unusedVariables false
namespace Go.Proofs.YtidjnjlejhoalaaGreat
open Go.RowKit Go.Shelf
set_option maxRecDepth 100000
structure En where
  boot : Int
  ctr : Int
  bits : Int
  key : Option Addr
  asked : Int
def En.v (e : En) : List Value := [.int .i64 e.boot, .int .i64 e.ctr, .int .u64 e.bits, .pointer e.key, .int .i64 e.asked]
structure BE where
  c : Cl
  blk : Nat
  born : Nat
  e : En
abbrev BS := List BE
def vvP (a : Nat) : Value := .pointer (some ⟨a, 0, none⟩)
def bms (es : BS) : Ms Cl Nat := es.map fun x => (x.c, x.blk, x.born)
def bls (es : BS) : Lst := es.map fun x => (x.blk, .cells ⟨x.e.v⟩ 309 (0, 0))
def BL (b bm : Nat) (es : BS) (clk : Nat) : Lst := (b, .cells ⟨[.map (some bm)]⟩ 307 (0, 0)) :: (bm, mobj kvC vvP (bms es) clk) :: bls es
theorem New_ok (w : World) : CallM Tryz.prog 164 [] [] w fun v L => ∃ b bm, v = .pointer (some ⟨b, 0, none⟩) ∧ L = BL b bm [] 0 := by
  refine enterK (tb := tb) Tryz.func164 rfl Tryz.ntmps164 rfl ?_
  repeat' (first | (apply R.is1; first | (apply R.makeMap kvC vvP; exact rfl; intro bm) | (apply R.pure; exact rfl; first | (apply Ok1.assign; exact rfl) | (apply Ok1.build; (iterate 5 exact rfl))) | (apply R.box; (iterate 3 exact rfl); intro)) | apply R.nil | (apply T.is; first | apply T.seq | apply T.region | apply T.ret))
  (apply RetOk.t; exact rfl)
  exact ⟨_, by (focus ((repeat' (first | exact Keep.nil _ | exact Ext.one _ _ | apply Keep.cons)); done)), _, bm, rfl, rfl⟩
end Go.Proofs.YtidjnjlejhoalaaGreat
set_option linter.unusedSimpArgs false
set_option linter.unusedVariables false
namespace Go.Proofs.YtidjnjlejhoalaaGreat
open Go.RowKit Go.Shelf
set_option maxRecDepth 100000
section
open Classical in
theorem Ok1.neqFz {X : Cx} {σ : Env} {L : Lst} {xs ys : List Value} {t : TypeId} {r : TRow} {ks : List TK} {x y : Operand} {ty : TypeId} {pos : String} {af : Array Edge} {d : Option Nat} {g : Option (Nat × Bool)} {ty2 : TypeId} {q : Bool} (hx : ev σ x = some (.agg ⟨xs⟩)) (hy : ev σ y = some (.agg ⟨ys⟩)) (ht : X.tb.row t = some r) (hk : r.k.agg = some true) (hf : flatE X.tb 8 t = some ks) (h1 : allOk ks xs = true) (h2 : allOk ks ys = true) (hq : xs ≠ ys ↔ q = true) :
    Ok1 X ⟨d, .binOp .neq t x y ty2, ty, pos, af, g⟩ σ L (.bool q) := by
  have h := Ok1.neqF (X := X) (L := L) (ty2 := ty2) (d := d) (ty := ty) (pos := pos) (af := af) (g := g) hx hy ht hk hf h1 h2
  have e : ∀ (i : Decidable (xs ≠ ys)), @decide (xs ≠ ys) i = q := by intro i; cases q <;> simp_all
  rw [e] at h
  exact h
end
theorem pkind_ok (k : Int) : CallP Tryz.prog 178 [.int .i64 k] (.bool (decide (0 < k ∧ k < 15))) := by
  refine enterP (tb := tb) Tryz.func178 rfl Tryz.ntmps178 rfl fun w => ?_
  by_cases h1 : 0 < k
  case neg =>
    rw [decide_eq_false (by omega)]
    repeat' (first | (apply R.is1; first | (apply R.isBin; (apply R.pure; exact rfl; (apply Ok1.gtr_f; exact rfl; exact rfl; omega))) | (apply R.pure; exact rfl; first | (apply Ok1.move; exact rfl) | (apply Ok1.assign; exact rfl) | (apply Ok1.pick_f; exact rfl; exact rfl))) | (apply R.isG; (apply R.guard_not; (iterate 3 exact rfl))) | apply R.nil | (apply T.is; first | apply T.seq | apply T.region | apply T.ret))
    (apply RetOk.t; exact rfl)
    rfl
  by_cases h2 : k < 15
  case neg =>
    rw [decide_eq_false (by omega)]
    repeat' (first | (apply R.is1; first | (apply R.isBin; (apply R.pure; exact rfl; first | (apply Ok1.lss_f; exact rfl; exact rfl; omega) | (apply Ok1.gtr_t; exact rfl; exact rfl; omega))) | (apply R.pure; exact rfl; first | (apply Ok1.move; exact rfl) | (apply Ok1.assign; exact rfl) | (apply Ok1.pick_t; exact rfl; exact rfl))) | (apply R.isG; (apply R.guard_run; exact rfl; exact rfl)) | apply R.nil | (apply T.is; first | apply T.seq | apply T.region | apply T.ret))
    (apply RetOk.t; exact rfl)
    rfl
  rw [decide_eq_true ⟨h1, h2⟩]
  repeat' (first | (apply R.is1; first | (apply R.isBin; (apply R.pure; exact rfl; first | (apply Ok1.lss_t; exact rfl; exact rfl; omega) | (apply Ok1.gtr_t; exact rfl; exact rfl; omega))) | (apply R.pure; exact rfl; first | (apply Ok1.move; exact rfl) | (apply Ok1.assign; exact rfl) | (apply Ok1.pick_t; exact rfl; exact rfl))) | (apply R.isG; (apply R.guard_run; exact rfl; exact rfl)) | apply R.nil | (apply T.is; first | apply T.seq | apply T.region | apply T.ret))
  (apply RetOk.t; exact rfl)
  rfl
theorem pplain_ok (k : Int) : CallP Tryz.prog 155 [.int .i64 k] (.bool (decide (k = 1 ∨ k = 2))) := by
  refine enterP (tb := tb) Tryz.func155 rfl Tryz.ntmps155 rfl fun w => ?_
  by_cases h1 : k = 1
  · rw [decide_eq_true (.inl h1)]
    repeat' (first | (apply R.is1; first | (apply R.isBin; (apply R.pure; exact rfl; (apply Ok1.eql_t; exact rfl; exact rfl; omega))) | (apply R.pure; exact rfl; first | (apply Ok1.move; exact rfl) | (apply Ok1.assign; exact rfl) | (apply Ok1.pick_t; exact rfl; exact rfl))) | (apply R.isG; (apply R.guard_not; (iterate 3 exact rfl))) | apply R.nil | (apply T.is; first | apply T.seq | apply T.region | apply T.ret))
    (apply RetOk.t; exact rfl)
    rfl
  by_cases h2 : k = 2
  · rw [decide_eq_true (.inr h2)]
    repeat' (first | (apply R.is1; first | (apply R.isBin; (apply R.pure; exact rfl; first | (apply Ok1.eql_t; exact rfl; exact rfl; omega) | (apply Ok1.eql_f; exact rfl; exact rfl; omega))) | (apply R.pure; exact rfl; first | (apply Ok1.move; exact rfl) | (apply Ok1.assign; exact rfl) | (apply Ok1.pick_f; exact rfl; exact rfl))) | (apply R.isG; (apply R.guard_run; exact rfl; exact rfl)) | apply R.nil | (apply T.is; first | apply T.seq | apply T.region | apply T.ret))
    (apply RetOk.t; exact rfl)
    rfl
  rw [decide_eq_false (by omega)]
  repeat' (first | (apply R.is1; first | (apply R.isBin; (apply R.pure; exact rfl; (apply Ok1.eql_f; exact rfl; exact rfl; omega))) | (apply R.pure; exact rfl; first | (apply Ok1.move; exact rfl) | (apply Ok1.assign; exact rfl) | (apply Ok1.pick_f; exact rfl; exact rfl))) | (apply R.isG; (apply R.guard_run; exact rfl; exact rfl)) | apply R.nil | (apply T.is; first | apply T.seq | apply T.region | apply T.ret))
  (apply RetOk.t; exact rfl)
  rfl
/-- A packet's cells. -/
def pkC (k : Int) (c : Cl) (to a b : Int) (p : Option Addr) (n cap : Nat) (t : List Int) : List Value := .int .i64 k :: .int .i64 c.id :: .int .i64 c.roles :: .int .i64 c.exp :: .int .i64 c.ser :: .int .i64 to :: .int .i64 a :: .int .i64 b :: .slice p n cap :: u8s t
theorem pk_len (k : Int) (c : Cl) (to a b : Int) (p : Option Addr) (n cap : Nat) {t : List Int} (ht : t.length = 32) : (pkC k c to a b p n cap t).length = 41 := by simp [pkC, u8s_len, ht]
theorem pk_one (k : Int) (c : Cl) (to a b : Int) (p : Option Addr) (n cap : Nat) (t : List Int) : (pkC k c to a b p n cap t).all Value.oneCell' = true := by
  show (true && (u8s t).all Value.oneCell') = true
  rw [u8s_one]; rfl
theorem pk_tag (k : Int) (c : Cl) (to a b : Int) (p : Option Addr) (n cap : Nat) {t : List Int} (ht : t.length = 32) : subE (pkC k c to a b p n cap t) 9 32 = some (u8s t) := by
  show subE (u8s t) 0 32 = some (u8s t)
  exact subE_all (by rw [u8s_len, ht])
theorem pk_set (k : Int) (c : Cl) (to a b : Int) (p : Option Addr) (n cap : Nat) {t t2 : List Int} (ht : t.length = 32) (h2 : t2.length = 32) : setE (pkC k c to a b p n cap t) 9 (u8s t2) = some (pkC k c to a b p n cap t2) := by
  have h := setE_off [.int .i64 k, .int .i64 c.id, .int .i64 c.roles, .int .i64 c.exp, .int .i64 c.ser, .int .i64 to, .int .i64 a, .int .i64 b, .slice p n cap] (u8s t2) (u8s t) (by rw [u8s_len, u8s_len, ht, h2]; exact Nat.le_refl _)
  rw [List.drop_of_length_le (by rw [u8s_len, u8s_len, ht, h2]; exact Nat.le_refl _), List.append_nil] at h
  exact h
theorem u8s_inj : ∀ {a b : List Int}, u8s a = u8s b → a = b
  | [], [], _ => rfl
  | [], y :: b, h => by cases h
  | x :: a, [], h => by cases h
  | x :: a, y :: b, h => by
    simp only [u8s, List.map_cons, List.cons.injEq, Value.int.injEq, true_and] at h
    have h2 : u8s a = u8s b := h.2
    rw [h.1, u8s_inj h2]
theorem u8s_ok (n : Nat) : ∀ {a : List Int}, a.length = n → allOk (List.replicate n (TK.int .u8)) (u8s a) = true := by
  induction n with
  | zero => intro a h; rw [List.eq_nil_of_length_eq_zero h]; rfl
  | succ n ih =>
    intro a h
    match a, h with
    | x :: a, h =>
      have := ih (a := a) (by simpa using h)
      simp only [List.replicate_succ, u8s, List.map_cons] at this ⊢
      exact this
instance (c : Cl) : Decidable c.right := by unfold Cl.right; infer_instance
instance (a b : Int) : Decidable (NR a b) := by unfold NR; infer_instance
/-- What is wrong with a packet. -/
def pckE (k : Int) (c : Cl) (to a b : Int) (n : Nat) (t : List Int) : Int := if ¬ (0 < k ∧ k < 15) then 13 else if ¬ (c.right ∧ 0 ≤ to ∧ to ≤ 65535 ∧ NR a b) then 10 else if 512 < n then 2 else if (k = 1 ∨ k = 2) ∧ t ≠ zI 32 then 3 else 0
theorem pck_key (k : Int) (c : Cl) (to a b : Int) (n : Nat) (t : List Int) {qk qp : Bool} {ec en E : Int} (h1 : qk = decide (0 < k ∧ k < 15)) (h2 : ec = if c.right then 0 else 10) (h3 : en = if NR a b then 0 else 10) (h4 : qp = decide (k = 1 ∨ k = 2)) (hE : E = pckE k c to a b n t) :
    (qk = false ∧ E = 13) ∨ (qk = true ∧ ec = 10 ∧ E = 10) ∨ (qk = true ∧ ec = 0 ∧ to < 0 ∧ E = 10) ∨ (qk = true ∧ ec = 0 ∧ 65535 < to ∧ E = 10) ∨ (qk = true ∧ ec = 0 ∧ (0 ≤ to ∧ to ≤ 65535) ∧ en = 10 ∧ E = 10) ∨ (qk = true ∧ ec = 0 ∧ (0 ≤ to ∧ to ≤ 65535) ∧ en = 0 ∧ 512 < n ∧ E = 2) ∨ (qk = true ∧ ec = 0 ∧ (0 ≤ to ∧ to ≤ 65535) ∧ en = 0 ∧ n ≤ 512 ∧ qp = true ∧ t ≠ zI 32 ∧ E = 3) ∨ (qk = true ∧ ec = 0 ∧ (0 ≤ to ∧ to ≤ 65535) ∧ en = 0 ∧ n ≤ 512 ∧ qp = true ∧ t = zI 32 ∧ E = 0) ∨ (qk = true ∧ ec = 0 ∧ (0 ≤ to ∧ to ≤ 65535) ∧ en = 0 ∧ n ≤ 512 ∧ qp = false ∧ E = 0) := by
  unfold pckE at hE
  by_cases g1 : 0 < k ∧ k < 15
  case neg =>
    rw [if_pos g1] at hE
    exact .inl ⟨by rw [h1]; exact decide_eq_false g1, hE⟩
  have q1 : qk = true := by rw [h1]; exact decide_eq_true g1
  rw [if_neg (fun g => g g1)] at hE
  by_cases g2 : c.right
  case neg =>
    rw [if_neg g2] at h2
    rw [if_pos (fun g => g2 g.1)] at hE
    exact .inr (.inl ⟨q1, h2, hE⟩)
  rw [if_pos g2] at h2
  by_cases g3 : 0 ≤ to
  case neg =>
    rw [if_pos (fun g => g3 g.2.1)] at hE
    exact .inr (.inr (.inl ⟨q1, h2, by omega, hE⟩))
  by_cases g4 : to ≤ 65535
  case neg =>
    rw [if_pos (fun g => g4 g.2.2.1)] at hE
    exact .inr (.inr (.inr (.inl ⟨q1, h2, by omega, hE⟩)))
  by_cases g5 : NR a b
  case neg =>
    rw [if_neg g5] at h3
    rw [if_pos (fun g => g5 g.2.2.2)] at hE
    exact .inr (.inr (.inr (.inr (.inl ⟨q1, h2, ⟨g3, g4⟩, h3, hE⟩))))
  rw [if_pos g5] at h3
  rw [if_neg (fun g => g ⟨g2, g3, g4, g5⟩)] at hE
  by_cases g6 : 512 < n
  · rw [if_pos g6] at hE
    exact .inr (.inr (.inr (.inr (.inr (.inl ⟨q1, h2, ⟨g3, g4⟩, h3, g6, hE⟩)))))
  rw [if_neg g6] at hE
  have g6' : n ≤ 512 := by omega
  by_cases g7 : k = 1 ∨ k = 2
  · have q2 : qp = true := by rw [h4]; exact decide_eq_true g7
    by_cases g8 : t = zI 32
    · rw [if_neg (fun g => g.2 g8)] at hE
      exact .inr (.inr (.inr (.inr (.inr (.inr (.inr (.inl ⟨q1, h2, ⟨g3, g4⟩, h3, g6', q2, g8, hE⟩)))))))
    · rw [if_pos ⟨g7, g8⟩] at hE
      exact .inr (.inr (.inr (.inr (.inr (.inr (.inl ⟨q1, h2, ⟨g3, g4⟩, h3, g6', q2, g8, hE⟩))))))
  · have q2 : qp = false := by rw [h4]; exact decide_eq_false g7
    rw [if_neg (fun g => g7 g.1)] at hE
    exact .inr (.inr (.inr (.inr (.inr (.inr (.inr (.inr ⟨q1, h2, ⟨g3, g4⟩, h3, g6', q2, hE⟩)))))))
theorem pcheck_ok (k : Int) (c : Cl) (to a b : Int) (p : Option Addr) (n cap : Nat) (t : List Int) (ht : t.length = 32) : CallP Tryz.prog 180 [.agg ⟨pkC k c to a b p n cap t⟩] (.int .i64 (pckE k c to a b n t)) := by
  have hk := pkind_ok k
  have hp := pplain_ok k
  have hc := check_ok c.id c.roles c.exp c.ser
  have hn := nonce_ok a b
  obtain ⟨qk, hqk⟩ : ∃ q, q = decide (0 < k ∧ k < 15) := ⟨_, rfl⟩
  obtain ⟨qp, hqp⟩ : ∃ q, q = decide (k = 1 ∨ k = 2) := ⟨_, rfl⟩
  obtain ⟨ec, hec⟩ : ∃ e : Int, e = if c.right then 0 else 10 := ⟨_, rfl⟩
  obtain ⟨en, hen⟩ : ∃ e : Int, e = if NR a b then 0 else 10 := ⟨_, rfl⟩
  obtain ⟨E, hE⟩ : ∃ e, e = pckE k c to a b n t := ⟨_, rfl⟩
  have key := pck_key k c to a b n t hqk hec hen hqp hE
  rw [← hqk] at hk
  rw [← hqp] at hp
  rw [← hE]
  replace hc : CallP Tryz.prog 170 [.agg ⟨[.int .i64 c.id, .int .i64 c.roles, .int .i64 c.exp, .int .i64 c.ser]⟩] (.int .i64 ec) := by rw [hec]; exact hc
  replace hn : CallP Tryz.prog 184 [.agg ⟨[.int .i64 a, .int .i64 b]⟩] (.int .i64 en) := by rw [hen]; exact hn
  have htag := pk_tag k c to a b p n cap ht
  have hoz : allOk (List.replicate 32 (TK.int .u8)) (u8s (zI 32)) = true := rfl
  have hot := u8s_ok 32 ht
  clear hqk hqp hec hen hE
  refine enterP (tb := tb) Tryz.func180 rfl Tryz.ntmps180 rfl fun w => ?_
  simp only [pkC] at htag ⊢
  rcases key with ⟨rfl, rfl⟩ | ⟨rfl, rfl, rfl⟩ | ⟨rfl, rfl, g3, rfl⟩ | ⟨rfl, rfl, g3, rfl⟩ | ⟨rfl, rfl, g3, rfl, rfl⟩ | ⟨rfl, rfl, g3, rfl, g6, rfl⟩ | ⟨rfl, rfl, g3, rfl, g6, rfl, g8, rfl⟩ | ⟨rfl, rfl, g3, rfl, g6, rfl, g8, rfl⟩ | ⟨rfl, rfl, g3, rfl, g6, rfl, rfl⟩
  all_goals repeat' (first | (apply R.is1; first | (apply R.isBin; (apply R.pure; exact rfl; first | (apply Ok1.neqFz (q := true) (ks := List.replicate 32 (TK.int .u8)) (ys := u8s (zI 32)); (iterate 5 exact rfl); exact hot; exact hoz; exact ⟨fun _ => rfl, fun _ h => g8 (u8s_inj h)⟩) | (apply Ok1.neqFz (q := false) (ks := List.replicate 32 (TK.int .u8)) (ys := u8s (zI 32)); (iterate 5 exact rfl); exact hot; exact hoz; exact ⟨fun h => absurd (congrArg u8s g8) h, fun h => by cases h⟩) | (apply Ok1.lss_t; exact rfl; exact rfl; omega) | (apply Ok1.lss_f; exact rfl; exact rfl; omega) | (apply Ok1.gtr_t; exact rfl; exact rfl; omega) | (apply Ok1.gtr_f; exact rfl; exact rfl; omega) | (apply Ok1.neq_t; exact rfl; exact rfl; omega) | (apply Ok1.neq_f; exact rfl; exact rfl; omega))) | (apply R.isCall; first | apply R.callP rfl rfl rfl hk | apply R.callP rfl rfl rfl hc | apply R.callP rfl rfl rfl hn | apply R.callP rfl rfl rfl hp | (apply R.pure; exact rfl; (apply Ok1.lenS; (iterate 3 exact rfl)))) | (apply R.pure; exact rfl; first | (apply Ok1.load; exact rfl; first | (apply Ld.own1; exact rfl; exact rfl; exact At.head; exact rfl) | (apply Ld.ownk; exact rfl; exact rfl; exact At.head; exact rfl) | (apply Ld.ownk; exact rfl; exact rfl; exact At.head; exact htag)) | (apply Ok1.move; exact rfl) | (apply Ok1.fieldAddr; (iterate 5 exact rfl)) | (apply Ok1.assign; exact rfl) | (apply Ok1.pick_t; exact rfl; exact rfl) | (apply Ok1.pick_f; exact rfl; exact rfl) | (apply Ok1.not_t; exact rfl) | (apply Ok1.not_f; exact rfl) | (apply Ok1.buildA; (iterate 6 exact rfl))) | (apply R.box; (iterate 3 exact rfl); intro)) | (apply R.isG; first | (apply R.guard_run; exact rfl; exact rfl) | (apply R.guard_not; (iterate 3 exact rfl))) | apply R.nil | (apply T.is; first | apply T.seq | apply T.region | apply T.block | apply T.skip | apply T.ret | (apply T.cond_t; exact rfl) | (apply T.cond_f; exact rfl)))
  all_goals (apply RetOk.t; exact rfl)
  all_goals rfl
end Go.Proofs.YtidjnjlejhoalaaGreat
set_option linter.unusedSimpArgs false
set_option linter.unusedVariables false
namespace Go.Proofs.YtidjnjlejhoalaaGreat
open Go.RowKit Go.Shelf
set_option maxRecDepth 100000
/-- A field of bytes. -/
def fldB (p : Option Addr) (n cap : Nat) : List Value := [.int .i64 4, .int .i64 0, .slice p n cap]
theorem wcheckB_ok (p : Option Addr) (n cap : Nat) (hn : n ≤ 512) : CallP Tryz.prog 293 [.agg ⟨fldB p n cap⟩] (.int .i64 0) := by
  unfold fldB
  refine enterP (tb := tb) Tryz.func293 rfl Tryz.ntmps293 rfl fun w => ?_
  repeat' (first | (apply R.is1; first | (apply R.isBin; (apply R.pure; exact rfl; first | (apply Ok1.lss_f; exact rfl; exact rfl; omega) | (apply Ok1.gtr_f; exact rfl; exact rfl; omega) | (apply Ok1.eql_t; exact rfl; exact rfl; omega) | (apply Ok1.neq_f; exact rfl; exact rfl; omega))) | (apply R.isCall; (apply R.pure; exact rfl; (apply Ok1.lenS; (iterate 3 exact rfl)))) | (apply R.pure; exact rfl; first | (apply Ok1.move; exact rfl) | (apply Ok1.fieldAddr; (iterate 5 exact rfl)) | (apply Ok1.load; exact rfl; (apply Ld.own1; exact rfl; exact rfl; exact At.head; exact rfl)) | (apply Ok1.assign; exact rfl) | (apply Ok1.pick_t; exact rfl; exact rfl) | (apply Ok1.pick_f; exact rfl; exact rfl)) | (apply R.box; (iterate 3 exact rfl); intro)) | (apply R.isG; first | (apply R.guard_run; exact rfl; exact rfl) | (apply R.guard_not; (iterate 3 exact rfl))) | apply R.nil | (apply T.is; first | (apply T.drawC (id := 5) [0] (by decide); ((apply A.take 0; exact rfl; exact rfl; kernel_rfl; kernel_rfl; kernel_rfl; (apply Ok1.fieldAddr; (iterate 5 exact rfl))) <;> (apply A.take 1; exact rfl; exact rfl; kernel_rfl; kernel_rfl; kernel_rfl; (apply Ok1.load; exact rfl; (apply Ld.own1; exact rfl; exact rfl; exact At.head; exact rfl))) <;> ((apply A.take 2; exact rfl; exact rfl; kernel_rfl; kernel_rfl; kernel_rfl; (apply Ok1.lss_f; exact rfl; exact rfl; omega))) <;> (apply A.take 3; exact rfl; exact rfl; kernel_rfl; kernel_rfl; kernel_rfl; (apply Ok1.move; exact rfl)) <;> ((apply A.takeG 4; exact rfl; exact rfl; rotate_left 3; exact rfl; exact rfl; rotate_right 3; kernel_rfl; kernel_rfl; kernel_rfl; (apply Ok1.fieldAddr; (iterate 5 exact rfl)))) <;> ((apply A.takeG 5; exact rfl; exact rfl; rotate_left 3; exact rfl; exact rfl; rotate_right 3; kernel_rfl; kernel_rfl; kernel_rfl; (apply Ok1.load; exact rfl; (apply Ld.own1; exact rfl; exact rfl; exact At.head; exact rfl)))) <;> ((apply A.takeG 6; exact rfl; exact rfl; rotate_left 3; exact rfl; exact rfl; rotate_right 3; kernel_rfl; kernel_rfl; kernel_rfl; (apply Ok1.lss_f; exact rfl; exact rfl; omega))) <;> ((apply A.takeG 7; exact rfl; exact rfl; rotate_left 3; exact rfl; exact rfl; rotate_right 3; kernel_rfl; kernel_rfl; kernel_rfl; (apply Ok1.move; exact rfl))) <;> ((apply A.skipG 8; exact rfl; exact rfl; rotate_left 3; exact rfl; exact rfl; rotate_right 3; kernel_rfl; kernel_rfl; kernel_rfl)) <;> ((apply A.skipG 9; exact rfl; exact rfl; rotate_left 3; exact rfl; exact rfl; rotate_right 3; kernel_rfl; kernel_rfl; kernel_rfl)) <;> ((apply A.skipG 10; exact rfl; exact rfl; rotate_left 3; exact rfl; exact rfl; rotate_right 3; kernel_rfl; kernel_rfl; kernel_rfl)) <;> ((apply A.skipG 11; exact rfl; exact rfl; rotate_left 3; exact rfl; exact rfl; rotate_right 3; kernel_rfl; kernel_rfl; kernel_rfl)) <;> (apply A.one 12; kernel_rfl; exact rfl; (((apply R.isG; (apply R.guard_not; (iterate 3 exact rfl))))); apply R.nil; refine ⟨?_, ?_⟩; (focus ((repeat' (first | exact trivial | (refine ⟨?_, ?_⟩; exact At.head)))))) <;> ((apply A.skipG 13; exact rfl; exact rfl; rotate_left 3; exact rfl; exact rfl; rotate_right 3; kernel_rfl; kernel_rfl; kernel_rfl)) <;> ((apply A.skipG 14; exact rfl; exact rfl; rotate_left 3; exact rfl; exact rfl; rotate_right 3; kernel_rfl; kernel_rfl; kernel_rfl)) <;> ((apply A.skipG 15; exact rfl; exact rfl; rotate_left 3; exact rfl; exact rfl; rotate_right 3; kernel_rfl; kernel_rfl; kernel_rfl)) <;> ((apply A.takeG 16; exact rfl; exact rfl; rotate_left 3; exact rfl; exact rfl; rotate_right 3; kernel_rfl; kernel_rfl; kernel_rfl; (apply Ok1.pick_f; exact rfl; exact rfl))) <;> (apply A.take 17; exact rfl; exact rfl; kernel_rfl; kernel_rfl; kernel_rfl; (apply Ok1.pick_f; exact rfl; exact rfl)) <;> (apply A.take 18; exact rfl; exact rfl; kernel_rfl; kernel_rfl; kernel_rfl; (apply Ok1.assign; exact rfl)) <;> (apply A.done; kernel_rfl))) | apply T.seq | apply T.region | apply T.block | apply T.skip | apply T.ret | (apply T.cond_f; exact rfl)))
  (apply RetOk.t; exact rfl)
  rfl
theorem num1_ok (n : Nat) (h1 : n ≤ 512) (w : World) : CallM Tryz.prog 308 [.int .i64 1, .int .i64 n] [] w fun v L => ∃ ov, OvOk 1 ov 2 (u8s (numI 1 n)) ∧ ov.isSome = true ∧ v = slV ov 2 ∧ L = blkL 5 ov (u8s (numI 1 n)) := by
  refine (number_ok 1 n (.inr (.inl rfl)) (by omega) (by omega) w).imp ?_
  rintro v L ⟨b, rfl, rfl⟩
  exact ⟨some (b, 0, []), ⟨rfl, rfl⟩, rfl, rfl, by simp [blkL]⟩
theorem foutB_ok (p : Option Addr) (n cap : Nat) (bs : List Int) (hn : n = bs.length) (h : n ≤ 512) (w : World) (hr : RdSl w p u8V bs) : CallM Tryz.prog 294 [.agg ⟨fldB p n cap⟩] [] w fun v L => ∃ ov, OvOk 1 ov (2 + n) (u8s (numI 1 n ++ bs)) ∧ v = .slice (ovp ov) (2 + n) (ovc ov (2 + n)) ∧ L = blkL 5 ov (u8s (numI 1 n ++ bs)) := by
  have hnum := fun w1 => num1_ok n h w1
  unfold fldB
  refine enterK (tb := tb) Tryz.func294 rfl Tryz.ntmps294 rfl ?_
  repeat' (first | (apply R.is1; first | (apply R.isBin; (apply R.pure; exact rfl; (apply Ok1.eql_t; exact rfl; exact rfl; omega))) | (apply R.pure; exact rfl; first | (apply Ok1.fieldAddr; (iterate 5 exact rfl)) | (apply Ok1.load; exact rfl; (apply Ld.own1; exact rfl; exact rfl; exact At.head; exact rfl)) | (apply Ok1.assign; exact rfl)) | (apply R.box; (iterate 3 exact rfl); intro)) | apply R.nil | (apply T.is; first | (apply T.drawC (id := 2) [0] (by decide); ((apply A.take 0; exact rfl; exact rfl; kernel_rfl; kernel_rfl; kernel_rfl; (apply Ok1.fieldAddr; (iterate 5 exact rfl))) <;> (apply A.take 1; exact rfl; exact rfl; kernel_rfl; kernel_rfl; kernel_rfl; (apply Ok1.load; exact rfl; (apply Ld.own1; exact rfl; exact rfl; exact At.head; exact rfl))) <;> (apply A.take 2; exact rfl; exact rfl; kernel_rfl; kernel_rfl; kernel_rfl; (apply Ok1.lenS; (iterate 3 exact rfl))) <;> (apply A.take 4; exact rfl; exact rfl; kernel_rfl; kernel_rfl; kernel_rfl; (apply Ok1.fieldAddr; (iterate 5 exact rfl))) <;> (apply A.take 5; exact rfl; exact rfl; kernel_rfl; kernel_rfl; kernel_rfl; (apply Ok1.load; exact rfl; (apply Ld.own1; exact rfl; exact rfl; exact At.head; exact rfl))) <;> (apply A.one 3; kernel_rfl; exact rfl; (((apply R.callE; (iterate 3 exact rfl); exact Ext.none _; intro w1 hw1; exact hnum w1; rintro v Lo ⟨ova, hova, hsa, rfl, rfl⟩))); apply R.nil; refine ⟨?_, ?_⟩; (focus ((repeat' (first | exact trivial | (refine ⟨?_, ?_⟩; (focus ((repeat' (first | exact At.head | apply At.right)); done)))))))) <;> (apply A.one 6; kernel_rfl; exact rfl; (((apply R.appendRd (xs := bs) (v := u8V) (sz := 1) (ov := ova) (n := 2) (old := u8s (numI 1 n)); (iterate 12 exact rfl); exact hova; (focus ((repeat' (exact Ext.here _ _)); done)); exact hn; exact u8V_len; exact rfl; (intro w1 hw1; exact hr.chg hw1.chg (Off.nil _)); (focus (rw [fl_u8]; exact u8s_one bs)); omega; intro ov1 hov1 hsome; rw [fl_u8, ← u8s_app]; rw [fl_u8, ← u8s_app] at hov1))); apply R.nil; refine ⟨?_, ?_⟩; (focus ((repeat' (first | exact trivial | (refine ⟨?_, ?_⟩; (focus ((repeat' (first | exact At.head | apply At.right)); done)))))))) <;> (apply A.take 7; exact rfl; exact rfl; kernel_rfl; kernel_rfl; kernel_rfl; (apply Ok1.assign; exact rfl)) <;> (apply A.done; kernel_rfl))) | apply T.seq | apply T.region | apply T.ret | (apply T.cond_t; exact rfl)))
  (apply RetOk.t; exact rfl)
  exact ⟨_, by (focus ((repeat' (first | exact Ext.here _ _ | apply Keep.last)); done)), ov1, hov1, slV_eq hov1, rfl⟩
theorem putB_ok (bw : Nat) (ov : Ov) (bs : List Int) (hov : OvOk 1 ov bs.length (u8s bs)) (p : Option Addr) (n cap : Nat) (ys : List Int) (hn : n = ys.length) (h : n ≤ 512) (hbig : bs.length ≤ 500) (bf : Nat) (fz : Nat × Nat) (e : TypeId) (w : World) (hb : w.heap[bf]? = some (.cells ⟨fldB p n cap⟩ e fz)) (hoff : bf ∉ blks (WL bw ov bs)) (hr : RdSl w p u8V ys) (hq : ys ≠ [] → Off p (blks (WL bw ov bs))) :
    CallM Tryz.prog 246 [.pointer (some ⟨bw, 0, none⟩), .slice (some ⟨bf, 0, none⟩) 1 1] (WL bw ov bs) w (WRes bw (bs ++ (numI 1 n ++ ys))) := by
  have hck := wcheckB_ok p n cap h
  have hfo := fun w1 (hc : Chg (blks (WL bw ov bs)) w w1) => foutB_ok p n cap ys hn h w1 (hr.chg' hc hq)
  have hnl : 2 + n = (numI 1 n ++ ys).length := by rw [List.length_append, hn]; rfl
  unfold WRes
  generalize numI 1 n ++ ys = nb at *
  refine enterK (tb := tb) Tryz.func246 rfl Tryz.ntmps246 rfl ?_
  obtain ⟨S, hS⟩ : ∃ S, S = blks (WL bw ov bs) := ⟨_, rfl⟩
  rw [← hS] at hoff hfo ⊢
  simp only [WL, fldB] at hb hck hfo ⊢
  clear hS hq hr
  repeat' (first | (apply R.is1; first | (apply R.isBin; (apply R.pure; exact rfl; first | (apply Ok1.add64; exact rfl; exact rfl; omega; omega) | (apply Ok1.lss_t; exact rfl; exact rfl; omega) | (apply Ok1.lss_f; exact rfl; exact rfl; omega) | (apply Ok1.gtr_f; exact rfl; exact rfl; omega) | (apply Ok1.neq_f; exact rfl; exact rfl; omega) | (apply Ok1.eqlP; (iterate 5 exact rfl)))) | (apply R.isCall; first | apply R.callP rfl rfl rfl hck | (apply R.callE; (iterate 3 exact rfl); exact Ext.none _; intro w1 hw1; exact hfo w1 hw1.chg; rintro v Lo ⟨ov7, hov7, rfl, rfl⟩) | (apply R.pure; exact rfl; apply Ok1.lenOv; (iterate 3 exact rfl); exact hov) | (apply R.appendRd (xs := nb) (v := u8V) (sz := 1) (ov := ov) (n := bs.length) (old := u8s bs); (iterate 12 exact rfl); exact hov; (focus ((repeat' (first | exact Ext.all _ | apply Ext.cons | apply Ext.app)); done)); exact hnl; exact u8V_len; exact rfl; (intro w1 hw1; exact RdSl.own' hw1 (Ext.mem (by rw [fl_u8]; (focus ((repeat' (exact Ext.here _ _)); done)))) (by rw [fl_u8, ← hnl]; exact hov7) u8V_len); (focus (rw [fl_u8]; exact u8s_one nb)); omega; intro ov1 hov1 hsome; rw [hnl, fl_u8, ← u8s_app, ← List.length_append]; rw [hnl, fl_u8, ← u8s_app, ← List.length_append] at hov1) | (apply R.pure; exact rfl; (apply Ok1.lenS; (iterate 3 exact rfl)))) | (apply R.pure; exact rfl; first | (apply Ok1.move; exact rfl) | (apply Ok1.fieldAddr; (iterate 5 exact rfl)) | (apply Ok1.load; exact rfl; first | (apply Ld.own1; exact rfl; exact rfl; (focus ((repeat' (first | exact At.head | apply At.tail | apply At.right)); done)); exact rfl) | (apply Ld.ownk; exact rfl; exact rfl; (focus ((repeat' (first | exact At.head | apply At.tail)); done)); exact rfl) | (apply Ld.blkk; exact rfl; exact rfl; assumption; (assumption); exact rfl)) | (apply Ok1.assign; exact rfl) | (apply Ok1.indexAddr; (iterate 5 exact rfl); omega; omega) | (apply Ok1.nilCheck; exact rfl)) | (apply R.alloc; (iterate 3 exact rfl); intro)) | (apply R.is0; first | (apply R.store; (iterate 3 exact rfl); exact cellsE_slV _ _; exact rfl; exact one_slV _ _; (focus ((repeat' (first | exact Upd.head | apply Upd.tail | apply Upd.right)); done)); exact rfl) | (apply R.store; (iterate 6 exact rfl); (focus ((repeat' (first | exact Upd.head | apply Upd.tail)); done)); exact rfl)) | apply R.nil | (apply T.is; first | apply T.rounds 3 | apply T.seq | apply T.region | apply T.block | apply T.scope | apply T.label | apply T.skip | apply T.exit | apply T.ret | (apply T.cond_t; exact rfl) | (apply T.cond_f; exact rfl)))
  (apply RetOk.t; exact rfl)
  refine ⟨_, ?_, ov1, rfl, hov1, rfl⟩
  (focus ((repeat' (first | exact Ext.one _ _ | exact Ext.here _ _ | apply Keep.cons | apply Keep.last | apply Ext.cons | apply Ext.app)); done))
theorem wbytes1_ok (bw : Nat) (ov : Ov) (bs : List Int) (hov : OvOk 1 ov bs.length (u8s bs)) (p : Option Addr) (n cap : Nat) (ys : List Int) (hn : n = ys.length) (h : n ≤ 512) (hbig : bs.length ≤ 500) (bl : Nat) (fz : Nat × Nat) (e : TypeId) (w : World) (hb : w.heap[bl]? = some (.cells ⟨[.slice p n cap]⟩ e fz)) (hoff : bl ∉ blks (WL bw ov bs)) (hr : RdSl w p u8V ys) (hq : ys ≠ [] → Off p (blks (WL bw ov bs))) :
    CallM Tryz.prog 280 [.pointer (some ⟨bw, 0, none⟩), .slice (some ⟨bl, 0, none⟩) 1 1] (WL bw ov bs) w (WRes bw (bs ++ (numI 1 n ++ ys))) := by
  have hput := fun bf fz e w1 h1 h2 (hc : Chg (blks (WL bw ov bs)) w w1) => putB_ok bw ov bs hov p n cap ys hn h hbig bf fz e w1 h1 h2 (hr.chg' hc hq) hq
  unfold WRes at hput ⊢
  generalize bs ++ (numI 1 n ++ ys) = nb at *
  refine enterK (tb := tb) Tryz.func280 rfl Tryz.ntmps280 rfl ?_
  obtain ⟨S, hS⟩ : ∃ S, S = blks (WL bw ov bs) := ⟨_, rfl⟩
  rw [← hS] at hoff ⊢
  repeat' (first | (apply R.is1; first | (apply R.isBin; (apply R.pure; exact rfl; first | (apply Ok1.add64; exact rfl; exact rfl; omega; omega) | (apply Ok1.lss_t; exact rfl; exact rfl; omega) | (apply Ok1.lss_f; exact rfl; exact rfl; omega))) | (apply R.isCall; first | (apply R.callE (Li := WL bw ov bs); (iterate 3 exact rfl); (focus ((repeat' (first | exact Ext.all _ | apply Ext.cons)); done)); intro w1 hw1; exact hput _ _ _ w1 (hw1.get _ _ (At.mem (by exact At.head))) (RdSl.off hw1 (by (focus ((repeat' (first | exact Ext.all _ | apply Ext.cons)); done))) (At.mem (by exact At.head))) (hS ▸ hw1.chg); rintro v Lo ⟨ov1, rfl, hov1, rfl⟩) | (apply R.pure; exact rfl; (apply Ok1.lenS; (iterate 3 exact rfl)))) | (apply R.pure; exact rfl; first | (apply Ok1.move; exact rfl) | (apply Ok1.load; exact rfl; (apply Ld.blk1; exact rfl; exact rfl; assumption; (assumption); exact rfl)) | (apply Ok1.assign; exact rfl) | (apply Ok1.indexAddr; (iterate 5 exact rfl); omega; omega) | (apply Ok1.build; (iterate 5 exact rfl))) | (apply R.buildSlice; (iterate 12 exact rfl); intro)) | apply R.nil | (apply T.is; first | apply T.rounds 3 | apply T.seq | apply T.region | apply T.block | apply T.skip | apply T.exit | apply T.ret | (apply T.cond_t; exact rfl) | (apply T.cond_f; exact rfl)))
  (apply RetOk.t; exact rfl)
  refine ⟨_, ?_, ov1, rfl, hov1, rfl⟩
  (focus ((repeat' (first | exact Ext.one _ _ | exact Ext.here _ _ | apply Keep.cons | apply Keep.last)); done))
end Go.Proofs.YtidjnjlejhoalaaGreat
set_option linter.unusedSimpArgs false
set_option linter.unusedVariables false
namespace Go.Proofs.YtidjnjlejhoalaaGreat
open Go.RowKit Go.Shelf
set_option maxRecDepth 100000
/-- The parts' bytes, one behind the other. -/
def catP (l : List Pt) : List Int := l.flatMap Pt.xs
theorem catP_take {l : List Pt} {i : Nat} {z : Pt} (h : l[i]? = some z) : catP (l.take (i + 1)) = catP (l.take i) ++ z.xs := by
  rw [List.take_add_one, h]; simp [catP]
theorem catP_le (l : List Pt) (i : Nat) : (catP (l.take i)).length ≤ (catP l).length := by
  have : catP l = catP (l.take i) ++ catP (l.drop i) := by simp only [catP, ← List.flatMap_append, List.take_append_drop]
  rw [this, List.length_append]; omega
theorem bjoinN_ok (p : Option Addr) (cap : Nat) (x : Pt) (l : List Pt) (hl0 : l ≠ []) (hcap : l.length + 1 ≤ cap) (w : World) (hp : RdSl w p Pt.v (x :: l)) (hr : ∀ z ∈ x :: l, RdSl w z.p u8V z.xs) (hpos : ∀ z ∈ l, 0 < z.xs.length) (hbig : (catP (x :: l)).length ≤ 1000000) (hk : l.length ≤ 1000000) :
    CallM Tryz.prog 281 [.slice p (l.length + 1) cap, .slice none 0 0] [] w fun v L => ∃ b junk, v = .slice (some ⟨b, 0, none⟩) (catP (x :: l)).length (catP (x :: l)).length ∧ L = [(b, .cells ⟨u8s (catP (x :: l)) ++ junk⟩ 5 (0, 0))] := by
  obtain ⟨n, hn⟩ : ∃ n, n = (catP (x :: l)).length := ⟨_, rfl⟩
  obtain ⟨k, hkk⟩ : ∃ k, k = l.length + 1 := ⟨_, rfl⟩
  have hl1 : 1 ≤ l.length := by cases l with | nil => exact absurd rfl hl0 | cons _ _ => simp
  obtain ⟨A, hA⟩ : ∃ A, A = x :: l := ⟨_, rfl⟩
  have hAl : A.length = k := by rw [hA, hkk]; rfl
  have hx0 : A[0]? = some x := by rw [hA]; rfl
  have hx : RdSl w x.p u8V x.xs := hr x (.head _)
  have hxn : x.xs.length ≤ n := by rw [hn]; simp only [catP, List.flatMap_cons, List.length_append]; omega
  have hle := fun i => catP_le A i
  rw [← hA] at hp hn hbig
  have hsuf := hp.suf Pt.v_len (cap := cap) (i := 1) (by omega) (by omega)
  have hdrop : A.drop 1 = l := by rw [hA]; rfl
  rw [hdrop] at hsuf
  obtain ⟨b1, o1, hpe1, H1⟩ := hp.at hx0
  replace H1 := H1 1 Pt.v_len
  rw [← hkk]
  rw [← hA, ← hn]
  rw [← hn] at hbig hle
  refine enterK (tb := tb) Tryz.func281 rfl Tryz.ntmps281 rfl ?_
  repeat' (first | (apply R.is1; first | (apply R.isBin; (apply R.pure; exact rfl; first | (apply Ok1.gtr_f; exact rfl; exact rfl; omega) | (apply Ok1.eql_f; exact rfl; exact rfl; omega))) | (apply R.isCall; (apply R.pure; exact rfl; (apply Ok1.lenS; (iterate 3 exact rfl)))) | (apply R.pure; exact rfl; first | (apply Ok1.move; exact rfl) | (apply Ok1.assign; exact rfl))) | apply R.nil | (apply T.is; first | apply T.seq | apply T.region | apply T.block | apply T.skip | (apply T.cond_f; exact rfl)))
  apply T.loopK (α := Nat) (I := fun i => i ≤ k) (σi := fun i => [(0, .slice p k cap), (1, .slice none 0 0), (5, .int .i64 ((catP (A.take i)).length : Nat)), (42, .slice p k cap), (43, .int .i64 k), (44, .int .i64 i)]) (Li := fun _ => []) (μ := fun i => k - i) (i0 := 0)
  · exact Nat.zero_le _
  · exact ⟨rfl, rfl, rfl, rfl, rfl, rfl, trivial⟩
  · (focus ((repeat' (exact Keep.nil _)); done))
  · intro i hi
    have hlei := hle i
    rcases Nat.lt_or_ge i k with hlt | hge
    · obtain ⟨z, hz⟩ : ∃ z, A[i]? = some z := ⟨_, List.getElem?_eq_getElem (by omega)⟩
      obtain ⟨b, o, hpe, H⟩ := hp.at hz
      replace H := H 1 Pt.v_len
      have hle2 := hle (i + 1)
      have hsum : ((catP (A.take (i + 1))).length : Int) = ((catP (A.take i)).length : Int) + (z.xs.length : Int) := by rw [catP_take hz, List.length_append]; omega
      repeat' (first | (apply R.is1; first | (apply R.isBin; (apply R.pure; exact rfl; first | (apply Ok1.add64; exact rfl; exact rfl; omega; omega) | (apply Ok1.sub64; exact rfl; exact rfl; omega; omega) | (apply Ok1.lss_t; exact rfl; exact rfl; omega) | (apply Ok1.gtr_f; exact rfl; exact rfl; omega))) | (apply R.isCall; (apply R.pure; exact rfl; (apply Ok1.lenS; (iterate 3 exact rfl)))) | (apply R.pure; exact rfl; first | (apply Ok1.indexAddrP; (iterate 4 exact rfl); exact hpe; exact rfl; omega; omega) | (apply Ok1.load; exact rfl; apply Ld.row0 H; exact rfl; exact List.not_mem_nil; (iterate 3 exact rfl)) | (apply Ok1.move; exact rfl) | (apply Ok1.assign; exact rfl))) | apply R.nil | (apply T.is; first | apply T.seq | apply T.region | apply T.block | apply T.skip | (apply T.cond_t; exact rfl) | (apply T.cond_f; exact rfl)))
      exact ⟨i + 1, by omega, by omega, ⟨rfl, rfl, by rw [hsum]; exact rfl, rfl, rfl, rfl, trivial⟩, by (focus ((repeat' (exact Keep.nil _)); done))⟩
    · have him : k = i := by omega
      subst him
      rw [List.take_of_length_le (by omega), ← hn]
      repeat' (first | (apply R.is1; first | (apply R.isBin; (apply R.pure; exact rfl; (apply Ok1.lss_f; exact rfl; exact rfl; omega))) | (apply R.isCall; first | (apply R.noZero (n := n) nozero_ok; exact rfl; omega; exact rfl; intro b5 cs5 hcs5) | (apply R.copyAll (xs := x.xs) (v := u8V) (o' := 0); (iterate 8 exact rfl); exact u8V_len; (intro w1 hw1; exact hx.chg hw1.chg (Off.nil _)); (rw [fl_u8]; exact u8s_one _); omega; exact rfl; exact Upd.head; (have h := setE_off [] (u8s x.xs) cs5 (by rw [u8s_len]; omega); rw [u8s_len] at h; rw [fl_u8]; exact h)) | (apply R.pure; exact rfl; (apply Ok1.lenS; (iterate 3 exact rfl)))) | (apply R.pure; exact rfl; first | (apply Ok1.indexAddrP; (iterate 4 exact rfl); exact hpe1; exact rfl; omega; omega) | (apply Ok1.load; exact rfl; (apply Ld.row0 H1; exact rfl; exact List.not_mem_nil; (iterate 3 exact rfl))) | (apply Ok1.preM (i := n) (m := n); (iterate 6 exact rfl); omega; omega) | (apply Ok1.sufR (i := 1) (sz := 1); (iterate 6 exact rfl); omega; omega) | (apply Ok1.move; exact rfl) | (apply Ok1.assign; exact rfl))) | apply R.nil | (apply T.is; first | apply T.seq | apply T.region | apply T.block | apply T.exit | (apply T.cond_f; exact rfl)))
      have h1 : catP (A.take 1) = x.xs := by rw [hA]; simp [catP]
      have hk1 : k - 1 = l.length := by omega
      apply T.loopK (α := Nat × List Value) (I := fun y => y.1 ≤ l.length ∧ n ≤ (catP (A.take (y.1 + 1))).length + y.2.length) (σi := fun y => [(1, .slice none 0 0), (8, .slice (some ⟨b5, 0, none⟩) n n), (9, .int .i64 ((catP (A.take (y.1 + 1))).length : Nat)), (70, .slice (sufP p cap 1 1) (k - 1) (cap - 1)), (71, .int .i64 ((k - 1 : Nat) : Int)), (72, .int .i64 y.1)]) (Li := fun y => [(b5, .cells ⟨u8s (catP (A.take (y.1 + 1))) ++ y.2⟩ 5 (0, 0))]) (μ := fun y => l.length - y.1) (i0 := (0, cs5.drop x.xs.length))
      · refine ⟨Nat.zero_le _, ?_⟩
        show n ≤ (catP (A.take 1)).length + _
        rw [h1, List.length_drop]; omega
      · refine ⟨rfl, rfl, ?_, rfl, rfl, rfl, trivial⟩
        show _ = some (Value.int .i64 ((catP (A.take 1)).length : Nat))
        rw [h1]; rfl
      · show Keep _ [(b5, .cells ⟨u8s (catP (A.take 1)) ++ cs5.drop x.xs.length⟩ 5 (0, 0))]
        rw [h1]
        (focus ((repeat' (first | exact Keep.nil _ | exact Ext.one _ _ | apply Keep.cons)); done))
      · rintro ⟨i, rest⟩ ⟨hi, hrest⟩
        simp only at hi hrest ⊢
        rcases Nat.lt_or_ge i l.length with hlt | hge
        · obtain ⟨z, hz⟩ : ∃ z, l[i]? = some z := ⟨_, List.getElem?_eq_getElem (by omega)⟩
          obtain ⟨b, o, hpe, H⟩ := hsuf.at hz
          replace H := H 1 Pt.v_len
          have hzA : A[i + 1]? = some z := by rw [hA]; exact hz
          have hzr : RdSl w z.p u8V z.xs := hr z (.tail _ (List.mem_of_getElem? hz))
          have hz0 : 0 < z.xs.length := hpos z (List.mem_of_getElem? hz)
          have hle2 := hle (i + 2)
          have hcat := catP_take hzA
          have e2 : i + 1 + 1 = i + 2 := rfl
          rw [e2] at hcat
          obtain ⟨D, hD⟩ : ∃ D, D = catP (A.take (i + 1)) := ⟨_, rfl⟩
          rw [← hD] at hcat hrest ⊢
          rw [hcat, List.length_append] at hle2
          repeat' (first | (apply R.is1; first | (apply R.isBin; (apply R.pure; exact rfl; first | (apply Ok1.add64; exact rfl; exact rfl; omega; omega) | (apply Ok1.lss_t; exact rfl; exact rfl; omega))) | (apply R.isCall; first | (apply R.copyAll (xs := ([] : List Int)) (v := u8V) (o' := D.length); (iterate 8 exact rfl); exact u8V_len; (intro w1 hw1; exact .inl rfl); exact rfl; exact Nat.zero_le _; (focus ((simp; done))); exact Upd.head; exact setE_nilO _ _) | (apply R.copyAll (xs := z.xs) (v := u8V) (o' := D.length); (iterate 8 exact rfl); exact u8V_len; (intro w1 hw1; exact hzr.chg hw1.chg (Off.nil _)); (rw [fl_u8]; exact u8s_one _); (focus (omega)); (focus ((simp; done))); exact Upd.head; (have h := setE_off (u8s D) (u8s z.xs) rest (by rw [u8s_len]; omega); rw [u8s_len, u8s_len] at h; rw [fl_u8]; exact h))) | (apply R.pure; exact rfl; first | (apply Ok1.indexAddrP; (iterate 4 exact rfl); exact hpe; exact rfl; omega; omega) | (apply Ok1.load; exact rfl; apply Ld.row0 H; exact rfl; exact List.not_mem_nil; (iterate 3 exact rfl)) | (apply Ok1.move; exact rfl) | (apply Ok1.assign; exact rfl) | (apply Ok1.sliceFrom; (iterate 7 exact rfl); omega; omega; omega; omega; omega; (exact Or.inl rfl)))) | apply R.nil | (apply T.is; first | apply T.seq | apply T.region | apply T.block | apply T.skip | (apply T.cond_t; exact rfl)))
          refine ⟨(i + 1, rest.drop z.xs.length), ⟨by simp only; omega, ?_⟩, by simp only; omega, ⟨rfl, rfl, ?_, rfl, rfl, rfl, trivial⟩, ?_⟩
          · show n ≤ (catP (A.take (i + 2))).length + _
            rw [hcat, List.length_append, List.length_drop]; omega
          · show _ = some (Value.int .i64 ((catP (A.take (i + 2))).length : Nat))
            rw [hcat, List.length_append]
            exact rfl
          · show Keep _ [(b5, .cells ⟨u8s (catP (A.take (i + 2))) ++ rest.drop z.xs.length⟩ 5 (0, 0))]
            rw [hcat, u8s_app, List.append_assoc]
            (focus ((repeat' (first | exact Keep.nil _ | exact Ext.one _ _ | apply Keep.cons)); done))
        · have him : i = l.length := by omega
          subst him
          rw [← hkk, List.take_of_length_le (by omega)]
          repeat' (first | (apply R.is1; first | (apply R.isBin; (apply R.pure; exact rfl; (apply Ok1.lss_f; exact rfl; exact rfl; omega))) | (apply R.pure; exact rfl; first | (apply Ok1.move; exact rfl) | (apply Ok1.assign; exact rfl))) | apply R.nil | (apply T.is; first | apply T.seq | apply T.region | apply T.exit | apply T.ret | (apply T.cond_f; exact rfl)))
          (apply RetOk.t; exact rfl)
          exact ⟨_, by (focus ((repeat' (first | exact Keep.nil _ | exact Ext.one _ _ | apply Keep.cons)); done)), b5, rest, rfl, rfl⟩
end Go.Proofs.YtidjnjlejhoalaaGreat
set_option linter.unusedSimpArgs false
set_option linter.unusedVariables false
namespace Go.Proofs.YtidjnjlejhoalaaGreat
open Go.RowKit Go.Shelf
set_option maxRecDepth 100000
theorem bjoin5_ok (bb : Nat) (X1 X2 X3 X4 X5 : Pt) (TT : List Int) (hT : TT = X1.xs ++ (X2.xs ++ (X3.xs ++ (X4.xs ++ X5.xs)))) (w : World) (hp : RdSl w (some ⟨bb, 0, none⟩) Pt.v [X1, X2, X3, X4, X5]) (h1 : RdSl w X1.p u8V X1.xs) (h2 : RdSl w X2.p u8V X2.xs) (h3 : RdSl w X3.p u8V X3.xs) (h4 : RdSl w X4.p u8V X4.xs) (h5 : RdSl w X5.p u8V X5.xs) (l2 : 0 < X2.xs.length) (l3 : 0 < X3.xs.length) (l4 : 0 < X4.xs.length) (l5 : 0 < X5.xs.length) (hbig : TT.length ≤ 1000000) :
    CallM Tryz.prog 281 [.slice (some ⟨bb, 0, none⟩) 5 5, .slice none 0 0] [] w fun v L => ∃ b junk, v = .slice (some ⟨b, 0, none⟩) TT.length TT.length ∧ L = [(b, .cells ⟨u8s TT ++ junk⟩ 5 (0, 0))] := by
  have e : catP [X1, X2, X3, X4, X5] = TT := by rw [hT]; simp [catP]
  have h := bjoinN_ok (some ⟨bb, 0, none⟩) 5 X1 [X2, X3, X4, X5] (by simp) (by simp) w hp (by simp only [List.mem_cons, List.not_mem_nil, or_false, forall_eq_or_imp, forall_eq]; exact ⟨h1, h2, h3, h4, h5⟩) (by simp only [List.mem_cons, List.not_mem_nil, or_false, forall_eq_or_imp, forall_eq]; exact ⟨l2, l3, l4, l5⟩) (by rw [e]; exact hbig) (by simp)
  rw [e] at h
  exact h
theorem pckE_zero {k : Int} {c : Cl} {to a b : Int} {n : Nat} {t : List Int} (h : pckE k c to a b n t = 0) : (0 < k ∧ k < 15) ∧ c.right ∧ (0 ≤ to ∧ to ≤ 65535) ∧ NR a b ∧ n ≤ 512 ∧ ((k = 1 ∨ k = 2) → t = zI 32) := by
  unfold pckE at h
  by_cases g1 : 0 < k ∧ k < 15
  case neg => rw [if_pos g1] at h; exact absurd h (by decide)
  rw [if_neg (fun g => g g1)] at h
  by_cases g2 : c.right ∧ 0 ≤ to ∧ to ≤ 65535 ∧ NR a b
  case neg => rw [if_pos g2] at h; exact absurd h (by decide)
  rw [if_neg (fun g => g g2)] at h
  by_cases g3 : 512 < n
  · rw [if_pos g3] at h; exact absurd h (by decide)
  rw [if_neg g3] at h
  by_cases g4 : (k = 1 ∨ k = 2) ∧ t ≠ zI 32
  · rw [if_pos g4] at h; exact absurd h (by decide)
  exact ⟨g1, g2.1, ⟨g2.2.1, g2.2.2.1⟩, g2.2.2.2, by omega, fun g => Classical.byContradiction fun g5 => g4 ⟨g, g5⟩⟩
/-- What is tagged of a packet. -/
def pkH (k : Int) (c : Cl) (to a b : Int) (body : List Int) : List Int := numI 0 k ++ (clI c ++ (numI 1 to ++ (nbI a b ++ (numI 1 body.length ++ body))))
theorem pkH_len (k : Int) (c : Cl) (to a b : Int) (body : List Int) : (pkH k c to a b body).length = 20 + body.length := by
  have h1 : (numI 0 k).length = 1 := rfl
  have h2 : (numI 1 to).length = 2 := rfl
  have h3 : (nbI a b).length = 6 := rfl
  have h4 : (numI 1 body.length).length = 2 := rfl
  simp only [pkH, List.length_append, clI_len, h1, h2, h3, h4]; omega
theorem phead_ok (k : Int) (c : Cl) (to a b : Int) (p : Option Addr) (n cap : Nat) (t : List Int) (body : List Int) (ht : t.length = 32) (hE : pckE k c to a b n t = 0) (hn : n = body.length) (w : World) (hb : RdSl w p u8V body) :
    CallM Tryz.prog 228 [.agg ⟨pkC k c to a b p n cap t⟩] [] w fun v L => ∃ bj junk, v = .tuple #[.slice (some ⟨bj, 0, none⟩) (pkH k c to a b body).length (pkH k c to a b body).length, .int .i64 0] ∧ L = [(bj, .cells ⟨u8s (pkH k c to a b body) ++ junk⟩ 5 (0, 0))] := by
  obtain ⟨g1, g2, g3, g4, g5, g6⟩ := pckE_zero hE
  have hck := pcheck_ok k c to a b p n cap t ht
  rw [hE] at hck
  have htag := pk_tag k c to a b p n cap ht
  have hcb := fun w1 => clBytes_ok c g2 w1
  have hnb := fun w1 => wnbytes_ok a b g4 w1
  have hf1 : Fits 0 k := by unfold Fits; omega
  have hf2 : Fits 1 to := by unfold Fits; omega
  have hn1 := fun bw bl fz e w1 => number1_ok bw none [] (OvOk.start 1) 0 k hf1 (by decide) bl fz e w1
  have hn2 := fun bw bl fz e w1 => number1_ok bw none [] (OvOk.start 1) 1 to hf2 (by decide) bl fz e w1
  have hn3 := fun bw bl fz e w1 h1 h2 (hc : Chg [] w w1) h3 => wbytes1_ok bw none [] (OvOk.start 1) p n cap body hn g5 (by decide) bl fz e w1 h1 h2 (hb.chg hc (Off.nil _)) h3
  have hout := fun (bw : Nat) (ov : Ov) (B : List Int) (hov : OvOk 1 ov B.length (u8s B)) (hB : B.length ≤ 1000) L w1 (h1 : Hp w [] L w1) (h2 : ∀ z ∈ WL bw ov B, z ∈ L) => wout_ok bw ov B hov (by omega) w1 (h1.get _ _ (h2 _ List.mem_cons_self)) (rdown hov h1 fun z hz => h2 z (List.mem_cons_of_mem _ hz))
  obtain ⟨B1, hB1⟩ : ∃ B, B = [] ++ numI 0 k := ⟨_, rfl⟩
  obtain ⟨B2, hB2⟩ : ∃ B, B = [] ++ numI 1 to := ⟨_, rfl⟩
  obtain ⟨B3, hB3⟩ : ∃ B, B = [] ++ (numI 1 n ++ body) := ⟨_, rfl⟩
  have hl1 : B1.length = 1 := by rw [hB1]; rfl
  have hl2 : B2.length = 2 := by rw [hB2]; rfl
  have hl3 : B3.length = 2 + n := by rw [hB3, List.nil_append, List.length_append, hn]; rfl
  obtain ⟨TT, hT⟩ : ∃ TT, TT = pkH k c to a b body := ⟨_, rfl⟩
  have hTe : TT = B1 ++ (clI c ++ (B2 ++ (nbI a b ++ B3))) := by rw [hT, hB1, hB2, hB3, hn]; rfl
  have hTl : TT.length = 20 + n := by rw [hT, pkH_len, hn]
  rw [← hB1] at hn1
  rw [← hB2] at hn2
  rw [← hB3] at hn3
  rw [← hT]
  have hj := fun bb p1 c1 p2 c2 p3 c3 p4 c4 p5 c5 w1 => bjoin5_ok bb ⟨p1, c1, B1⟩ ⟨p2, c2, clI c⟩ ⟨p3, c3, B2⟩ ⟨p4, c4, nbI a b⟩ ⟨p5, c5, B3⟩ TT hTe w1
  clear hB1 hB2 hB3 hT hTe hE
  refine enterK (tb := tb) Tryz.func228 rfl Tryz.ntmps228 rfl ?_
  have hpl := pk_len k c to a b p n cap ht
  simp only [pkC] at htag hck hpl ⊢
  generalize hCL : clI c = CL at *
  have hcl : CL.length = 9 := by rw [← hCL]; rfl
  generalize hNB : nbI a b = NB at *
  have hnl : NB.length = 6 := by rw [← hNB]; rfl
  repeat' (first | (apply R.is1; first | (apply R.isBin; (apply R.pure; exact rfl; (apply Ok1.neq_f; exact rfl; exact rfl; omega))) | (apply R.isCall; first | apply R.callP rfl rfl rfl hck | (apply R.callE (vs := [kvC c]); (iterate 3 exact rfl); exact Ext.none _; intro w1 hw1; exact hcb w1; rintro v Lo ⟨ovcl, hovcl, rfl, rfl⟩; rw [slV_eq hovcl]) | (apply R.callE (vs := [.agg ⟨[.int .i64 a, .int .i64 b]⟩]); (iterate 3 exact rfl); exact Ext.none _; intro w1 hw1; exact hnb w1; rintro v Lo ⟨ovn, hovn, rfl, rfl⟩; rw [slV_eq hovn])) | (apply R.pure; exact rfl; first | (apply Ok1.load; exact rfl; first | (apply Ld.own1; exact rfl; exact rfl; (focus ((repeat' (first | exact At.head | apply At.tail | apply At.right)); done)); exact rfl) | (apply Ld.ownk; exact rfl; exact rfl; (focus ((repeat' (first | exact At.head | apply At.right)); done)); exact rfl) | (apply Ld.ownk; exact rfl; exact rfl; exact At.head; exact subE_all hpl)) | (apply Ok1.move; exact rfl) | (apply Ok1.fieldAddr; (iterate 5 exact rfl)) | (apply Ok1.assign; exact rfl) | (apply Ok1.extract; exact rfl; exact rfl)) | (apply R.box; (iterate 3 exact rfl); intro) | (apply R.alloc; (iterate 3 exact rfl); intro) | (apply R.buildSlice; (iterate 12 exact rfl); intro)) | apply R.nil | (apply T.is; first | apply T.seq | apply T.region | apply T.skip | (apply T.cond_f; exact rfl)))
  rename_i bw1 bw2 bw3 bl1
  repeat' ((apply R.is1; (apply R.isCall; (apply R.callE (Li := [(bw1, .cells ⟨[.slice none 0 0, .int .i64 0]⟩ 325 (0, 0))]) (vs := [.pointer (some ⟨bw1, 0, none⟩), .int .i64 0, .slice (some ⟨bl1, 0, none⟩) 1 1]); (iterate 3 exact rfl); (focus ((repeat' (first | exact Ext.one _ _ | apply Ext.cons)); done)); intro w1 hw1; exact hn1 bw1 bl1 _ _ w1 (hw1.get _ _ List.mem_cons_self) (RdSl.off hw1 (by (focus ((repeat' (first | exact Ext.one _ _ | apply Ext.cons)); done))) List.mem_cons_self); rintro x Lo ⟨ov1, rfl, hov1, rfl⟩))))
  have h1 := hout bw1 ov1 B1 hov1 (by omega)
  generalize WL bw1 ov1 B1 = W1 at h1 ⊢
  repeat' (first | (apply R.is1; first | (apply R.isCall; (apply R.callE (vs := [.pointer (some ⟨bw1, 0, none⟩)]); (iterate 3 exact rfl); exact Ext.none _; intro w1 hw1; exact h1 _ w1 hw1 (Ext.mem (by (focus ((repeat' (exact Ext.here _ _)); done)))); rintro x Lo ⟨ovx1, hovx1, rfl, rfl⟩; rw [slV_eq hovx1])) | (apply R.pure; exact rfl; first | (apply Ok1.load; exact rfl; (apply Ld.own1; exact rfl; exact rfl; (focus ((repeat' (first | exact At.head | apply At.tail | apply At.right)); done)); exact rfl)) | (apply Ok1.move; exact rfl) | (apply Ok1.fieldAddr; (iterate 5 exact rfl)) | (apply Ok1.assign; exact rfl) | (apply Ok1.extract; exact rfl; exact rfl)) | (apply R.buildSlice; (iterate 12 exact rfl); intro)) | apply R.nil | (apply T.is; first | apply T.seq | apply T.region))
  rename_i bl2
  repeat' ((apply R.is1; (apply R.isCall; (apply R.callE (Li := [(bw2, .cells ⟨[.slice none 0 0, .int .i64 0]⟩ 325 (0, 0))]) (vs := [.pointer (some ⟨bw2, 0, none⟩), .int .i64 1, .slice (some ⟨bl2, 0, none⟩) 1 1]); (iterate 3 exact rfl); (focus ((repeat' (first | exact Ext.one _ _ | apply Ext.cons | apply Ext.app)); done)); intro w1 hw1; exact hn2 bw2 bl2 _ _ w1 (hw1.get _ _ List.mem_cons_self) (RdSl.off hw1 (by (focus ((repeat' (first | exact Ext.one _ _ | apply Ext.cons | apply Ext.app)); done))) List.mem_cons_self); rintro x Lo ⟨ov2, rfl, hov2, rfl⟩))))
  have h2 := hout bw2 ov2 B2 hov2 (by omega)
  generalize WL bw2 ov2 B2 = W2 at h2 ⊢
  repeat' (first | (apply R.is1; first | (apply R.isCall; (apply R.callE (vs := [.pointer (some ⟨bw2, 0, none⟩)]); (iterate 3 exact rfl); exact Ext.none _; intro w1 hw1; exact h2 _ w1 hw1 (Ext.mem (by (focus ((repeat' (exact Ext.here _ _)); done)))); rintro x Lo ⟨ovx2, hovx2, rfl, rfl⟩; rw [slV_eq hovx2])) | (apply R.pure; exact rfl; first | (apply Ok1.load; exact rfl; (apply Ld.own1; exact rfl; exact rfl; (focus ((repeat' (first | exact At.head | apply At.tail | apply At.right)); done)); exact rfl)) | (apply Ok1.move; exact rfl) | (apply Ok1.fieldAddr; (iterate 5 exact rfl)) | (apply Ok1.assign; exact rfl) | (apply Ok1.extract; exact rfl; exact rfl)) | (apply R.buildSlice; (iterate 12 exact rfl); intro)) | apply R.nil | (apply T.is; first | apply T.seq | apply T.region))
  rename_i bl3
  repeat' ((apply R.is1; (apply R.isCall; (apply R.callE (Li := [(bw3, .cells ⟨[.slice none 0 0, .int .i64 0]⟩ 325 (0, 0))]) (vs := [.pointer (some ⟨bw3, 0, none⟩), .slice (some ⟨bl3, 0, none⟩) 1 1]); (iterate 3 exact rfl); (focus ((repeat' (first | exact Ext.one _ _ | apply Ext.cons | apply Ext.app)); done)); intro w1 hw1; exact hn3 bw3 bl3 _ _ w1 (hw1.get _ _ List.mem_cons_self) (RdSl.off hw1 (by (focus ((repeat' (first | exact Ext.one _ _ | apply Ext.cons | apply Ext.app)); done))) List.mem_cons_self) hw1.chg (hb.old u8V_len (Nat.le_refl _) (fun _ => Off.nil _) hw1 (by (focus ((repeat' (first | exact Ext.one _ _ | apply Ext.cons | apply Ext.app)); done)))); rintro x Lo ⟨ov3, rfl, hov3, rfl⟩))))
  have h3 := hout bw3 ov3 B3 hov3 (by omega)
  generalize WL bw3 ov3 B3 = W3 at h3 ⊢
  repeat' (first | (apply R.is1; first | (apply R.isCall; (apply R.callE (vs := [.pointer (some ⟨bw3, 0, none⟩)]); (iterate 3 exact rfl); exact Ext.none _; intro w1 hw1; exact h3 _ w1 hw1 (Ext.mem (by (focus ((repeat' (exact Ext.here _ _)); done)))); rintro x Lo ⟨ovx3, hovx3, rfl, rfl⟩; rw [slV_eq hovx3])) | (apply R.pure; exact rfl; first | (apply Ok1.move; exact rfl) | (apply Ok1.assign; exact rfl) | (apply Ok1.extract; exact rfl; exact rfl)) | (apply R.buildSlice; (iterate 12 exact rfl); intro)) | apply R.nil | (apply T.is; first | apply T.seq | apply T.region))
  repeat' (first | (apply R.is1; first | (apply R.isCall; (apply R.callE; (iterate 3 exact rfl); exact Ext.none _; intro w1 hw1; exact hj _ (ovp ovx1) (ovc ovx1 B1.length) (ovp ovcl) (ovc ovcl 9) (ovp ovx2) (ovc ovx2 B2.length) (ovp ovn) (ovc ovn 6) (ovp ovx3) (ovc ovx3 B3.length) w1 (RdSl.of (v := Pt.v) (rs := [⟨ovp ovx1, ovc ovx1 B1.length, B1⟩, ⟨ovp ovcl, ovc ovcl 9, CL⟩, ⟨ovp ovx2, ovc ovx2 B2.length, B2⟩, ⟨ovp ovn, ovc ovn 6, NB⟩, ⟨ovp ovx3, ovc ovx3 B3.length, B3⟩]) (junk := []) hw1 .head (by simp [Pt.v, fl, hcl, hnl])) (RdSl.own' hw1 (Ext.mem (by rw [fl_u8]; (focus ((repeat' (first | exact Ext.here _ _ | apply Ext.cons | apply Ext.app)); done)))) (by rw [fl_u8]; exact hovx1) u8V_len) (RdSl.own' hw1 (Ext.mem (by rw [fl_u8]; (focus ((repeat' (first | exact Ext.here _ _ | apply Ext.cons | apply Ext.app)); done)))) (by rw [fl_u8]; exact (hcl.symm ▸ hovcl)) u8V_len) (RdSl.own' hw1 (Ext.mem (by rw [fl_u8]; (focus ((repeat' (first | exact Ext.here _ _ | apply Ext.cons | apply Ext.app)); done)))) (by rw [fl_u8]; exact hovx2) u8V_len) (RdSl.own' hw1 (Ext.mem (by rw [fl_u8]; (focus ((repeat' (first | exact Ext.here _ _ | apply Ext.cons | apply Ext.app)); done)))) (by rw [fl_u8]; exact (hnl.symm ▸ hovn)) u8V_len) (RdSl.own' hw1 (Ext.mem (by rw [fl_u8]; (focus ((repeat' (first | exact Ext.here _ _ | apply Ext.cons)); done)))) (by rw [fl_u8]; exact hovx3) u8V_len) (by show 0 < CL.length; omega) (by show 0 < B2.length; omega) (by show 0 < NB.length; omega) (by show 0 < B3.length; omega) (by omega); rintro x Lo ⟨bj, junk, rfl, rfl⟩)) | (apply R.pure; exact rfl; first | (apply Ok1.move; exact rfl) | (apply Ok1.assign; exact rfl))) | apply R.nil | (apply T.is; apply T.ret))
  (apply RetOk.tt; exact rfl; exact rfl)
  exact ⟨_, by (focus ((repeat' (first | exact Keep.nil _ | exact Ext.one _ _ | apply Keep.cons)); done)), bj, junk, rfl, rfl⟩
end Go.Proofs.YtidjnjlejhoalaaGreat
set_option linter.unusedSimpArgs false
set_option linter.unusedVariables false
namespace Go.Proofs.YtidjnjlejhoalaaGreat
open Go.RowKit Go.Shelf
set_option maxRecDepth 100000
section
variable {X : Cx} {σ : Env} {L : Lst} {dd : Nat} {ty : TypeId} {pos : String} {af : Array Edge} {x y : Operand} {t t2 e : TypeId} {r r2 re : TRow} {all : Array Oper} {rest : List Oper} {K : Env → Lst → Prop}
theorem append_grow {P : Program} (tb : Tb P) (ht : tb.row t = some r) (hk : r.k = .slice e) (he : tb.row e = some re) {zc : List Value} (hz : cellsE re.zero = some zc) (hzl : zc.length = re.size) (ht2 : tb.row t2 = some r2) {e2 : Nat} (hk2 : r2.k = .slice e2)
    {w0 w : World} {S : List Nat} {base : Option Addr} {s2 : Value} {n m cap : Nat} {old news : List Value} (hw : Hp w0 S L w) (hold : Holds w (.slice base n cap) old) (hlo : old.length = n * re.size) (hc2 : cap < n + m) (hs2 : Builtin.lenOf s2 = Pure.pure m) (hn2 : Holds w s2 news) (hlen : news.length = m * re.size)
    (hbig : (2 * (n + m) + 768) * re.bytes ≤ 281474976710656) (hb1 : 1 ≤ re.bytes) :
    ∃ b' j' junk' w', junk'.length = j' * re.size ∧ (Builtin.append_ #[t, t2] ty #[.slice base n cap, s2]).run P w = .ok (.slice (some ⟨b', 0, none⟩) (n + m) (n + m + j')) w' ∧ Hp w0 S ((b', .cells ⟨old ++ news ++ junk'⟩ e (0, 0)) :: L) w' := by
  have hu : P.underlying t = some (.slice e) := by have := (tb.get ht).is; rw [hk] at this; exact this
  have hu2 : P.underlying t2 = some (.slice e2) := by have := (tb.get ht2).is; rw [hk2] at this; exact this
  have hbytes : ∃ i, P.info? e = some i ∧ i.bytes = re.bytes := by
    have := (tb.get he).bytes
    cases h : P.info? e with
    | none => rw [h] at this; cases this
    | some i => rw [h] at this; exact ⟨i, rfl, by simpa using this⟩
  obtain ⟨i, hi, hib⟩ := hbytes
  have hti : ∀ w, (typeInfo e).run P w = .ok i w := fun w => by simp [typeInfo, hi]
  have hzc := cellsE_eq hz
  have hnx := nextcap_le (n + m) cap (by omega)
  have hnb : ¬ Builtin.nextslicecap (n + m) cap * re.bytes > 2 ^ 48 := by
    have := Nat.mul_le_mul_right re.bytes hnx
    have : (2 : Nat) ^ 48 = 281474976710656 := by decide
    omega
  have hold' : Holds w.drew (.slice base n cap) old := hold
  have hnew' : Holds w.drew s2 news := hn2
  obtain ⟨q, hq⟩ : ∃ q, (Question.appendCap (n + m) cap e).cut (w.tape w.drawn (.appendCap (n + m) cap e)) = n + m + q := ⟨_, rfl⟩
  refine ⟨w.heap.size, q, (Builtin.zeroCells (zeroCellsOf re) q).toList, w.drew.alloc (.cells ⟨old ++ news ++ (Builtin.zeroCells (zeroCellsOf re) q).toList⟩ e (0, 0)), ?_, ?_, ?_⟩
  · simp [zeroCells_size, zeroCellsOf, hzc, hzl]
  · have harr : (Array.mk old ++ Array.mk news ++ Builtin.zeroCells re.zero.cells (n + m + q - (n + m)) : Array Value) = ⟨old ++ news ++ (Builtin.zeroCells (zeroCellsOf re) q).toList⟩ := by
      apply Array.toList_inj.1
      simp [zeroCellsOf]
    have hf1 := first_run (P := P) hold' hlo
    have hf2 := first_run (P := P) hnew' hlen
    unfold Builtin.append_
    simp only [List.getElem?_toArray, List.getElem?_cons_zero, List.getElem?_cons_succ, Sem.run_bind, run_underlying hu, run_underlying hu2, Result.andThen_ok, (tb.get he).size, Sem.run_pure, Bool.false_eq_true, if_false, hs2, Bool.not_false, if_true,
      show ¬ n + m ≤ cap by omega, hti, hib, Sem.run_ite, show ¬ re.bytes = 0 by omega, or_false, and_false, false_or, hnb, run_choose, Question.forced, hq, run_askRoom, World.drew_eq, hf1, hf2, (tb.get he).zero, newRow, run_newObj, harr]
    rfl
  · exact (hw.step (Chg.drew [] w)).alloc _
/-- append to a slice without room: a new row. -/
theorem R.appendNew {α : Type} {v : α → List Value} {xs ys : List α} {n m cap cap2 : Nat} {p p2 : Option Addr} {e2 : Nat} {zc : List Value} (hn : Nat.blt dd X.n = true) (ht : X.tb.row t = some r) (hk : r.k = .slice e) (he : X.tb.row e = some re) (hz : cellsE re.zero = some zc) (hzl : zc.length = re.size) (ht2 : X.tb.row t2 = some r2) (hk2 : r2.k = .slice e2) (hb1 : Nat.ble 1 re.bytes = true) (hb2 : Nat.ble re.bytes 65536 = true)
    (hx : ev σ x = some (.slice p n cap)) (hy : ev σ y = some (.slice p2 m cap2)) (hv : ∀ a, (v a).length = 1) (hs : re.size = 1) (hxn : n = xs.length) (hym : m = ys.length) (hne : xs ≠ []) (hne2 : ys ≠ []) (hc : cap < n + m)
    (hh : ∀ w, Hp X.w0 X.S L w → RdSl w p v xs) (hh2 : ∀ w, Hp X.w0 X.S L w → RdSl w p2 v ys) (hbig : n + m ≤ 1073741824)
    (h : ∀ ov', OvOk re.size ov' (n + m) (fl v xs ++ fl v ys) → ov'.isSome = true → R X all rest K ((dd, slV ov' (n + m)) :: σ) (blkL e ov' (fl v xs ++ fl v ys) ++ L)) :
    R X all (⟨some dd, .call { callee := .builtin .append, args := #[x, y], argTypes := #[t, t2] }, ty, pos, af, none⟩ :: rest) K σ L :=
  R.value rfl rfl hn fun a w ha hw => by
    have h3 := Nat.le_of_ble_eq_true hb2
    have hl1 : (fl v xs).length = n * re.size := by rw [fl_len hv, hs, hxn]
    have hl2 : (fl v ys).length = m * re.size := by rw [fl_len hv, hs, hym]
    obtain ⟨b', j', junk', w', g1, g2, g3⟩ := append_grow X.tb (ty := ty) ht hk he hz hzl ht2 hk2 hw (((hh w hw).holds hne) : Holds w (.slice p n cap) _) hl1 hc rfl (((hh2 w hw).holds hne2) : Holds w (.slice p2 m cap2) _) hl2 (Nat.le_trans (Nat.mul_le_mul (show 2 * (n + m) + 768 ≤ 2147484416 by omega) h3) (by decide)) (Nat.le_of_ble_eq_true hb1)
    refine ⟨slV (some (b', j', junk')) (n + m), w', _, ?_, g3, h (some (b', j', junk')) ⟨by rw [List.length_append, hl1, hl2, Nat.add_mul], g1⟩ rfl⟩
    simp [execOp, resolve, ha.ev hx, ha.ev hy, invoke, builtin, g2, slV]
end
/-- A packet's bytes. -/
def pkB (k : Int) (c : Cl) (to a b : Int) (body t : List Int) : List Int := pkH k c to a b body ++ t
theorem pkB_len (k : Int) (c : Cl) (to a b : Int) (body : List Int) {t : List Int} (ht : t.length = 32) : (pkB k c to a b body t).length = 52 + body.length := by
  rw [pkB, List.length_append, pkH_len, ht]; omega
theorem pbytes_ok (k : Int) (c : Cl) (to a b : Int) (p : Option Addr) (n cap : Nat) (t : List Int) (body : List Int) (ht : t.length = 32) (hE : pckE k c to a b n t = 0) (hn : n = body.length) (w : World) (hb : RdSl w p u8V body) :
    CallM Tryz.prog 157 [.agg ⟨pkC k c to a b p n cap t⟩] [] w fun v L => ∃ ov, OvOk 1 ov (pkB k c to a b body t).length (u8s (pkB k c to a b body t)) ∧ v = .tuple #[slV ov (pkB k c to a b body t).length, .int .i64 0] ∧ L = blkL 5 ov (u8s (pkB k c to a b body t)) := by
  have hh := fun w1 (hc : Chg [] w w1) => phead_ok k c to a b p n cap t body ht hE hn w1 (hb.chg hc (Off.nil _))
  have hl := pkH_len k c to a b body
  have hbl := (pckE_zero hE).2.2.2.2.1
  have hpl := pk_len k c to a b p n cap ht
  have hpB : u8s (pkB k c to a b body t) = u8s (pkH k c to a b body) ++ u8s t := u8s_app _ _
  have hpBl : (pkB k c to a b body t).length = (pkH k c to a b body).length + 32 := by rw [pkB, List.length_append, ht]
  rw [hpB, hpBl]
  generalize hHH : pkH k c to a b body = HH at *
  have hne : HH ≠ [] := by rintro rfl; simp at hl; omega
  have hnt : t ≠ [] := by rintro rfl; cases ht
  clear hpB hpBl hHH hE
  refine enterK (tb := tb) Tryz.func157 rfl Tryz.ntmps157 rfl ?_
  simp only [pkC] at hh hpl ⊢
  repeat' (first | (apply R.is1; first | (apply R.isBin; (apply R.pure; exact rfl; (apply Ok1.neq_f; exact rfl; exact rfl; omega))) | (apply R.isCall; first | (apply R.callE; (iterate 3 exact rfl); exact Ext.none _; intro w1 hw1; exact hh w1 hw1.chg; rintro v Lo ⟨bj, junk, rfl, rfl⟩) | (apply R.appendNew (xs := HH) (ys := t) (v := u8V) (n := HH.length) (m := 32); (iterate 12 exact rfl); exact u8V_len; exact rfl; exact rfl; exact ht.symm; exact hne; exact hnt; omega; (intro w1 hw1; exact RdSl.of hw1 (by exact At.head) (by rw [fl_u8])); (intro w1 hw1; exact RdSl.mid (pre := [.int .i64 k, .int .i64 c.id, .int .i64 c.roles, .int .i64 c.exp, .int .i64 c.ser, .int .i64 to, .int .i64 a, .int .i64 b, .slice p n cap]) (junk := []) hw1 (by rw [List.append_nil]; (focus ((repeat' (first | exact At.head | apply At.tail)); done))) rfl); omega; intro ov1 hov1 hs1; rw [fl_u8, fl_u8]; rw [fl_u8, fl_u8] at hov1)) | (apply R.pure; exact rfl; first | (apply Ok1.load; exact rfl; (apply Ld.ownk; exact rfl; exact rfl; exact At.head; exact subE_all hpl)) | (apply Ok1.sliceArr; (iterate 4 exact rfl)) | (apply Ok1.move; exact rfl) | (apply Ok1.fieldAddr; (iterate 5 exact rfl)) | (apply Ok1.assign; exact rfl) | (apply Ok1.extract; exact rfl; exact rfl)) | (apply R.box; (iterate 3 exact rfl); intro)) | apply R.nil | (apply T.is; first | apply T.seq | apply T.region | apply T.skip | apply T.ret | (apply T.cond_f; exact rfl)))
  (apply RetOk.tt; exact rfl; exact rfl)
  exact ⟨_, by (focus ((repeat' (first | exact Ext.here _ _ | apply Keep.last)); done)), ov1, hov1, rfl, rfl⟩
end Go.Proofs.YtidjnjlejhoalaaGreat
set_option linter.unusedSimpArgs false
set_option linter.unusedVariables false
namespace Go.Proofs.YtidjnjlejhoalaaGreat
open Go.RowKit Go.Shelf
set_option maxRecDepth 100000
theorem cat1 (p : Option Addr) (cap : Nat) (xs : List Int) : cat [⟨p, cap, xs⟩] = xs := by simp [cat]
theorem pckE_np {k : Int} {c : Cl} {to a b : Int} {n : Nat} (t t2 : List Int) (h : ¬ (k = 1 ∨ k = 2)) : pckE k c to a b n t = pckE k c to a b n t2 := by
  unfold pckE
  rw [if_neg (c := (k = 1 ∨ k = 2) ∧ t ≠ zI 32) (fun g => h g.1), if_neg (c := (k = 1 ∨ k = 2) ∧ t2 ≠ zI 32) (fun g => h g.1)]
theorem pkH_byt (k : Int) (c : Cl) (to a b : Int) {body : List Int} (h : Byt body) : Byt (pkH k c to a b body) :=
  Byt.app (num_byt _ _) (Byt.app (clI_byt _) (Byt.app (num_byt _ _) (Byt.app (Byt.app (Byt.app byt_nil (num_byt _ _)) (num_byt _ _)) (Byt.app (num_byt _ _) h))))
/-- A packet's tag. -/
def pkT (key : List Int) (k : Int) (c : Cl) (to a b : Int) (body : List Int) : List Int := hmacI key (pkH k c to a b body)
theorem ptagged_ok (k : Int) (c : Cl) (to a b : Int) (p : Option Addr) (n cap : Nat) (t : List Int) (body : List Int) (ht : t.length = 32) (hp : ¬ (k = 1 ∨ k = 2)) (hE : pckE k c to a b n t = 0) (hn : n = body.length) (hbb : Byt body) (bk : Nat) (key : List Int) (hkl : key.length ≤ 999999000) (hkb : Byt key) (w : World) (hK : KeyR w bk key) (hb : RdSl w p u8V body) :
    CallM Tryz.prog 156 [.agg ⟨pkC k c to a b p n cap t⟩, .pointer (some ⟨bk, 0, none⟩)] [] w fun v L => ∃ ov, OvOk 1 ov n (u8s body) ∧ v = .tuple #[.agg ⟨pkC k c to a b (ovp ov) n (ovc ov n) (pkT key k c to a b body)⟩, .int .i64 0] ∧ L = blkL 5 ov (u8s body) := by
  have hz : (zI 32).length = 32 := rfl
  have hE0 : pckE k c to a b n (zI 32) = 0 := by rw [pckE_np (zI 32) t hp]; exact hE
  have hn5 : n ≤ 512 := (pckE_zero hE).2.2.2.2.1
  have hh := fun w1 (hc : Chg [] w w1) => phead_ok k c to a b p n cap (zI 32) body hz hE0 hn w1 (hb.chg hc (Off.nil _))
  have hpl := pplain_ok k
  rw [decide_eq_false hp] at hpl
  have hcl := fun w1 (hc : Chg [] w w1) => clone_ok p n cap body hn (by omega) w1 (hb.chg hc (Off.nil _))
  have hHl := pkH_len k c to a b body
  have hHb := pkH_byt k c to a b hbb
  have htg := fun pp c2 (x : Pt) w1 (hx : x.xs = pkH k c to a b body) (hc : Chg [] w w1) (h1 : RdSl w1 pp Pt.v [x]) (h2 : RdSl w1 x.p u8V x.xs) => ktag_ok bk key hkl hkb pp 1 c2 [x] rfl (by rw [cat1, hx]; exact hHb) (by rw [cat1, hx, hHl]; omega) (by decide) w1 (hK.chg hc) h1 (by simp only [List.mem_cons, List.not_mem_nil, or_false, forall_eq]; exact h2)
  have htl : (pkT key k c to a b body).length = 32 := by unfold pkT; exact hmac_len _ _
  have htd : ∀ x : Pt, x.xs = pkH k c to a b body → hmacI key (cat [x]) = pkT key k c to a b body := fun x hx => by rw [cat1, hx]; rfl
  have hs1 := pk_set k c to a b p n cap ht hz
  have hl0 := pk_len k c to a b p n cap hz
  have hl1 := fun p2 cap2 => pk_len k c to a b p2 n cap2 htl
  have ho1 := fun p2 cap2 => pk_one k c to a b p2 n cap2 (pkT key k c to a b body)
  have hs2 := fun p2 cap2 => pk_set k c to a b p2 n cap2 hz htl
  generalize pkT key k c to a b body = TG at *
  generalize pkH k c to a b body = HH at *
  have htl2 : (u8s TG).length = 32 := by rw [u8s_len, htl]
  refine enterK (tb := tb) Tryz.func156 rfl Tryz.ntmps156 rfl ?_
  simp only [pkC] at hh hl0 hl1 ho1 hs1 hs2 ⊢
  repeat' (first | (apply R.is1; first | (apply R.isBin; (apply R.pure; exact rfl; first | (apply Ok1.eqlP; (iterate 5 exact rfl)) | (apply Ok1.neq_f; exact rfl; exact rfl; omega))) | (apply R.isCall; first | apply R.callP rfl rfl rfl hpl | (apply R.callE (vs := [.agg _]); (iterate 3 exact rfl); exact Ext.none _; intro w1 hw1; exact hh w1 hw1.chg; rintro v Lo ⟨bj, junk, rfl, rfl⟩) | (apply R.callE (vs := [.slice p n cap]); (iterate 3 exact rfl); exact Ext.none _; intro w1 hw1; exact hcl w1 hw1.chg; rintro v Lo ⟨ov1, hov1, hso1, rfl, rfl⟩; rw [slV_eq hov1]) | (apply R.callW (vs := [.pointer (some ⟨bk, 0, none⟩), .slice _ 1 1]); (iterate 3 exact rfl); intro w1 hw1; exact htg _ _ ⟨some ⟨bj, 0, none⟩, HH.length, HH⟩ w1 rfl hw1.chg (RdSl.of (v := Pt.v) (rs := [⟨some ⟨bj, 0, none⟩, HH.length, HH⟩]) (junk := []) hw1 .head rfl) (RdSl.of hw1 (by (focus ((repeat' (first | exact At.head | apply At.tail | apply At.right)); done))) (by rw [fl_u8])); intro v hv; rw [htd _ rfl] at hv; subst hv)) | (apply R.pure; exact rfl; first | (apply Ok1.load; exact rfl; first | (apply Ld.own1; exact rfl; exact rfl; (focus ((repeat' (first | exact At.head | apply At.tail)); done)); exact rfl) | (apply Ld.ownk; exact rfl; exact rfl; (focus ((repeat' (first | exact At.head | apply At.tail | apply At.right)); done)); exact rfl) | (apply Ld.ownk; exact rfl; exact rfl; (focus ((repeat' (first | exact At.head | apply At.tail | apply At.right)); done)); exact subE_all (hl1 _ _))) | (apply Ok1.move; exact rfl) | (apply Ok1.fieldAddr; (iterate 5 exact rfl)) | (apply Ok1.assign; exact rfl) | (apply Ok1.extract; exact rfl; exact rfl) | (apply Ok1.buildA; (iterate 6 exact rfl))) | (apply R.box; (iterate 3 exact rfl); intro) | (apply R.alloc; (iterate 3 exact rfl); intro) | (apply R.buildSlice; (iterate 12 exact rfl); intro)) | (apply R.is0; first | (apply R.store; (iterate 6 exact rfl); (focus ((repeat' (first | exact Upd.head | apply Upd.tail | apply Upd.right)); done)); exact hs1) | (apply R.store; (iterate 4 exact rfl); exact htl2; exact u8s_one _; (focus ((repeat' (first | exact Upd.head | apply Upd.tail | apply Upd.right)); done)); exact hs2 _ _) | (apply R.store; (iterate 4 exact rfl); exact (hl1 _ _); exact (ho1 _ _); (focus ((repeat' (first | exact Upd.head | apply Upd.tail | apply Upd.right)); done)); exact setE_all (hl1 _ _)) | (apply R.store; (iterate 6 exact rfl); (focus ((repeat' (first | exact Upd.head | apply Upd.tail | apply Upd.right)); done)); exact rfl)) | apply R.nil | (apply T.is; first | apply T.seq | apply T.region | apply T.block | apply T.skip | apply T.ret | (apply T.cond_f; exact rfl)))
  (apply RetOk.ct; exact rfl; (apply Ld.ownk; exact rfl; exact rfl; (focus ((repeat' (first | exact At.head | apply At.tail | apply At.right)); done)); exact subE_all (hl1 _ _)); exact rfl)
  exact ⟨_, by (focus ((repeat' (first | exact Ext.here _ _ | apply Keep.last | apply Ext.cons)); done)), ov1, hov1, rfl, rfl⟩
end Go.Proofs.YtidjnjlejhoalaaGreat
set_option linter.unusedSimpArgs false
set_option linter.unusedVariables false
namespace Go.Proofs.YtidjnjlejhoalaaGreat
open Go.RowKit Go.Shelf
set_option maxRecDepth 100000
theorem rown_ok (br : Nat) (c : Cl) (s : List Int) (hs : s.length = 32) (m1 m2 : Nat) (e : TypeId) (w : World) (hb : w.heap[br]? = some (.cells ⟨ringC c s m1 m2⟩ e (0, 0))) :
    CallM Tryz.prog 69 [.pointer (some ⟨br, 0, none⟩)] [] w fun v L => v = .agg ⟨tkC c s⟩ ∧ L = [] := by
  have htk := ring_tk c hs m1 m2
  have htl := tk_len (c := c) hs
  have hto := tk_one c s
  refine enterK (tb := tb) Tryz.func69 rfl Tryz.ntmps69 rfl ?_
  repeat' (first | (apply R.is1; first | (apply R.isBin; (apply R.pure; exact rfl; (apply Ok1.eqlP; (iterate 5 exact rfl)))) | (apply R.pure; exact rfl; first | (apply Ok1.load; exact rfl; (apply Ld.blkk; exact rfl; exact rfl; exact hb; exact List.not_mem_nil; exact htk)) | (apply Ok1.move; exact rfl) | (apply Ok1.fieldAddr; (iterate 5 exact rfl)) | (apply Ok1.nilCheck; exact rfl)) | (apply R.alloc; (iterate 3 exact rfl); intro)) | (apply R.is0; (apply R.store; (iterate 4 exact rfl); exact htl; exact hto; exact Upd.head; exact setE_all htl)) | apply R.nil | (apply T.is; first | apply T.seq | apply T.region | apply T.skip | apply T.ret | (apply T.cond_f; exact rfl)))
  (apply RetOk.c; exact rfl; (apply Ld.ownk; exact rfl; exact rfl; exact At.head; exact subE_all htl))
  exact ⟨_, by (focus ((repeat' (exact Keep.nil _)); done)), rfl, rfl⟩
theorem wstart_ok (boot : Int) (h : NR boot 1) (w : World) : CallM Tryz.prog 162 [.int .i64 boot] [] w fun v L => ∃ b, v = .tuple #[.pointer (some ⟨b, 0, none⟩), .int .i64 0] ∧ L = [(b, .cells ⟨[.int .i64 boot, .int .i64 0]⟩ 379 (0, 0))] := by
  have hck := nonce_ok boot 1
  rw [if_pos h] at hck
  refine enterK (tb := tb) Tryz.func162 rfl Tryz.ntmps162 rfl ?_
  repeat' (first | (apply R.is1; first | (apply R.isBin; (apply R.pure; exact rfl; (apply Ok1.neq_f; exact rfl; exact rfl; omega))) | (apply R.isCall; apply R.callP rfl rfl rfl hck) | (apply R.pure; exact rfl; first | (apply Ok1.move; exact rfl) | (apply Ok1.assign; exact rfl) | (apply Ok1.build; (iterate 5 exact rfl))) | (apply R.box; (iterate 3 exact rfl); intro)) | apply R.nil | (apply T.is; first | apply T.seq | apply T.region | apply T.skip | apply T.ret | (apply T.cond_f; exact rfl)))
  (apply RetOk.tt; exact rfl; exact rfl)
  exact ⟨_, by (focus ((repeat' (first | exact Keep.nil _ | exact Ext.one _ _ | apply Keep.cons)); done)), _, rfl, rfl⟩
theorem wstart_bad (boot : Int) (h : ¬ NR boot 1) : CallP Tryz.prog 162 [.int .i64 boot] (.tuple #[.pointer none, .int .i64 10]) := by
  have hck := nonce_ok boot 1
  rw [if_neg h] at hck
  refine enterP (tb := tb) Tryz.func162 rfl Tryz.ntmps162 rfl fun w => ?_
  repeat' (first | (apply R.is1; first | (apply R.isBin; (apply R.pure; exact rfl; (apply Ok1.neq_t; exact rfl; exact rfl; omega))) | (apply R.isCall; apply R.callP rfl rfl rfl hck) | (apply R.pure; exact rfl; first | (apply Ok1.move; exact rfl) | (apply Ok1.assign; exact rfl) | (apply Ok1.build; (iterate 5 exact rfl)))) | apply R.nil | (apply T.is; first | apply T.seq | apply T.region | apply T.ret | (apply T.cond_t; exact rfl)))
  (apply RetOk.tt; exact rfl; exact rfl)
  rfl
theorem wnext_ok (b : Nat) (boot n : Int) (h0 : 0 ≤ n) (h : n < 2147483647) (w : World) : CallM Tryz.prog 153 [.pointer (some ⟨b, 0, none⟩)] [(b, .cells ⟨[.int .i64 boot, .int .i64 n]⟩ 379 (0, 0))] w fun v L => v = .tuple #[.agg ⟨[.int .i64 boot, .int .i64 (n + 1)]⟩, .int .i64 0] ∧ L = [(b, .cells ⟨[.int .i64 boot, .int .i64 (n + 1)]⟩ 379 (0, 0))] := by
  refine enterK (tb := tb) Tryz.func153 rfl Tryz.ntmps153 rfl ?_
  repeat' (first | (apply R.is1; first | (apply R.isBin; (apply R.pure; exact rfl; first | (apply Ok1.eqlP; (iterate 5 exact rfl)) | (apply Ok1.add64; exact rfl; exact rfl; omega; omega) | (apply Ok1.eql_f; exact rfl; exact rfl; omega))) | (apply R.pure; exact rfl; first | (apply Ok1.move; exact rfl) | (apply Ok1.fieldAddr; (iterate 5 exact rfl)) | (apply Ok1.load; exact rfl; first | (apply Ld.own1; exact rfl; exact rfl; (focus ((repeat' (first | exact At.head | apply At.tail)); done)); exact rfl) | (apply Ld.ownk; exact rfl; exact rfl; (focus ((repeat' (first | exact At.head | apply At.tail)); done)); exact rfl)) | (apply Ok1.assign; exact rfl) | (apply Ok1.nilCheck; exact rfl)) | (apply R.alloc; (iterate 3 exact rfl); intro)) | (apply R.is0; (apply R.store; (iterate 6 exact rfl); (focus ((repeat' (first | exact Upd.head | apply Upd.tail)); done)); exact rfl)) | apply R.nil | (apply T.is; first | apply T.seq | apply T.region | apply T.block | apply T.skip | apply T.ret | (apply T.cond_f; exact rfl)))
  (apply RetOk.ct; exact rfl; (apply Ld.ownk; exact rfl; exact rfl; exact At.head; exact rfl); exact rfl)
  exact ⟨_, by (focus ((repeat' (first | exact Keep.nil _ | exact Ext.one _ _ | apply Keep.cons | apply Ext.cons)); done)), rfl, rfl⟩
theorem dnew_ok (w : World) : CallM Tryz.prog 163 [.int .i64 2147483647] [] w fun v L => ∃ b cs, v = .tuple #[.pointer (some ⟨b, 0, none⟩), .int .i64 0] ∧ L = [(b, .cells ⟨cs⟩ 385 (0, 0))] := by
  refine enterK (tb := tb) Tryz.func163 rfl Tryz.ntmps163 rfl ?_
  repeat' (first | (apply R.is1; first | (apply R.isBin; (apply R.pure; exact rfl; first | (apply Ok1.lss_f; exact rfl; exact rfl; omega) | (apply Ok1.gtr_f; exact rfl; exact rfl; omega))) | (apply R.pure; exact rfl; first | (apply Ok1.move; exact rfl) | (apply Ok1.assign; exact rfl) | (apply Ok1.build; (iterate 5 exact rfl)) | (apply Ok1.pick_f; exact rfl; exact rfl)) | (apply R.box; (iterate 3 exact rfl); intro)) | (apply R.isG; (apply R.guard_run; exact rfl; exact rfl)) | apply R.nil | (apply T.is; first | apply T.seq | apply T.region | apply T.skip | apply T.ret | (apply T.cond_f; exact rfl)))
  (apply RetOk.tt; exact rfl; exact rfl)
  exact ⟨_, by (focus ((repeat' (first | exact Keep.nil _ | exact Ext.one _ _ | apply Keep.cons)); done)), _, _, rfl, rfl⟩
end Go.Proofs.YtidjnjlejhoalaaGreat
set_option linter.unusedSimpArgs false
set_option linter.unusedVariables false
namespace Go.Proofs.YtidjnjlejhoalaaGreat
open Go.RowKit Go.Shelf
set_option maxRecDepth 100000
/-- Four windows that have taken nothing. -/
def wz4 : List Value := [.int .i64 0, .int .i64 0, .int .u64 0, .int .i64 0, .int .i64 0, .int .u64 0, .int .i64 0, .int .i64 0, .int .u64 0, .int .i64 0, .int .i64 0, .int .u64 0]
/-- A channel's cells. -/
def chC (bn br bb bd : Nat) (sd : List Value) : List Value := [.pointer (some ⟨bn, 0, none⟩), .pointer (some ⟨br, 0, none⟩), .pointer (some ⟨bb, 0, none⟩), .pointer (some ⟨bd, 0, none⟩)] ++ sd
/-- What a new channel is made of. -/
def ChL (bc bn br bb bd bm m1 m2 : Nat) (c : Cl) (s : List Int) (boot : Int) (sd dr : List Value) : Lst := (bc, .cells ⟨chC bn br bb bd sd⟩ 275 (0, 0)) :: ((bn, .cells ⟨[.int .i64 boot, .int .i64 0]⟩ 379 (0, 0)) :: ((bd, .cells ⟨dr⟩ 385 (0, 0)) :: (RL0 br m1 m2 c s ++ BL bb bm [] 0)))
theorem chnew_ok (c : Cl) (hr : c.right) (s : List Int) (hs : s.length = 32) (boot : Int) (hb : NR boot 1) (w : World) : CallM Tryz.prog 63 [.agg ⟨tkC c s⟩, .int .i64 boot] [] w fun v L => ∃ bc bn br bb bd bm m1 m2 sd dr, v = .tuple #[.pointer (some ⟨bc, 0, none⟩), .int .i64 0] ∧ L = ChL bc bn br bb bd bm m1 m2 c s boot sd dr := by
  have htl := tk_len (c := c) hs
  have h1 := fun w1 => ring_new c hr s hs w1
  have h2 := fun w1 => wstart_ok boot hb w1
  refine enterK (tb := tb) Tryz.func63 rfl Tryz.ntmps63 rfl ?_
  repeat' (first | (apply R.is1; first | (apply R.isBin; (apply R.pure; exact rfl; (apply Ok1.neq_f; exact rfl; exact rfl; omega))) | (apply R.isCall; first | (apply R.callE (vs := [.agg ⟨tkC c s⟩]); (iterate 3 exact rfl); exact Ext.none _; intro w1 hw1; exact h1 w1; rintro x Lo ⟨br, m1, m2, rfl, rfl⟩) | (apply R.callE (vs := [.int .i64 boot]); (iterate 3 exact rfl); exact Ext.none _; intro w1 hw1; exact h2 w1; rintro x Lo ⟨bn, rfl, rfl⟩) | (apply R.callE (vs := [.int .i64 2147483647]); (iterate 3 exact rfl); exact Ext.none _; intro w1 hw1; exact dnew_ok w1; rintro x Lo ⟨bd, dr, rfl, rfl⟩) | (apply R.callE (vs := []); (iterate 3 exact rfl); exact Ext.none _; intro w1 hw1; exact New_ok w1; rintro x Lo ⟨bb, bm, rfl, rfl⟩)) | (apply R.pure; exact rfl; first | (apply Ok1.load; exact rfl; (apply Ld.ownk; exact rfl; exact rfl; exact At.head; exact subE_all htl)) | (apply Ok1.move; exact rfl) | (apply Ok1.assign; exact rfl) | (apply Ok1.build; (iterate 5 exact rfl)) | (apply Ok1.extract; exact rfl; exact rfl)) | (apply R.box; (iterate 3 exact rfl); intro)) | apply R.nil | (apply T.is; first | apply T.seq | apply T.region | apply T.skip | apply T.ret | (apply T.cond_f; exact rfl)))
  rename_i bc
  (apply RetOk.tt; exact rfl; exact rfl)
  refine ⟨_, ?_, bc, bn, br, bb, bd, bm, m1, m2, wz4, dr, rfl, rfl⟩
  unfold ChL chC wz4
  (focus ((repeat' (first | exact Keep.nil _ | exact Ext.one _ _ | apply Keep.cons | apply Ext.cons)); done))
theorem chown_ok (bc bn br bb bd : Nat) (sd : List Value) (e1 : TypeId) (f1 : Nat × Nat) (c : Cl) (s : List Int) (hs : s.length = 32) (m1 m2 : Nat) (e : TypeId) (w : World) (hc : w.heap[bc]? = some (.cells ⟨chC bn br bb bd sd⟩ e1 f1)) (hb : w.heap[br]? = some (.cells ⟨ringC c s m1 m2⟩ e (0, 0))) :
    CallM Tryz.prog 154 [.pointer (some ⟨bc, 0, none⟩)] [] w fun v L => v = .agg ⟨clC c⟩ ∧ L = [] := by
  have hown := fun w1 (h : Chg [] w w1) => rown_ok br c s hs m1 m2 e w1 (h.heap hb List.not_mem_nil)
  have htc := tk_cl c s
  unfold chC at hc
  refine enterK (tb := tb) Tryz.func154 rfl Tryz.ntmps154 rfl ?_
  repeat' (first | (apply R.is1; first | (apply R.isCall; (apply R.callE (vs := [.pointer (some ⟨br, 0, none⟩)]); (iterate 3 exact rfl); exact Ext.none _; intro w1 hw1; exact hown w1 hw1.chg; rintro x Lo ⟨rfl, rfl⟩)) | (apply R.pure; exact rfl; first | (apply Ok1.load; exact rfl; (apply Ld.blk1; exact rfl; exact rfl; exact hc; exact List.not_mem_nil; exact rfl)) | (apply Ok1.fieldk; (iterate 6 exact rfl); exact htc) | (apply Ok1.move; exact rfl) | (apply Ok1.fieldAddr; (iterate 5 exact rfl)) | (apply Ok1.nilCheck; exact rfl)) | (apply R.alloc; (iterate 3 exact rfl); intro)) | (apply R.is0; (apply R.store; (iterate 6 exact rfl); exact Upd.head; exact rfl)) | apply R.nil | (apply T.is; first | apply T.seq | apply T.region | apply T.ret))
  all_goals (apply RetOk.c; exact rfl; (apply Ld.ownk; exact rfl; exact rfl; exact At.head; exact rfl))
  exact ⟨_, by (focus ((repeat' (exact Keep.nil _)); done)), rfl, rfl⟩
/-- A kind's way. -/
def wayI (k : Int) : Int := if k = 1 ∨ k = 3 ∨ k = 5 ∨ k = 11 ∨ k = 14 then 1 else if k = 2 ∨ k = 4 ∨ k = 6 ∨ k = 12 then 2 else if k = 7 ∨ k = 8 ∨ k = 9 ∨ k = 10 ∨ k = 13 then 3 else 0
theorem way_ok (k : Int) : CallP Tryz.prog 62 [.int .i64 k] (.int .i64 (wayI k)) := by
  refine enterP (tb := tb) Tryz.func62 rfl Tryz.ntmps62 rfl fun w => ?_
  repeat' (first | (apply R.is1; first | (apply R.isBin; (apply R.eql rfl rfl rfl <;> intro)) | (apply R.pure; exact rfl; first | (apply Ok1.move; exact rfl) | (apply Ok1.assign; exact rfl))) | apply R.nil | (apply T.is; first | apply T.seq | apply T.region | apply T.block | apply T.skip | apply T.ret | (apply T.cond_t; exact rfl) | (apply T.cond_f; exact rfl)))
  all_goals (apply RetOk.t; exact rfl)
  all_goals (simp only [wayI]; congr 1; (repeat' split) <;> omega)
end Go.Proofs.YtidjnjlejhoalaaGreat
set_option linter.unusedSimpArgs false
set_option linter.unusedVariables false
namespace Go.Proofs.YtidjnjlejhoalaaGreat
open Go.RowKit Go.Shelf
set_option maxRecDepth 100000
theorem chkey_ok (bc bn br bb bd : Nat) (sd : List Value) (e1 : TypeId) (f1 : Nat × Nat) (c : Cl) (s : List Int) (hs : s.length = 32) (hsb : Byt s) (m1 m2 : Nat) (e : TypeId) (k to : Int) (hk : wayI k = 3) (h1 : 1 ≤ to) (h2 : to ≤ 65535) (w : World) (hc : w.heap[bc]? = some (.cells ⟨chC bn br bb bd sd⟩ e1 f1)) (hb : w.heap[br]? = some (.cells ⟨ringC c s m1 m2⟩ e (0, 0))) :
    CallM Tryz.prog 152 [.pointer (some ⟨bc, 0, none⟩), .int .i64 k, .int .i64 to] [] w fun v L => ∃ bk' ov, v = .tuple #[.pointer (some ⟨bk', 0, none⟩), .int .i64 0] ∧ OvOk 1 ov 32 (u8s (senderI s to)) ∧ L = KL bk' ov (senderI s to) := by
  have hto := fun w1 (h : Chg [] w w1) => to_ok br c s hs hsb m1 m2 e to h1 h2 w1 (h.heap hb List.not_mem_nil)
  have hw := way_ok k
  rw [hk] at hw
  unfold chC at hc
  refine enterK (tb := tb) Tryz.func152 rfl Tryz.ntmps152 rfl ?_
  repeat' (first | (apply R.is1; first | (apply R.isBin; (apply R.pure; exact rfl; first | (apply Ok1.eql_t; exact rfl; exact rfl; omega) | (apply Ok1.eql_f; exact rfl; exact rfl; omega))) | (apply R.isCall; first | apply R.callP rfl rfl rfl hw | (apply R.callE (vs := [.pointer (some ⟨br, 0, none⟩), .int .i64 to]); (iterate 3 exact rfl); exact Ext.none _; intro w1 hw1; exact hto w1 hw1.chg; rintro x Lo ⟨bk, ov, rfl, hov, rfl⟩)) | (apply R.pure; exact rfl; first | (apply Ok1.load; exact rfl; (apply Ld.blk1; exact rfl; exact rfl; exact hc; exact List.not_mem_nil; exact rfl)) | (apply Ok1.move; exact rfl) | (apply Ok1.fieldAddr; (iterate 5 exact rfl)) | (apply Ok1.assign; exact rfl) | (apply Ok1.extract; exact rfl; exact rfl) | (apply Ok1.nilCheck; exact rfl))) | apply R.nil | (apply T.is; first | apply T.seq | apply T.region | apply T.block | apply T.ret | (apply T.cond_t; exact rfl) | (apply T.cond_f; exact rfl)))
  (apply RetOk.tt; exact rfl; exact rfl)
  exact ⟨_, by (focus ((repeat' (first | exact Ext.one _ _ | exact Ext.here _ _ | apply Keep.cons | apply Keep.last)); done)), bk, ov, rfl, hov, rfl⟩
theorem way3 {k : Int} (h : wayI k = 3) : ¬ (k = 1 ∨ k = 2) := by
  intro g
  rcases g with rfl | rfl
  · exact absurd h (by decide)
  · exact absurd h (by decide)
/-- The bytes that a channel writes to the side. -/
def wrI (c : Cl) (s : List Int) (k to boot n : Int) (body : List Int) : List Int := pkB k c to boot n body (pkT (senderI s to) k c to boot n body)
theorem chwrite_ok (bc bn br bb bd : Nat) (sd : List Value) (e1 : TypeId) (f1 : Nat × Nat) (c : Cl) (s : List Int) (hs : s.length = 32) (hsb : Byt s) (m1 m2 : Nat) (e : TypeId) (k to : Int) (hk : wayI k = 3) (h1 : 1 ≤ to) (h2 : to ≤ 65535) (boot cnt : Int) (h0 : 0 ≤ cnt) (h3 : cnt < 2147483647) (p : Option Addr) (n cap : Nat) (body : List Int) (hn : n = body.length) (hE : pckE k c to boot (cnt + 1) n (zI 32) = 0) (hbb : Byt body) (w : World) (hc : w.heap[bc]? = some (.cells ⟨chC bn br bb bd sd⟩ e1 f1)) (hb : w.heap[br]? = some (.cells ⟨ringC c s m1 m2⟩ e (0, 0))) (hne1 : bc ≠ bn) (hne2 : br ≠ bn) (hbd : RdSl w p u8V body) (hq : body ≠ [] → Off p [bn]) :
    CallM Tryz.prog 59 [.pointer (some ⟨bc, 0, none⟩), .int .i64 k, .int .i64 to, .slice p n cap] [(bn, .cells ⟨[.int .i64 boot, .int .i64 cnt]⟩ 379 (0, 0))] w fun v L => ∃ ov, OvOk 1 ov (wrI c s k to boot (cnt + 1) body).length (u8s (wrI c s k to boot (cnt + 1) body)) ∧ v = .tuple #[slV ov (wrI c s k to boot (cnt + 1) body).length, .int .i64 0] ∧ L = (bn, .cells ⟨[.int .i64 boot, .int .i64 (cnt + 1)]⟩ 379 (0, 0)) :: blkL 5 ov (u8s (wrI c s k to boot (cnt + 1) body)) := by
  have hnp := way3 hk
  have hz : (zI 32).length = 32 := rfl
  have hn5 : n ≤ 512 := (pckE_zero hE).2.2.2.2.1
  have hm1 : bc ∉ [bn] := by simpa using hne1
  have hm2 : br ∉ [bn] := by simpa using hne2
  have hky := fun w1 (h : Chg [bn] w w1) => chkey_ok bc bn br bb bd sd e1 f1 c s hs hsb m1 m2 e k to hk h1 h2 w1 (h.heap hc hm1) (h.heap hb hm2)
  have how := fun w1 (h : Chg [bn] w w1) => chown_ok bc bn br bb bd sd e1 f1 c s hs m1 m2 e w1 (h.heap hc hm1) (h.heap hb hm2)
  have hpl := pplain_ok k
  rw [decide_eq_false hnp] at hpl
  have hkl : (senderI s to).length = 32 := derive_len _ _ _
  have hkb : Byt (senderI s to) := derive_byt _ _ _
  have htl : (pkT (senderI s to) k c to boot (cnt + 1) body).length = 32 := by unfold pkT; exact hmac_len _ _
  have htg := fun bk w1 (h : Chg [bn] w w1) hK => ptagged_ok k c to boot (cnt + 1) p n cap (zI 32) body hz hnp hE hn hbb bk (senderI s to) (by rw [hkl]; decide) hkb w1 hK (hbd.chg' h hq)
  have hE2 : pckE k c to boot (cnt + 1) n (pkT (senderI s to) k c to boot (cnt + 1) body) = 0 := by rw [pckE_np _ (zI 32) hnp]; exact hE
  have hby := fun p2 cap2 w1 h => pbytes_ok k c to boot (cnt + 1) p2 n cap2 (pkT (senderI s to) k c to boot (cnt + 1) body) body htl hE2 hn w1 h
  have hl1 := fun p2 cap2 => pk_len k c to boot (cnt + 1) p2 n cap2 htl
  have ho1 := fun p2 cap2 => pk_one k c to boot (cnt + 1) p2 n cap2 (pkT (senderI s to) k c to boot (cnt + 1) body)
  unfold wrI
  generalize pkT (senderI s to) k c to boot (cnt + 1) body = TG at *
  generalize pkB k c to boot (cnt + 1) body TG = PB at *
  generalize hSD : senderI s to = SD at *
  refine enterK (tb := tb) Tryz.func59 rfl Tryz.ntmps59 rfl ?_
  simp only [pkC] at hl1 ho1 htg hby
  repeat' (first | (apply R.is1; first | (apply R.isBin; (apply R.pure; exact rfl; first | (apply Ok1.eqlP; (iterate 5 exact rfl)) | (apply Ok1.gtr_f; exact rfl; exact rfl; omega) | (apply Ok1.neq_f; exact rfl; exact rfl; omega))) | (apply R.isCall; first | (apply R.callE (vs := [.pointer (some ⟨bc, 0, none⟩), .int .i64 k, .int .i64 to]); (iterate 3 exact rfl); exact Ext.none _; intro w1 hw1; exact hky w1 hw1.chg; rintro x Lo ⟨bk, ovk, rfl, hovk, rfl⟩) | (apply R.pure; exact rfl; (apply Ok1.lenS; (iterate 3 exact rfl)))) | (apply R.pure; exact rfl; first | (apply Ok1.load; exact rfl; (apply Ld.blk1; exact rfl; exact rfl; exact hc; exact hm1; exact rfl)) | (apply Ok1.move; exact rfl) | (apply Ok1.fieldAddr; (iterate 5 exact rfl)) | (apply Ok1.assign; exact rfl) | (apply Ok1.extract; exact rfl; exact rfl) | (apply Ok1.nilCheck; exact rfl))) | apply R.nil | (apply T.is; first | apply T.seq | apply T.region | apply T.block | apply T.skip | (apply T.cond_f; exact rfl)))
  have hovk2 : OvOk 1 ovk SD.length (u8s SD) := by rw [hkl]; exact hovk
  have hkr : ∀ L w1, Hp w [bn] L w1 → (∀ z ∈ KL bk ovk SD, z ∈ L) → KeyR w1 bk SD := fun L w1 h4 h5 => KeyR.of hovk2 h4 h5
  generalize KL bk ovk SD = KK at hkr ⊢
  repeat' (first | (apply R.is1; first | (apply R.isBin; (apply R.pure; exact rfl; (apply Ok1.neq_f; exact rfl; exact rfl; omega))) | (apply R.isCall; (apply R.callE (Li := [(bn, .cells ⟨[.int .i64 boot, .int .i64 cnt]⟩ 379 (0, 0))]) (vs := [.pointer (some ⟨bn, 0, none⟩)]); (iterate 3 exact rfl); (focus ((repeat' (first | exact Ext.one _ _ | apply Ext.app)); done)); intro w1 hw1; exact wnext_ok bn boot cnt h0 h3 w1; rintro x Lo ⟨rfl, rfl⟩)) | (apply R.pure; exact rfl; first | (apply Ok1.move; exact rfl) | (apply Ok1.assign; exact rfl) | (apply Ok1.extract; exact rfl; exact rfl)) | (apply R.alloc; (iterate 3 exact rfl); intro)) | (apply R.is0; (apply R.store; (iterate 6 exact rfl); exact Upd.head; exact rfl)) | apply R.nil | (apply T.is; first | (apply T.drawC (id := 11) [0] (by decide); ((apply A.take 0; exact rfl; exact rfl; kernel_rfl; kernel_rfl; kernel_rfl; (apply Ok1.move; exact rfl)) <;> (apply A.take 1; exact rfl; exact rfl; kernel_rfl; kernel_rfl; kernel_rfl; (apply Ok1.move; exact rfl)) <;> (apply A.take 3; exact rfl; exact rfl; kernel_rfl; kernel_rfl; kernel_rfl; (apply Ok1.move; exact rfl)) <;> (apply A.take 4; exact rfl; exact rfl; kernel_rfl; kernel_rfl; kernel_rfl; (apply Ok1.load; exact rfl; (apply Ld.ownk; exact rfl; exact rfl; exact At.head; exact rfl))) <;> (apply A.take 5; exact rfl; exact rfl; kernel_rfl; kernel_rfl; kernel_rfl; (apply Ok1.move; exact rfl)) <;> (apply A.two 2 7; kernel_rfl; exact rfl; exact rfl; rotate_left 1; (focus (((((apply R.alloc; (iterate 3 exact rfl); intro))); apply R.nil; refine ⟨?_, ?_⟩; (focus ((repeat' (first | exact trivial | (refine ⟨?_, ?_⟩; (focus ((repeat' (first | exact At.head | apply At.tail)); done)))))))) <;> (apply A.one 2; kernel_rfl; exact rfl; (((apply R.callE (vs := [.pointer (some ⟨bc, 0, none⟩)]); (iterate 3 exact rfl); exact Ext.none _; intro w1 hw1; exact how w1 hw1.chg; rintro x Lo ⟨rfl, rfl⟩))); apply R.nil; refine ⟨?_, ?_⟩; (focus ((repeat' (first | exact trivial | (refine ⟨?_, ?_⟩; (focus ((repeat' (first | exact At.head | apply At.tail)); done)))))))) <;> (apply A.take 6; exact rfl; exact rfl; kernel_rfl; kernel_rfl; kernel_rfl; (apply Ok1.build; (iterate 5 exact rfl))) <;> (apply A.one 8; kernel_rfl; exact rfl; (((apply R.store; (iterate 6 exact rfl); exact Upd.head; exact rfl))); apply R.nil; refine ⟨?_, ?_⟩; (focus ((repeat' (first | exact trivial | (refine ⟨?_, ?_⟩; (focus ((repeat' (first | exact At.head | apply At.tail)); done)))))))) <;> (apply A.done; kernel_rfl))); rotate_right 1; (focus (((((apply R.callE (vs := [.pointer (some ⟨bc, 0, none⟩)]); (iterate 3 exact rfl); exact Ext.none _; intro w1 hw1; exact how w1 hw1.chg; rintro x Lo ⟨rfl, rfl⟩))); apply R.nil; refine ⟨?_, ?_⟩; (focus ((repeat' (first | exact trivial | (refine ⟨?_, ?_⟩; exact At.head)))))) <;> (apply A.take 6; exact rfl; exact rfl; kernel_rfl; kernel_rfl; kernel_rfl; (apply Ok1.build; (iterate 5 exact rfl))) <;> (apply A.one 7; kernel_rfl; exact rfl; (((apply R.alloc; (iterate 3 exact rfl); intro))); apply R.nil; refine ⟨?_, ?_⟩; (focus ((repeat' (first | exact trivial | (refine ⟨?_, ?_⟩; (focus ((repeat' (first | exact At.head | apply At.tail)); done)))))))) <;> (apply A.one 8; kernel_rfl; exact rfl; (((apply R.store; (iterate 6 exact rfl); exact Upd.head; exact rfl))); apply R.nil; refine ⟨?_, ?_⟩; (focus ((repeat' (first | exact trivial | (refine ⟨?_, ?_⟩; (focus ((repeat' (first | exact At.head | apply At.tail)); done)))))))) <;> (apply A.done; kernel_rfl)))))) | apply T.seq | apply T.region | apply T.skip | (apply T.cond_f; exact rfl)))
  all_goals repeat' (first | (apply R.is1; first | (apply R.isBin; (apply R.pure; exact rfl; (apply Ok1.neq_f; exact rfl; exact rfl; omega))) | (apply R.isCall; first | apply R.callP rfl rfl rfl hpl | (apply R.callE (vs := [.agg _, .pointer (some ⟨bk, 0, none⟩)]); (iterate 3 exact rfl); exact Ext.none _; intro w1 hw1; exact htg bk w1 hw1.chg (hkr _ w1 hw1 (Ext.mem (by (focus ((repeat' (first | exact Ext.here _ _ | apply Ext.cons | apply Ext.app)); done))))); rintro x Lo ⟨ovt, hovt, rfl, rfl⟩) | (apply R.callE (vs := [.agg _]); (iterate 3 exact rfl); exact Ext.none _; intro w1 hw1; exact hby (ovp ovt) (ovc ovt n) w1 (RdSl.own' hw1 (Ext.mem (by rw [fl_u8]; (focus ((repeat' (exact Ext.here _ _)); done)))) (by rw [fl_u8, ← hn]; exact hovt) u8V_len); rintro x Lo ⟨ovb, hovb, rfl, rfl⟩)) | (apply R.pure; exact rfl; first | (apply Ok1.load; exact rfl; first | (apply Ld.ownk; exact rfl; exact rfl; (focus ((repeat' (first | exact At.head | apply At.right)); done)); exact rfl) | (apply Ld.ownk; exact rfl; exact rfl; (focus ((repeat' (first | exact At.head | apply At.right)); done)); exact subE_all (hl1 _ _))) | (apply Ok1.move; exact rfl) | (apply Ok1.assign; exact rfl) | (apply Ok1.extract; exact rfl; exact rfl) | (apply Ok1.not_f; exact rfl))) | (apply R.is0; (apply R.store; (iterate 4 exact rfl); exact (hl1 _ _); exact (ho1 _ _); (focus ((repeat' (first | exact Upd.head | apply Upd.right)); done)); exact setE_all (hl1 _ _))) | apply R.nil | (apply T.is; first | apply T.seq | apply T.region | apply T.skip | apply T.ret | (apply T.cond_t; exact rfl) | (apply T.cond_f; exact rfl)))
  all_goals (apply RetOk.tt; exact rfl; exact rfl)
  all_goals exact ⟨_, by (focus ((repeat' (first | exact Ext.one _ _ | exact Ext.here _ _ | apply Keep.cons | apply Keep.last | apply Ext.cons | apply Ext.app)); done)), ovb, hovb, rfl, rfl⟩
end Go.Proofs.YtidjnjlejhoalaaGreat
set_option linter.unusedSimpArgs false
set_option linter.unusedVariables false
namespace Go.Proofs.YtidjnjlejhoalaaGreat
open Go.RowKit Go.Shelf
set_option maxRecDepth 100000
/-- The next n bytes, one by one; what is left. -/
def Rs.raws (s : Rs) : Nat → List Int × Rs
  | 0 => ([], s)
  | n + 1 => ((s.raws n).1 ++ [((s.raws n).2.num 1).1], ((s.raws n).2.num 1).2.2)
theorem Rs.raws_len (s : Rs) (n : Nat) : (s.raws n).1.length = n := by
  induction n with
  | zero => rfl
  | succ n ih => simp [Rs.raws, ih]
theorem Rs.ok.raws {s : Rs} {br : Nat} {w : World} (h : s.ok br w) (n : Nat) : (s.raws n).2.ok br w := by
  induction n with
  | zero => exact h
  | succ n ih => exact ih.num 1
theorem Rs.num1_range9 {s : Rs} (h : Byt s.xs) : 0 ≤ (s.num 1).1 ∧ (s.num 1).1 ≤ 255 := by
  unfold Rs.num
  by_cases h1 : s.e ≠ 0 ∨ s.xs.length < 1
  · rw [if_pos h1]; exact ⟨Int.le_refl 0, by show (0 : Int) ≤ 255; decide⟩
  rw [if_neg h1]
  have hb := be_range 1 (s.xs.take 1) (by rw [List.length_take]; omega) fun y hy => h y (List.mem_of_mem_take hy)
  split <;> simp only <;> omega
theorem raw_ok (br : Nat) (s : Rs) (n : Nat) (hn : n ≤ 1000) (w : World) (hs : s.ok br w) : CallM Tryz.prog 176 [.agg ⟨[.pointer (some ⟨br, 0, none⟩)]⟩, .int .i64 n] (s.L br) w fun v L => ∃ ov, OvOk 1 ov n (u8s (s.raws n).1) ∧ v = slV ov n ∧ L = (s.raws n).2.L br ++ blkL 5 ov (u8s (s.raws n).1) := by
  have hbl0 := rL_blk s br
  refine enterK (tb := tb) Tryz.func176 rfl Tryz.ntmps176 rfl ?_
  generalize hL0 : s.L br = L0 at *
  repeat' (first | (apply R.is1; first | (apply R.pure; exact rfl; first | (apply Ok1.move; exact rfl) | (apply Ok1.assign; exact rfl)) | (apply R.box; (iterate 3 exact rfl); intro)) | apply R.nil | (apply T.is; first | apply T.seq | apply T.region | apply T.block))
  rename_i b2
  apply T.loopK (α := Nat × Ov) (I := fun y => y.1 ≤ n ∧ OvOk 1 y.2 y.1 (u8s (s.raws y.1).1)) (σi := fun y => [(1, .int .i64 n), (2, .pointer (some ⟨b2, 0, none⟩)), (5, slV y.2 y.1), (6, .int .i64 n), (7, .int .i64 y.1)]) (Li := fun y => (s.raws y.1).2.L br ++ ((b2, .cells ⟨[.pointer (some ⟨br, 0, none⟩)]⟩ 321 (0, 0)) :: blkL 5 y.2 (u8s (s.raws y.1).1))) (μ := fun y => n - y.1) (i0 := (0, none))
  · exact ⟨Nat.zero_le _, OvOk.start 1⟩
  · exact ⟨rfl, rfl, rfl, rfl, rfl, trivial⟩
  · simp only [Rs.raws, hL0]
    (focus ((repeat' (first | exact Keep.nil _ | exact Ext.one _ _ | exact Ext.all _ | apply Keep.cons | apply Keep.app | apply Ext.cons)); done))
  · rintro ⟨i, ov⟩ ⟨hi, hov⟩
    simp only at hi hov ⊢
    have hsi := hs.raws i
    have hrl := s.raws_len i
    rcases Nat.lt_or_ge i n with hlt | hge
    · have hnum := fun w1 h => rnum_ok br (s.raws i).2 0 1 (by decide) rfl w1 h
      have hrg := Rs.num1_range9 hsi.byt
      have hr1 : (s.raws (i + 1)).1 = (s.raws i).1 ++ [((s.raws i).2.num 1).1] := rfl
      have hr2 : (s.raws (i + 1)).2 = ((s.raws i).2.num 1).2.2 := rfl
      generalize hL1 : ((s.raws i).2.num 1).2.2.L br = L1 at *
      generalize hx : ((s.raws i).2.num 1).1 = x at *
      generalize (s.raws i).1 = RX at *
      generalize hLi : (s.raws i).2.L br = LI at *
      generalize (s.raws i).2 = si at *
      repeat' (first | (apply R.is1; first | (apply R.isBin; (apply R.pure; exact rfl; first | (apply Ok1.add64; exact rfl; exact rfl; omega; omega) | (apply Ok1.lss_t; exact rfl; exact rfl; omega))) | (apply R.isCall; first | (apply R.callE (Li := LI); (iterate 3 exact rfl); (focus ((repeat' (exact Ext.here _ _)); done)); intro w1 hw1; exact hnum w1 (hsi.chg hw1.chg hbl0); rintro v Lo ⟨rfl, hq⟩; rw [hq]; clear hq) | (apply R.appendRd (xs := [x]) (v := u8V) (sz := 1) (ov := ov) (n := i) (m := 1) (old := u8s RX); (iterate 12 exact rfl); exact hov; (focus ((repeat' (first | exact Ext.all _ | apply Ext.cons | apply Ext.app)); done)); exact rfl; exact u8V_len; exact rfl; (intro w1 hw1; exact RdSl.of (junk := []) hw1 (by exact At.head) rfl); (focus (rw [fl_u8]; exact u8s_one _)); omega; intro ov1 hov1 hsome; rw [fl_u8, ← u8s_app]; rw [fl_u8, ← u8s_app] at hov1)) | (apply R.pure; exact rfl; first | (apply Ok1.move; exact rfl) | (apply Ok1.fieldAddr; (iterate 5 exact rfl)) | (apply Ok1.load; exact rfl; (apply Ld.own1; exact rfl; exact rfl; (focus ((repeat' (first | exact At.head | apply At.right)); done)); exact rfl)) | (apply Ok1.assign; exact rfl) | (apply Ok1.convU8; (iterate 5 exact rfl); omega; omega)) | (apply R.buildSlice; (iterate 12 exact rfl); intro)) | apply R.nil | (apply T.is; first | apply T.seq | apply T.region | apply T.block | apply T.skip | (apply T.cond_t; exact rfl)))
      refine ⟨(i + 1, ov1), ⟨by simp only; omega, ?_⟩, by simp only; omega, ⟨rfl, rfl, rfl, rfl, rfl, trivial⟩, ?_⟩
      · show OvOk 1 ov1 (i + 1) (u8s (s.raws (i + 1)).1)
        rw [hr1]; exact hov1
      · show Keep _ ((s.raws (i + 1)).2.L br ++ (_ :: blkL 5 ov1 (u8s (s.raws (i + 1)).1)))
        rw [hr1, hr2, hL1]
        (focus ((repeat' (first | exact Ext.one _ _ | exact Ext.here _ _ | apply Keep.cons | apply Keep.app | apply Keep.last | apply Ext.cons | apply Ext.app)); done))
    · have him : n = i := by omega
      subst him
      generalize (s.raws n).2.L br = LI at *
      repeat' (first | (apply R.is1; first | (apply R.isBin; (apply R.pure; exact rfl; (apply Ok1.lss_f; exact rfl; exact rfl; omega))) | (apply R.pure; exact rfl; first | (apply Ok1.move; exact rfl) | (apply Ok1.assign; exact rfl))) | apply R.nil | (apply T.is; first | apply T.seq | apply T.region | apply T.exit | apply T.ret | (apply T.cond_f; exact rfl)))
      (apply RetOk.t; exact rfl)
      exact ⟨_, by (focus ((repeat' (first | exact Ext.here _ _ | exact Ext.all _ | apply Keep.app | apply Keep.last | apply Ext.cons)); done)), ov, hov, rfl, rfl⟩
end Go.Proofs.YtidjnjlejhoalaaGreat
set_option linter.unusedSimpArgs false
set_option linter.unusedVariables false
namespace Go.Proofs.YtidjnjlejhoalaaGreat
open Go.RowKit Go.Shelf
set_option maxRecDepth 100000
/-- The next bytes behind their number; what is left. -/
def Rs.gb (s : Rs) : List Int × Rs :=
  if (s.num 2).2.1 = false then ([], (s.num 2).2.2) else if 512 < (s.num 2).1 then ([], (s.num 2).2.2.fail 3) else if (s.num 2).2.2.xs.length < (s.num 2).1.toNat then ([], (s.num 2).2.2.fail 4) else ((s.num 2).2.2.xs.take (s.num 2).1.toNat, (s.num 2).2.2.drop (s.num 2).1.toNat)
theorem Rs.num_true {s : Rs} {k : Nat} (h : (s.num k).2.1 = true) : (s.num k).2.2.e = 0 := by
  unfold Rs.num at h ⊢
  by_cases h1 : s.e ≠ 0 ∨ s.xs.length < k
  · rw [if_pos h1] at h; cases h
  rw [if_neg h1] at h ⊢
  have he : s.e = 0 := Classical.byContradiction fun g => h1 (.inl g)
  split at h
  · rw [if_pos ‹_›]; exact he
  · cases h
theorem Rs.num_nonneg {s : Rs} (k : Nat) (h : Byt s.xs) : 0 ≤ (s.num k).1 := by
  unfold Rs.num
  by_cases h1 : s.e ≠ 0 ∨ s.xs.length < k
  · rw [if_pos h1]; exact Int.le_refl 0
  rw [if_neg h1]
  have hb := be_range k (s.xs.take k) (by rw [List.length_take]; omega) fun y hy => h y (List.mem_of_mem_take hy)
  split
  · exact hb.1
  · exact Int.le_refl 0
theorem Rs.gb_len (s : Rs) : s.gb.1.length ≤ 512 := by
  unfold Rs.gb
  split
  · exact Nat.zero_le _
  split
  · exact Nat.zero_le _
  split
  · exact Nat.zero_le _
  · simp only [List.length_take]; omega
theorem rgetB_ok (br : Nat) (s : Rs) (w : World) (hs : s.ok br w) : CallM Tryz.prog 200 [.pointer (some ⟨br, 0, none⟩), .int .i64 4] (s.L br) w fun v L => ∃ ov z, OvOk 1 ov s.gb.1.length (u8s s.gb.1) ∧ v = .agg ⟨[.int .i64 z, .int .i64 0, .slice (ovp ov) s.gb.1.length (ovc ov s.gb.1.length)]⟩ ∧ L = s.gb.2.L br ++ blkL 5 ov (u8s s.gb.1) := by
  have hbl0 := rL_blk s br
  have hn := fun w1 h1 => rnumber_ok br s 1 2 (by decide) rfl w1 h1
  have ht := hs.num 2
  have htr := fun h => Rs.num_true (s := s) (k := 2) h
  have hn0 := Rs.num_nonneg (s := s) 2 hs.byt
  unfold Rs.gb
  generalize s.num 2 = r at *
  obtain ⟨v1, v2, t⟩ := r
  simp only at hn ht htr hn0 ⊢
  cases v2 with
  | false =>
    rw [if_pos rfl]
    generalize s.L br = L0 at *
    generalize t.L br = L1 at *
    refine enterK (tb := tb) Tryz.func200 rfl Tryz.ntmps200 rfl ?_
    repeat' (first | (apply R.is1; first | (apply R.isBin; (apply R.pure; exact rfl; first | (apply Ok1.lss_f; exact rfl; exact rfl; omega) | (apply Ok1.gtr_f; exact rfl; exact rfl; omega) | (apply Ok1.eqlP; (iterate 5 exact rfl)))) | (apply R.isCall; (apply R.callE (Li := L0); (iterate 3 exact rfl); (focus ((repeat' (first | exact Ext.all _ | apply Ext.cons)); done)); intro w1 hw1; exact hn w1 (hs.chg hw1.chg hbl0); rintro v Lo ⟨rfl, hq⟩; rw [hq]; clear hq)) | (apply R.pure; exact rfl; first | (apply Ok1.move; exact rfl) | (apply Ok1.fieldAddr; (iterate 5 exact rfl)) | (apply Ok1.assign; exact rfl) | (apply Ok1.build; (iterate 5 exact rfl)) | (apply Ok1.extract; exact rfl; exact rfl) | (apply Ok1.pick_f; exact rfl; exact rfl) | (apply Ok1.not_f; exact rfl) | (apply Ok1.nilCheck; exact rfl)) | (apply R.alloc; (iterate 3 exact rfl); intro)) | (apply R.is0; (apply R.store; (iterate 6 exact rfl); (focus ((repeat' (first | exact Upd.head | apply Upd.right)); done)); exact rfl)) | (apply R.isG; first | (apply R.guard_run; exact rfl; exact rfl) | (apply R.guard_not; (iterate 3 exact rfl))) | apply R.nil | (apply T.is; first | apply T.seq | apply T.region | apply T.block | apply T.skip | apply T.ret | (apply T.cond_t; exact rfl) | (apply T.cond_f; exact rfl)))
    (apply RetOk.c; exact rfl; ((apply Ld.ownk; exact rfl; exact rfl; (focus ((repeat' (first | exact At.head | apply At.right)); done)); exact rfl)))
    exact ⟨_, by (focus ((repeat' (first | exact Ext.here _ _ | apply Keep.last)); done)), none, 0, OvOk.start 1, rfl, (List.append_nil _).symm⟩
  | true =>
    rw [if_neg (by decide)]
    have hte := htr rfl
    by_cases h5 : 512 < v1
    · rw [if_pos h5]
      have hf := fun w1 => rfail_ok br t 3 w1
      simp only
      generalize s.L br = L0 at *
      generalize t.L br = L1 at *
      generalize (t.fail 3).L br = L2 at *
      refine enterK (tb := tb) Tryz.func200 rfl Tryz.ntmps200 rfl ?_
      repeat' (first | (apply R.is1; first | (apply R.isBin; (apply R.pure; exact rfl; first | (apply Ok1.lss_f; exact rfl; exact rfl; omega) | (apply Ok1.gtr_t; exact rfl; exact rfl; omega) | (apply Ok1.gtr_f; exact rfl; exact rfl; omega) | (apply Ok1.eqlP; (iterate 5 exact rfl)))) | (apply R.isCall; first | (apply R.callE (Li := L0); (iterate 3 exact rfl); (focus ((repeat' (first | exact Ext.all _ | apply Ext.cons | apply Ext.app)); done)); intro w1 hw1; exact hn w1 (hs.chg hw1.chg hbl0); rintro v Lo ⟨rfl, hq⟩; rw [hq]; clear hq) | (apply R.callE (Li := L1); (iterate 3 exact rfl); (focus ((repeat' (exact Ext.here _ _)); done)); intro w1 hw1; exact hf w1; rintro v Lo ⟨rfl, hq⟩; rw [hq]; clear hq)) | (apply R.pure; exact rfl; first | (apply Ok1.move; exact rfl) | (apply Ok1.fieldAddr; (iterate 5 exact rfl)) | (apply Ok1.assign; exact rfl) | (apply Ok1.build; (iterate 5 exact rfl)) | (apply Ok1.extract; exact rfl; exact rfl) | (apply Ok1.pick_t; exact rfl; exact rfl) | (apply Ok1.pick_f; exact rfl; exact rfl) | (apply Ok1.not_f; exact rfl) | (apply Ok1.nilCheck; exact rfl)) | (apply R.alloc; (iterate 3 exact rfl); intro)) | (apply R.is0; (apply R.store; (iterate 6 exact rfl); (focus ((repeat' (first | exact Upd.head | apply Upd.right)); done)); exact rfl)) | (apply R.isG; (apply R.guard_run; exact rfl; exact rfl)) | apply R.nil | (apply T.is; first | apply T.seq | apply T.region | apply T.block | apply T.skip | apply T.ret | (apply T.cond_t; exact rfl) | (apply T.cond_f; exact rfl)))
      (apply RetOk.c; exact rfl; ((apply Ld.ownk; exact rfl; exact rfl; (focus ((repeat' (first | exact At.head | apply At.right)); done)); exact rfl)))
      exact ⟨_, by (focus ((repeat' (first | exact Ext.here _ _ | apply Keep.last)); done)), none, 0, OvOk.start 1, rfl, (List.append_nil _).symm⟩
    rw [if_neg h5]
    obtain ⟨n, rfl⟩ : ∃ n : Nat, v1 = n := ⟨v1.toNat, by omega⟩
    rw [Int.toNat_natCast]
    by_cases h6 : t.xs.length < n
    · rw [if_pos h6]
      have hk := fun w1 => rtake_no br t n (.inr h6) w1
      have hfe : t.fail 4 = ⟨none, 0, [], 4⟩ := by unfold Rs.fail; rw [if_pos hte]
      simp only [hfe] at hk ⊢
      simp only [Rs.L, List.length_nil] at hk ⊢
      have e1 : (s.L br) = [(br, .cells ⟨[.slice s.q s.xs.length s.cap, .int .i64 s.e]⟩ 249 (0, 0))] := rfl
      have e2 : (t.L br) = [(br, .cells ⟨[.slice t.q t.xs.length t.cap, .int .i64 t.e]⟩ 249 (0, 0))] := rfl
      rw [← e1] 
      rw [← e2] at hk
      generalize s.L br = L0 at *
      generalize t.L br = L1 at *
      refine enterK (tb := tb) Tryz.func200 rfl Tryz.ntmps200 rfl ?_
      repeat' (first | (apply R.is1; first | (apply R.isBin; (apply R.pure; exact rfl; first | (apply Ok1.lss_f; exact rfl; exact rfl; omega) | (apply Ok1.gtr_f; exact rfl; exact rfl; omega) | (apply Ok1.neq_t; exact rfl; exact rfl; omega) | (apply Ok1.eqlP; (iterate 5 exact rfl)))) | (apply R.isCall; first | (apply R.callE (Li := L0) (vs := [.pointer (some ⟨br, 0, none⟩), .int .i64 1]); (iterate 3 exact rfl); (focus ((repeat' (first | exact Ext.all _ | apply Ext.cons)); done)); intro w1 hw1; exact hn w1 (hs.chg hw1.chg hbl0); rintro v Lo ⟨rfl, hq⟩; rw [hq]; clear hq) | (apply R.callE (Li := L1) (vs := [.pointer (some ⟨br, 0, none⟩), .int .i64 n]); (iterate 3 exact rfl); (focus ((repeat' (exact Ext.here _ _)); done)); intro w1 hw1; exact hk w1; rintro v Lo ⟨rfl, rfl⟩)) | (apply R.pure; exact rfl; first | (apply Ok1.move; exact rfl) | (apply Ok1.fieldAddr; (iterate 5 exact rfl)) | (apply Ok1.load; exact rfl; (apply Ld.own1; exact rfl; exact rfl; exact At.head; exact rfl)) | (apply Ok1.assign; exact rfl) | (apply Ok1.build; (iterate 5 exact rfl)) | (apply Ok1.extract; exact rfl; exact rfl) | (apply Ok1.pick_t; exact rfl; exact rfl) | (apply Ok1.pick_f; exact rfl; exact rfl) | (apply Ok1.not_t; exact rfl) | (apply Ok1.nilCheck; exact rfl)) | (apply R.alloc; (iterate 3 exact rfl); intro)) | (apply R.is0; (apply R.store; (iterate 6 exact rfl); (focus ((repeat' (first | exact Upd.head | apply Upd.tail)); done)); exact rfl)) | (apply R.isG; (apply R.guard_run; exact rfl; exact rfl)) | apply R.nil | (apply T.is; first | apply T.seq | apply T.region | apply T.block | apply T.skip | apply T.ret | (apply T.cond_t; exact rfl) | (apply T.cond_f; exact rfl)))
      (apply RetOk.c; exact rfl; ((apply Ld.ownk; exact rfl; exact rfl; (focus ((repeat' (first | exact At.head | apply At.tail)); done)); exact rfl)))
      exact ⟨_, by (focus ((repeat' (first | exact Keep.nil _ | exact Ext.one _ _ | apply Keep.cons)); done)), none, 0, OvOk.start 1, rfl, rfl⟩
    · rw [if_neg h6]
      have hk := fun w1 => rtake_ok br t n hte (by omega) ht.cap w1
      have hpre := ht.rd.pre u8V_len n
      have hlt : (t.xs.take n).length = n := by rw [List.length_take]; omega
      have hcl := fun w1 h1 => clone_ok t.q n n (t.xs.take n) hlt.symm (by omega) w1 h1
      have hof : t.xs.take n ≠ [] → Off t.q [br] := fun h => ht.off (fun h0 => h (by rw [h0]; exact List.take_nil))
      simp only [hlt]
      have e3 : (t.drop n).L br = [(br, .cells ⟨[.slice (t.drop n).q (t.drop n).xs.length (t.drop n).cap, .int .i64 0]⟩ 249 (0, 0))] := by
        have : (t.drop n).e = 0 := hte
        simp only [Rs.L, this]
      rw [e3] at hk ⊢
      generalize t.xs.take n = ys at *
      generalize t.q = tq at *
      generalize t.drop n = t2 at *
      generalize s.L br = L0 at *
      generalize t.L br = L1 at *
      refine enterK (tb := tb) Tryz.func200 rfl Tryz.ntmps200 rfl ?_
      repeat' (first | (apply R.is1; first | (apply R.isBin; (apply R.pure; exact rfl; first | (apply Ok1.lss_f; exact rfl; exact rfl; omega) | (apply Ok1.gtr_f; exact rfl; exact rfl; omega) | (apply Ok1.neq_f; exact rfl; exact rfl; omega) | (apply Ok1.eqlP; (iterate 5 exact rfl)))) | (apply R.isCall; first | (apply R.callE (Li := L0) (vs := [.pointer (some ⟨br, 0, none⟩), .int .i64 1]); (iterate 3 exact rfl); (focus ((repeat' (first | exact Ext.all _ | apply Ext.cons)); done)); intro w1 hw1; exact hn w1 (hs.chg hw1.chg hbl0); rintro v Lo ⟨rfl, hq⟩; rw [hq]; clear hq) | (apply R.callE (Li := L1) (vs := [.pointer (some ⟨br, 0, none⟩), .int .i64 n]); (iterate 3 exact rfl); (focus ((repeat' (exact Ext.here _ _)); done)); intro w1 hw1; exact hk w1; rintro v Lo ⟨rfl, rfl⟩) | (apply R.callE (vs := [.slice tq n n]); (iterate 3 exact rfl); exact Ext.none _; intro w1 hw1; exact hcl w1 (hpre.chg' hw1.chg (fun h => hbl0.symm ▸ hof h)); rintro v Lo ⟨ov, hov, hso, rfl, rfl⟩; rw [slV_eq hov])) | (apply R.pure; exact rfl; first | (apply Ok1.move; exact rfl) | (apply Ok1.fieldAddr; (iterate 5 exact rfl)) | (apply Ok1.load; exact rfl; (apply Ld.own1; exact rfl; exact rfl; exact At.head; exact rfl)) | (apply Ok1.assign; exact rfl) | (apply Ok1.build; (iterate 5 exact rfl)) | (apply Ok1.extract; exact rfl; exact rfl) | (apply Ok1.pick_t; exact rfl; exact rfl) | (apply Ok1.pick_f; exact rfl; exact rfl) | (apply Ok1.not_t; exact rfl) | (apply Ok1.nilCheck; exact rfl)) | (apply R.alloc; (iterate 3 exact rfl); intro)) | (apply R.is0; (apply R.store; (iterate 6 exact rfl); (focus ((repeat' (first | exact Upd.head | apply Upd.tail | apply Upd.right)); done)); exact rfl)) | (apply R.isG; (apply R.guard_run; exact rfl; exact rfl)) | apply R.nil | (apply T.is; first | apply T.seq | apply T.region | apply T.block | apply T.skip | apply T.ret | (apply T.cond_f; exact rfl)))
      (apply RetOk.c; exact rfl; ((apply Ld.ownk; exact rfl; exact rfl; (focus ((repeat' (first | exact At.head | apply At.tail | apply At.right)); done)); exact rfl)))
      exact ⟨_, by (focus ((repeat' (first | exact Ext.one _ _ | exact Ext.here _ _ | exact Ext.all _ | apply Keep.cons | apply Keep.app | apply Keep.last | apply Ext.cons | apply Ext.app)); done)), ov, 4, hov, rfl, rfl⟩
theorem rbytes_ok (br : Nat) (s : Rs) (w : World) (hs : s.ok br w) : CallM Tryz.prog 177 [.pointer (some ⟨br, 0, none⟩), .int .i64 512] (s.L br) w fun v L => ∃ ov, OvOk 1 ov s.gb.1.length (u8s s.gb.1) ∧ v = .slice (ovp ov) s.gb.1.length (ovc ov s.gb.1.length) ∧ L = s.gb.2.L br ++ blkL 5 ov (u8s s.gb.1) := by
  have hbl0 := rL_blk s br
  have hg := fun w1 h1 => rgetB_ok br s w1 h1
  have hl := s.gb_len
  generalize s.gb = g at *
  obtain ⟨ys, t⟩ := g
  simp only at hg hl ⊢
  generalize s.L br = L0 at *
  generalize t.L br = L1 at *
  refine enterK (tb := tb) Tryz.func177 rfl Tryz.ntmps177 rfl ?_
  repeat' (first | (apply R.is1; first | (apply R.isBin; (apply R.pure; exact rfl; first | (apply Ok1.gtr_f; exact rfl; exact rfl; omega) | (apply Ok1.neqP; (iterate 5 exact rfl)))) | (apply R.isCall; first | (apply R.callE (Li := L0); (iterate 3 exact rfl); (focus ((repeat' (exact Ext.all _)); done)); intro w1 hw1; exact hg w1 (hs.chg hw1.chg hbl0); rintro v Lo ⟨ov, z, hov, rfl, hq⟩; rw [hq, List.append_assoc]; clear hq) | (apply R.pure; exact rfl; (apply Ok1.lenS; (iterate 3 exact rfl)))) | (apply R.pure; exact rfl; first | (apply Ok1.move; exact rfl) | (apply Ok1.fieldAddr; (iterate 5 exact rfl)) | (apply Ok1.load; exact rfl; (apply Ld.own1; exact rfl; exact rfl; exact At.head; exact rfl)) | (apply Ok1.assign; exact rfl) | (apply Ok1.pick_t; exact rfl; exact rfl)) | (apply R.alloc; (iterate 3 exact rfl); intro)) | (apply R.is0; (apply R.store; (iterate 6 exact rfl); exact Upd.head; exact rfl)) | (apply R.isG; (apply R.guard_run; exact rfl; exact rfl)) | apply R.nil | (apply T.is; first | apply T.seq | apply T.region | apply T.skip | apply T.ret | (apply T.cond_f; exact rfl)))
  (apply RetOk.t; exact rfl)
  exact ⟨_, by (focus ((repeat' (first | exact Ext.here _ _ | apply Keep.app | apply Keep.last | apply Ext.cons)); done)), ov, hov, rfl, rfl⟩
end Go.Proofs.YtidjnjlejhoalaaGreat
set_option linter.unusedSimpArgs false
set_option linter.unusedVariables false
namespace Go.Proofs.YtidjnjlejhoalaaGreat
open Go.RowKit Go.Shelf
set_option maxRecDepth 100000
theorem RsO.okB {s : Rs} {M : Lst} (h : RsO s M) (br : Nat) : ∀ (w0 w : World) (S : List Nat) (L Lr : Lst), Hp w0 S L w → Ext L (s.L br) Lr → (∀ z ∈ M, z ∈ Lr) → s.ok br w := fun _ _ _ _ _ a b c => h.ok a b c
def prC (s : Rs) : Cl × Int := if (rdC s).2 ≠ 0 then (cl0, (rdC s).2) else if s.c4.fin ≠ 0 then (cl0, s.c4.fin) else ((rdC s).1, 0)
theorem clparse_ok (p : Option Addr) (n cap : Nat) (xs : List Int) (hn : n = xs.length) (hbig : n ≤ 1000000000) (hb : Byt xs) (w : World) (hp : RdSl w p u8V xs) :
    CallM Tryz.prog 95 [.slice p n cap] [] w fun v L => ∃ s : Rs, s.xs = (if n ≤ 1024 then xs else []) ∧ s.e = (if n ≤ 1024 then 0 else 2) ∧ v = .tuple #[kvC (prC s).1, .int .i64 (prC s).2] ∧ L = [] := by
  have hnew := fun w1 (hc : Chg [] w w1) => rnewr_ok p n cap xs hn hbig hb w1 (hp.chg' hc (fun _ => Off.nil _))
  refine enterK (tb := tb) Tryz.func95 rfl Tryz.ntmps95 rfl ?_
  repeat' (first | (apply R.is1; first | (apply R.isCall; (apply R.callE (vs := [.slice p n cap]); (iterate 3 exact rfl); exact Ext.none _; intro w1 hw1; exact hnew w1 hw1.chg; rintro v Lo ⟨br, s, M, rfl, hs1, hs2, hso, rfl⟩; rw [List.append_assoc])) | (apply R.pure; exact rfl; first | (apply Ok1.move; exact rfl) | (apply Ok1.assign; exact rfl)) | (apply R.alloc; (iterate 3 exact rfl); intro)) | apply R.nil | (apply T.is; first | apply T.seq | apply T.region))
  have hsk := hso.okB br
  have hrd := fun w1 h1 => cread_ok br s w1 h1
  have hen := fun w1 h1 => rend_ok br s.c4 w1 h1
  have hm3 : (br, Obj.cells ⟨[.slice s.c4.q s.c4.xs.length s.c4.cap, .int .i64 s.c4.e]⟩ 249 (0, 0)) ∈ s.c4.L br := by simp [Rs.L]
  have hP : prC s = if (rdC s).2 ≠ 0 then (cl0, (rdC s).2) else if s.c4.fin ≠ 0 then (cl0, s.c4.fin) else ((rdC s).1, 0) := rfl
  generalize hpp : prC s = pr at *
  generalize hL4 : s.c4.L br = L4 at *
  generalize s.c4 = s4 at *
  generalize rdC s = rd at *
  obtain ⟨c, e⟩ := rd
  generalize hLS : s.L br = LS at *
  simp only at hP
  simp only [kvC] at hrd
  by_cases h1 : e = 0
  · rw [if_neg (fun h => h h1)] at hP
    by_cases h2 : s4.fin = 0
    · rw [if_neg (fun h => h h2)] at hP
      subst hP
      rw [h2] at hen
      subst h1
      repeat' (first | (apply R.is1; first | (apply R.isBin; (apply R.pure; exact rfl; first | (apply Ok1.eql_t; exact rfl; exact rfl; omega) | (apply Ok1.neq_f; exact rfl; exact rfl; omega))) | (apply R.isCall; first | (apply R.callE (Li := LS) (vs := [.pointer (some ⟨br, 0, none⟩)]); (iterate 3 exact rfl); (focus ((repeat' (first | exact Ext.here _ _ | apply Ext.cons | apply Ext.app)); done)); intro w1 hw1; exact hrd w1 (hsk _ _ _ _ _ hw1 (by (focus ((repeat' (exact Ext.here _ _)); done))) (Ext.mem (by (focus ((repeat' (exact Ext.here _ _)); done))))); rintro v Lo ⟨rfl, hq⟩; rw [hq]; clear hq) | (apply R.callV (vs := [.pointer (some ⟨br, 0, none⟩)]); (iterate 3 exact rfl); intro w1 hw1; (apply hen w1; apply hw1.get; apply Ext.memI9 hm3; (focus ((repeat' (first | exact Ext.here _ _ | apply Ext.cons)); done))))) | (apply R.pure; exact rfl; first | (apply Ok1.move; exact rfl) | (apply Ok1.load; exact rfl; (apply Ld.ownk; exact rfl; exact rfl; exact At.head; exact rfl)) | (apply Ok1.assign; exact rfl) | (apply Ok1.extract; exact rfl; exact rfl)) | (apply R.alloc; (iterate 3 exact rfl); intro)) | (apply R.is0; (apply R.store; (iterate 6 exact rfl); (focus ((repeat' (first | exact Upd.head | apply Upd.tail | apply Upd.right)); done)); exact rfl)) | apply R.nil | (apply T.is; first | apply T.seq | apply T.region | apply T.skip | apply T.ret | (apply T.cond_t; exact rfl) | (apply T.cond_f; exact rfl)))
      (apply RetOk.ct; exact rfl; ((apply Ld.ownk; exact rfl; exact rfl; (focus ((repeat' (first | exact At.head | apply At.tail | apply At.right)); done)); exact rfl)); exact rfl)
      exact ⟨_, by (focus ((repeat' (exact Keep.nil _)); done)), s, hs1, hs2, by rw [hpp]; rfl, rfl⟩
    · rw [if_pos h2] at hP
      subst hP
      subst h1
      generalize s4.fin = e9 at *
      repeat' (first | (apply R.is1; first | (apply R.isBin; (apply R.pure; exact rfl; first | (apply Ok1.eql_t; exact rfl; exact rfl; omega) | (apply Ok1.neq_t; exact rfl; exact rfl; omega))) | (apply R.isCall; first | (apply R.callE (Li := LS) (vs := [.pointer (some ⟨br, 0, none⟩)]); (iterate 3 exact rfl); (focus ((repeat' (first | exact Ext.here _ _ | apply Ext.cons | apply Ext.app)); done)); intro w1 hw1; exact hrd w1 (hsk _ _ _ _ _ hw1 (by (focus ((repeat' (exact Ext.here _ _)); done))) (Ext.mem (by (focus ((repeat' (exact Ext.here _ _)); done))))); rintro v Lo ⟨rfl, hq⟩; rw [hq]; clear hq) | (apply R.callV (vs := [.pointer (some ⟨br, 0, none⟩)]); (iterate 3 exact rfl); intro w1 hw1; (apply hen w1; apply hw1.get; apply Ext.memI9 hm3; (focus ((repeat' (first | exact Ext.here _ _ | apply Ext.cons)); done))))) | (apply R.pure; exact rfl; first | (apply Ok1.move; exact rfl) | (apply Ok1.assign; exact rfl) | (apply Ok1.build; (iterate 5 exact rfl)) | (apply Ok1.extract; exact rfl; exact rfl)) | (apply R.alloc; (iterate 3 exact rfl); intro)) | (apply R.is0; (apply R.store; (iterate 6 exact rfl); (focus ((repeat' (first | exact Upd.head | apply Upd.tail | apply Upd.right)); done)); exact rfl)) | apply R.nil | (apply T.is; first | apply T.seq | apply T.region | apply T.ret | (apply T.cond_t; exact rfl)))
      (apply RetOk.ct; exact rfl; ((apply Ld.ownk; exact rfl; exact rfl; (focus ((repeat' (first | exact At.head | apply At.tail | apply At.right)); done)); exact rfl)); exact rfl)
      exact ⟨_, by (focus ((repeat' (exact Keep.nil _)); done)), s, hs1, hs2, by rw [hpp]; rfl, rfl⟩
  · rw [if_pos h1] at hP
    subst hP
    repeat' (first | (apply R.is1; first | (apply R.isBin; (apply R.pure; exact rfl; first | (apply Ok1.eql_f; exact rfl; exact rfl; omega) | (apply Ok1.neq_t; exact rfl; exact rfl; omega))) | (apply R.isCall; (apply R.callE (Li := LS) (vs := [.pointer (some ⟨br, 0, none⟩)]); (iterate 3 exact rfl); (focus ((repeat' (exact Ext.here _ _)); done)); intro w1 hw1; exact hrd w1 (hsk _ _ _ _ _ hw1 (by (focus ((repeat' (exact Ext.here _ _)); done))) (Ext.mem (by (focus ((repeat' (exact Ext.here _ _)); done))))); rintro v Lo ⟨rfl, hq⟩; rw [hq]; clear hq)) | (apply R.pure; exact rfl; first | (apply Ok1.move; exact rfl) | (apply Ok1.assign; exact rfl) | (apply Ok1.build; (iterate 5 exact rfl)) | (apply Ok1.extract; exact rfl; exact rfl)) | (apply R.alloc; (iterate 3 exact rfl); intro)) | (apply R.is0; (apply R.store; (iterate 6 exact rfl); (focus ((repeat' (first | exact Upd.head | apply Upd.tail | apply Upd.right)); done)); exact rfl)) | apply R.nil | (apply T.is; first | apply T.seq | apply T.region | apply T.skip | apply T.ret | (apply T.cond_t; exact rfl) | (apply T.cond_f; exact rfl)))
    (apply RetOk.ct; exact rfl; ((apply Ld.ownk; exact rfl; exact rfl; (focus ((repeat' (first | exact At.head | apply At.tail | apply At.right)); done)); exact rfl)); exact rfl)
    exact ⟨_, by (focus ((repeat' (exact Keep.nil _)); done)), s, hs1, hs2, by rw [hpp]; rfl, rfl⟩
end Go.Proofs.YtidjnjlejhoalaaGreat
