/- Texts of the proof: Ch5, Ch6, Ch7, Ch8, Ch9, Ch10, Ch11, Ch12, Ch13, Ch14, Ch15, Ch16, Ch17, Ch18, Ch19, Ch20, Ch21, Ch22, Ch23, Ch24, Ch25, Cg1. -/
import Derived.Test.YtidjnjlejhoalaaGreatL16gb5
set_option linter.unusedSimpArgs false
set_option linter.unusedVariables false
namespace Go.Proofs.YtidjnjlejhoalaaGreat
open Go.RowKit Go.Shelf
set_option maxRecDepth 100000
section
variable {X : Cx} {σ : Env} {L : Lst} {dd : Nat} {ty : TypeId} {pos : String} {af : Array Edge} {x y : Operand} {t t2 e : TypeId} {r r2 re : TRow} {all : Array Oper} {rest : List Oper} {K : Env → Lst → Prop}
theorem append_grow {P : Program} (tb : Tb P) (ht : tb.row t = some r) (hk : r.k = .slice e) (he : tb.row e = some re) {zc : List Value} (hz : cellsE re.zero = some zc) (hzl : zc.length = re.size) (ht2 : tb.row t2 = some r2) {e2 : Nat} (hk2 : r2.k = .slice e2)
    {w0 w : World} {S : List Nat} {base : Option Addr} {s2 : Value} {n m cap : Nat} {old news : List Value} (hw : Hp w0 S L w) (hold : Holds w (.slice base n cap) old) (hlo : old.length = n * re.size) (hc2 : cap < n + m) (hs2 : Builtin.lenOf s2 = Pure.pure m) (hn2 : Holds w s2 news) (hlen : news.length = m * re.size)
    (hbig : (2 * (n + m) + 768) * re.bytes ≤ 281474976710656) (hb1 : 1 ≤ re.bytes) :
    ∃ b' j' junk' w', junk'.length = j' * re.size ∧ (Builtin.append_ #[t, t2] ty #[.slice base n cap, s2]).run P w = .ok (.slice (some ⟨b', 0, none⟩) (n + m) (n + m + j')) w' ∧ Hp w0 S ((b', .cells ⟨old ++ news ++ junk'⟩ e (0, 0)) :: L) w' := by
  have hu : P.underlying t = some (.slice e) := by have := (tb.get ht).is; rw [hk] at this; exact this
  have hu2 : P.underlying t2 = some (.slice e2) := by have := (tb.get ht2).is; rw [hk2] at this; exact this
  have hbytes : ∃ i, P.info? e = some i ∧ i.bytes = re.bytes := by
    have := (tb.get he).bytes
    cases h : P.info? e with
    | none => rw [h] at this; cases this
    | some i => rw [h] at this; exact ⟨i, rfl, by simpa using this⟩
  obtain ⟨i, hi, hib⟩ := hbytes
  have hti : ∀ w, (typeInfo e).run P w = .ok i w := fun w => by simp [typeInfo, hi]
  have hzc := cellsE_eq hz
  have hnx := nextcap_le (n + m) cap (by omega)
  have hnb : ¬ Builtin.nextslicecap (n + m) cap * re.bytes > 2 ^ 48 := by
    have := Nat.mul_le_mul_right re.bytes hnx
    have : (2 : Nat) ^ 48 = 281474976710656 := by decide
    omega
  have hold' : Holds w.drew (.slice base n cap) old := hold
  have hnew' : Holds w.drew s2 news := hn2
  obtain ⟨q, hq⟩ : ∃ q, (Question.appendCap (n + m) cap e).cut (w.tape w.drawn (.appendCap (n + m) cap e)) = n + m + q := ⟨_, rfl⟩
  refine ⟨w.heap.size, q, (Builtin.zeroCells (zeroCellsOf re) q).toList, w.drew.alloc (.cells ⟨old ++ news ++ (Builtin.zeroCells (zeroCellsOf re) q).toList⟩ e (0, 0)), ?_, ?_, ?_⟩
  · simp [zeroCells_size, zeroCellsOf, hzc, hzl]
  · have harr : (Array.mk old ++ Array.mk news ++ Builtin.zeroCells re.zero.cells (n + m + q - (n + m)) : Array Value) = ⟨old ++ news ++ (Builtin.zeroCells (zeroCellsOf re) q).toList⟩ := by
      apply Array.toList_inj.1
      simp [zeroCellsOf]
    have hf1 := first_run (P := P) hold' hlo
    have hf2 := first_run (P := P) hnew' hlen
    unfold Builtin.append_
    simp only [List.getElem?_toArray, List.getElem?_cons_zero, List.getElem?_cons_succ, Sem.run_bind, run_underlying hu, run_underlying hu2, Result.andThen_ok, (tb.get he).size, Sem.run_pure, Bool.false_eq_true, if_false, hs2, Bool.not_false, if_true,
      show ¬ n + m ≤ cap by omega, hti, hib, Sem.run_ite, show ¬ re.bytes = 0 by omega, or_false, and_false, false_or, hnb, run_choose, Question.forced, hq, run_askRoom, World.drew_eq, hf1, hf2, (tb.get he).zero, newRow, run_newObj, harr]
    rfl
  · exact (hw.step (Chg.drew [] w)).alloc _
/-- append to a slice without room: a new row. -/
theorem R.appendNew {α : Type} {v : α → List Value} {xs ys : List α} {n m cap cap2 : Nat} {p p2 : Option Addr} {e2 : Nat} {zc : List Value} (hn : Nat.blt dd X.n = true) (ht : X.tb.row t = some r) (hk : r.k = .slice e) (he : X.tb.row e = some re) (hz : cellsE re.zero = some zc) (hzl : zc.length = re.size) (ht2 : X.tb.row t2 = some r2) (hk2 : r2.k = .slice e2) (hb1 : Nat.ble 1 re.bytes = true) (hb2 : Nat.ble re.bytes 65536 = true)
    (hx : ev σ x = some (.slice p n cap)) (hy : ev σ y = some (.slice p2 m cap2)) (hv : ∀ a, (v a).length = 1) (hs : re.size = 1) (hxn : n = xs.length) (hym : m = ys.length) (hne : xs ≠ []) (hne2 : ys ≠ []) (hc : cap < n + m)
    (hh : ∀ w, Hp X.w0 X.S L w → RdSl w p v xs) (hh2 : ∀ w, Hp X.w0 X.S L w → RdSl w p2 v ys) (hbig : n + m ≤ 1073741824)
    (h : ∀ ov', OvOk re.size ov' (n + m) (fl v xs ++ fl v ys) → ov'.isSome = true → R X all rest K ((dd, slV ov' (n + m)) :: σ) (blkL e ov' (fl v xs ++ fl v ys) ++ L)) :
    R X all (⟨some dd, .call { callee := .builtin .append, args := #[x, y], argTypes := #[t, t2] }, ty, pos, af, none⟩ :: rest) K σ L :=
  R.value rfl rfl hn fun a w ha hw => by
    have h3 := Nat.le_of_ble_eq_true hb2
    have hl1 : (fl v xs).length = n * re.size := by rw [fl_len hv, hs, hxn]
    have hl2 : (fl v ys).length = m * re.size := by rw [fl_len hv, hs, hym]
    obtain ⟨b', j', junk', w', g1, g2, g3⟩ := append_grow X.tb (ty := ty) ht hk he hz hzl ht2 hk2 hw (((hh w hw).holds hne) : Holds w (.slice p n cap) _) hl1 hc rfl (((hh2 w hw).holds hne2) : Holds w (.slice p2 m cap2) _) hl2 (Nat.le_trans (Nat.mul_le_mul (show 2 * (n + m) + 768 ≤ 2147484416 by omega) h3) (by decide)) (Nat.le_of_ble_eq_true hb1)
    refine ⟨slV (some (b', j', junk')) (n + m), w', _, ?_, g3, h (some (b', j', junk')) ⟨by rw [List.length_append, hl1, hl2, Nat.add_mul], g1⟩ rfl⟩
    simp [execOp, resolve, ha.ev hx, ha.ev hy, invoke, builtin, g2, slV]
end
/-- A packet's bytes. -/
def pkB (k : Int) (c : Cl) (to a b : Int) (body t : List Int) : List Int := pkH k c to a b body ++ t
theorem pkB_len (k : Int) (c : Cl) (to a b : Int) (body : List Int) {t : List Int} (ht : t.length = 32) : (pkB k c to a b body t).length = 52 + body.length := by
  rw [pkB, List.length_append, pkH_len, ht]; omega
theorem pbytes_ok (k : Int) (c : Cl) (to a b : Int) (p : Option Addr) (n cap : Nat) (t : List Int) (body : List Int) (ht : t.length = 32) (hE : pckE k c to a b n t = 0) (hn : n = body.length) (w : World) (hb : RdSl w p u8V body) :
    CallM Tryz.prog 157 [.agg ⟨pkC k c to a b p n cap t⟩] [] w fun v L => ∃ ov, OvOk 1 ov (pkB k c to a b body t).length (u8s (pkB k c to a b body t)) ∧ v = .tuple #[slV ov (pkB k c to a b body t).length, .int .i64 0] ∧ L = blkL 5 ov (u8s (pkB k c to a b body t)) := by
  have hh := fun w1 (hc : Chg [] w w1) => phead_ok k c to a b p n cap t body ht hE hn w1 (hb.chg hc (Off.nil _))
  have hl := pkH_len k c to a b body
  have hbl := (pckE_zero hE).2.2.2.2.1
  have hpl := pk_len k c to a b p n cap ht
  have hpB : u8s (pkB k c to a b body t) = u8s (pkH k c to a b body) ++ u8s t := u8s_app _ _
  have hpBl : (pkB k c to a b body t).length = (pkH k c to a b body).length + 32 := by rw [pkB, List.length_append, ht]
  rw [hpB, hpBl]
  generalize hHH : pkH k c to a b body = HH at *
  have hne : HH ≠ [] := by rintro rfl; simp at hl; omega
  have hnt : t ≠ [] := by rintro rfl; cases ht
  clear hpB hpBl hHH hE
  refine enterK (tb := tb) Tryz.func157 rfl Tryz.ntmps157 rfl ?_
  simp only [pkC] at hh hpl ⊢
  repeat' (first | (apply R.is1; first | (apply R.isBin; (apply R.pure; exact rfl; (apply Ok1.neq_f; exact rfl; exact rfl; omega))) | (apply R.isCall; first | (apply R.callE; (iterate 3 exact rfl); exact Ext.none _; intro w1 hw1; exact hh w1 hw1.chg; rintro v Lo ⟨bj, junk, rfl, rfl⟩) | (apply R.appendNew (xs := HH) (ys := t) (v := u8V) (n := HH.length) (m := 32); (iterate 12 exact rfl); exact u8V_len; exact rfl; exact rfl; exact ht.symm; exact hne; exact hnt; omega; (intro w1 hw1; exact RdSl.of hw1 (by exact At.head) (by rw [fl_u8])); (intro w1 hw1; exact RdSl.mid (pre := [.int .i64 k, .int .i64 c.id, .int .i64 c.roles, .int .i64 c.exp, .int .i64 c.ser, .int .i64 to, .int .i64 a, .int .i64 b, .slice p n cap]) (junk := []) hw1 (by rw [List.append_nil]; (focus ((repeat' (first | exact At.head | apply At.tail)); done))) rfl); omega; intro ov1 hov1 hs1; rw [fl_u8, fl_u8]; rw [fl_u8, fl_u8] at hov1)) | (apply R.pure; exact rfl; first | (apply Ok1.load; exact rfl; (apply Ld.ownk; exact rfl; exact rfl; exact At.head; exact subE_all hpl)) | (apply Ok1.sliceArr; (iterate 4 exact rfl)) | (apply Ok1.move; exact rfl) | (apply Ok1.fieldAddr; (iterate 5 exact rfl)) | (apply Ok1.assign; exact rfl) | (apply Ok1.extract; exact rfl; exact rfl)) | (apply R.box; (iterate 3 exact rfl); intro)) | apply R.nil | (apply T.is; first | apply T.seq | apply T.region | apply T.skip | apply T.ret | (apply T.cond_f; exact rfl)))
  (apply RetOk.tt; exact rfl; exact rfl)
  exact ⟨_, by (focus ((repeat' (first | exact Ext.here _ _ | apply Keep.last)); done)), ov1, hov1, rfl, rfl⟩
end Go.Proofs.YtidjnjlejhoalaaGreat
set_option linter.unusedSimpArgs false
set_option linter.unusedVariables false
namespace Go.Proofs.YtidjnjlejhoalaaGreat
open Go.RowKit Go.Shelf
set_option maxRecDepth 100000
theorem cat1 (p : Option Addr) (cap : Nat) (xs : List Int) : cat [⟨p, cap, xs⟩] = xs := by simp [cat]
theorem pckE_np {k : Int} {c : Cl} {to a b : Int} {n : Nat} (t t2 : List Int) (h : ¬ (k = 1 ∨ k = 2)) : pckE k c to a b n t = pckE k c to a b n t2 := by
  unfold pckE
  rw [if_neg (c := (k = 1 ∨ k = 2) ∧ t ≠ zI 32) (fun g => h g.1), if_neg (c := (k = 1 ∨ k = 2) ∧ t2 ≠ zI 32) (fun g => h g.1)]
theorem pkH_byt (k : Int) (c : Cl) (to a b : Int) {body : List Int} (h : Byt body) : Byt (pkH k c to a b body) :=
  Byt.app (num_byt _ _) (Byt.app (clI_byt _) (Byt.app (num_byt _ _) (Byt.app (Byt.app (Byt.app byt_nil (num_byt _ _)) (num_byt _ _)) (Byt.app (num_byt _ _) h))))
/-- A packet's tag. -/
def pkT (key : List Int) (k : Int) (c : Cl) (to a b : Int) (body : List Int) : List Int := hmacI key (pkH k c to a b body)
theorem ptagged_ok (k : Int) (c : Cl) (to a b : Int) (p : Option Addr) (n cap : Nat) (t : List Int) (body : List Int) (ht : t.length = 32) (hp : ¬ (k = 1 ∨ k = 2)) (hE : pckE k c to a b n t = 0) (hn : n = body.length) (hbb : Byt body) (bk : Nat) (key : List Int) (hkl : key.length ≤ 999999000) (hkb : Byt key) (w : World) (hK : KeyR w bk key) (hb : RdSl w p u8V body) :
    CallM Tryz.prog 156 [.agg ⟨pkC k c to a b p n cap t⟩, .pointer (some ⟨bk, 0, none⟩)] [] w fun v L => ∃ ov, OvOk 1 ov n (u8s body) ∧ v = .tuple #[.agg ⟨pkC k c to a b (ovp ov) n (ovc ov n) (pkT key k c to a b body)⟩, .int .i64 0] ∧ L = blkL 5 ov (u8s body) := by
  have hz : (zI 32).length = 32 := rfl
  have hE0 : pckE k c to a b n (zI 32) = 0 := by rw [pckE_np (zI 32) t hp]; exact hE
  have hn5 : n ≤ 512 := (pckE_zero hE).2.2.2.2.1
  have hh := fun w1 (hc : Chg [] w w1) => phead_ok k c to a b p n cap (zI 32) body hz hE0 hn w1 (hb.chg hc (Off.nil _))
  have hpl := pplain_ok k
  rw [decide_eq_false hp] at hpl
  have hcl := fun w1 (hc : Chg [] w w1) => clone_ok p n cap body hn (by omega) w1 (hb.chg hc (Off.nil _))
  have hHl := pkH_len k c to a b body
  have hHb := pkH_byt k c to a b hbb
  have htg := fun pp c2 (x : Pt) w1 (hx : x.xs = pkH k c to a b body) (hc : Chg [] w w1) (h1 : RdSl w1 pp Pt.v [x]) (h2 : RdSl w1 x.p u8V x.xs) => ktag_ok bk key hkl hkb pp 1 c2 [x] rfl (by rw [cat1, hx]; exact hHb) (by rw [cat1, hx, hHl]; omega) (by decide) w1 (hK.chg hc) h1 (by simp only [List.mem_cons, List.not_mem_nil, or_false, forall_eq]; exact h2)
  have htl : (pkT key k c to a b body).length = 32 := by unfold pkT; exact hmac_len _ _
  have htd : ∀ x : Pt, x.xs = pkH k c to a b body → hmacI key (cat [x]) = pkT key k c to a b body := fun x hx => by rw [cat1, hx]; rfl
  have hs1 := pk_set k c to a b p n cap ht hz
  have hl0 := pk_len k c to a b p n cap hz
  have hl1 := fun p2 cap2 => pk_len k c to a b p2 n cap2 htl
  have ho1 := fun p2 cap2 => pk_one k c to a b p2 n cap2 (pkT key k c to a b body)
  have hs2 := fun p2 cap2 => pk_set k c to a b p2 n cap2 hz htl
  generalize pkT key k c to a b body = TG at *
  generalize pkH k c to a b body = HH at *
  have htl2 : (u8s TG).length = 32 := by rw [u8s_len, htl]
  refine enterK (tb := tb) Tryz.func156 rfl Tryz.ntmps156 rfl ?_
  simp only [pkC] at hh hl0 hl1 ho1 hs1 hs2 ⊢
  repeat' (first | (apply R.is1; first | (apply R.isBin; (apply R.pure; exact rfl; first | (apply Ok1.eqlP; (iterate 5 exact rfl)) | (apply Ok1.neq_f; exact rfl; exact rfl; omega))) | (apply R.isCall; first | apply R.callP rfl rfl rfl hpl | (apply R.callE (vs := [.agg _]); (iterate 3 exact rfl); exact Ext.none _; intro w1 hw1; exact hh w1 hw1.chg; rintro v Lo ⟨bj, junk, rfl, rfl⟩) | (apply R.callE (vs := [.slice p n cap]); (iterate 3 exact rfl); exact Ext.none _; intro w1 hw1; exact hcl w1 hw1.chg; rintro v Lo ⟨ov1, hov1, hso1, rfl, rfl⟩; rw [slV_eq hov1]) | (apply R.callW (vs := [.pointer (some ⟨bk, 0, none⟩), .slice _ 1 1]); (iterate 3 exact rfl); intro w1 hw1; exact htg _ _ ⟨some ⟨bj, 0, none⟩, HH.length, HH⟩ w1 rfl hw1.chg (RdSl.of (v := Pt.v) (rs := [⟨some ⟨bj, 0, none⟩, HH.length, HH⟩]) (junk := []) hw1 .head rfl) (RdSl.of hw1 (by (focus ((repeat' (first | exact At.head | apply At.tail | apply At.right)); done))) (by rw [fl_u8])); intro v hv; rw [htd _ rfl] at hv; subst hv)) | (apply R.pure; exact rfl; first | (apply Ok1.load; exact rfl; first | (apply Ld.own1; exact rfl; exact rfl; (focus ((repeat' (first | exact At.head | apply At.tail)); done)); exact rfl) | (apply Ld.ownk; exact rfl; exact rfl; (focus ((repeat' (first | exact At.head | apply At.tail | apply At.right)); done)); exact rfl) | (apply Ld.ownk; exact rfl; exact rfl; (focus ((repeat' (first | exact At.head | apply At.tail | apply At.right)); done)); exact subE_all (hl1 _ _))) | (apply Ok1.move; exact rfl) | (apply Ok1.fieldAddr; (iterate 5 exact rfl)) | (apply Ok1.assign; exact rfl) | (apply Ok1.extract; exact rfl; exact rfl) | (apply Ok1.buildA; (iterate 6 exact rfl))) | (apply R.box; (iterate 3 exact rfl); intro) | (apply R.alloc; (iterate 3 exact rfl); intro) | (apply R.buildSlice; (iterate 12 exact rfl); intro)) | (apply R.is0; first | (apply R.store; (iterate 6 exact rfl); (focus ((repeat' (first | exact Upd.head | apply Upd.tail | apply Upd.right)); done)); exact hs1) | (apply R.store; (iterate 4 exact rfl); exact htl2; exact u8s_one _; (focus ((repeat' (first | exact Upd.head | apply Upd.tail | apply Upd.right)); done)); exact hs2 _ _) | (apply R.store; (iterate 4 exact rfl); exact (hl1 _ _); exact (ho1 _ _); (focus ((repeat' (first | exact Upd.head | apply Upd.tail | apply Upd.right)); done)); exact setE_all (hl1 _ _)) | (apply R.store; (iterate 6 exact rfl); (focus ((repeat' (first | exact Upd.head | apply Upd.tail | apply Upd.right)); done)); exact rfl)) | apply R.nil | (apply T.is; first | apply T.seq | apply T.region | apply T.block | apply T.skip | apply T.ret | (apply T.cond_f; exact rfl)))
  (apply RetOk.ct; exact rfl; (apply Ld.ownk; exact rfl; exact rfl; (focus ((repeat' (first | exact At.head | apply At.tail | apply At.right)); done)); exact subE_all (hl1 _ _)); exact rfl)
  exact ⟨_, by (focus ((repeat' (first | exact Ext.here _ _ | apply Keep.last | apply Ext.cons)); done)), ov1, hov1, rfl, rfl⟩
end Go.Proofs.YtidjnjlejhoalaaGreat
set_option linter.unusedSimpArgs false
set_option linter.unusedVariables false
namespace Go.Proofs.YtidjnjlejhoalaaGreat
open Go.RowKit Go.Shelf
set_option maxRecDepth 100000
theorem rown_ok (br : Nat) (c : Cl) (s : List Int) (hs : s.length = 32) (m1 m2 : Nat) (e : TypeId) (w : World) (hb : w.heap[br]? = some (.cells ⟨ringC c s m1 m2⟩ e (0, 0))) :
    CallM Tryz.prog 69 [.pointer (some ⟨br, 0, none⟩)] [] w fun v L => v = .agg ⟨tkC c s⟩ ∧ L = [] := by
  have htk := ring_tk c hs m1 m2
  have htl := tk_len (c := c) hs
  have hto := tk_one c s
  refine enterK (tb := tb) Tryz.func69 rfl Tryz.ntmps69 rfl ?_
  repeat' (first | (apply R.is1; first | (apply R.isBin; (apply R.pure; exact rfl; (apply Ok1.eqlP; (iterate 5 exact rfl)))) | (apply R.pure; exact rfl; first | (apply Ok1.load; exact rfl; (apply Ld.blkk; exact rfl; exact rfl; exact hb; exact List.not_mem_nil; exact htk)) | (apply Ok1.move; exact rfl) | (apply Ok1.fieldAddr; (iterate 5 exact rfl)) | (apply Ok1.nilCheck; exact rfl)) | (apply R.alloc; (iterate 3 exact rfl); intro)) | (apply R.is0; (apply R.store; (iterate 4 exact rfl); exact htl; exact hto; exact Upd.head; exact setE_all htl)) | apply R.nil | (apply T.is; first | apply T.seq | apply T.region | apply T.skip | apply T.ret | (apply T.cond_f; exact rfl)))
  (apply RetOk.c; exact rfl; (apply Ld.ownk; exact rfl; exact rfl; exact At.head; exact subE_all htl))
  exact ⟨_, by (focus ((repeat' (exact Keep.nil _)); done)), rfl, rfl⟩
theorem wstart_ok (boot : Int) (h : NR boot 1) (w : World) : CallM Tryz.prog 162 [.int .i64 boot] [] w fun v L => ∃ b, v = .tuple #[.pointer (some ⟨b, 0, none⟩), .int .i64 0] ∧ L = [(b, .cells ⟨[.int .i64 boot, .int .i64 0]⟩ 379 (0, 0))] := by
  have hck := nonce_ok boot 1
  rw [if_pos h] at hck
  refine enterK (tb := tb) Tryz.func162 rfl Tryz.ntmps162 rfl ?_
  repeat' (first | (apply R.is1; first | (apply R.isBin; (apply R.pure; exact rfl; (apply Ok1.neq_f; exact rfl; exact rfl; omega))) | (apply R.isCall; apply R.callP rfl rfl rfl hck) | (apply R.pure; exact rfl; first | (apply Ok1.move; exact rfl) | (apply Ok1.assign; exact rfl) | (apply Ok1.build; (iterate 5 exact rfl))) | (apply R.box; (iterate 3 exact rfl); intro)) | apply R.nil | (apply T.is; first | apply T.seq | apply T.region | apply T.skip | apply T.ret | (apply T.cond_f; exact rfl)))
  (apply RetOk.tt; exact rfl; exact rfl)
  exact ⟨_, by (focus ((repeat' (first | exact Keep.nil _ | exact Ext.one _ _ | apply Keep.cons)); done)), _, rfl, rfl⟩
theorem wnext_ok (b : Nat) (boot n : Int) (h0 : 0 ≤ n) (h : n < 2147483647) (w : World) : CallM Tryz.prog 153 [.pointer (some ⟨b, 0, none⟩)] [(b, .cells ⟨[.int .i64 boot, .int .i64 n]⟩ 379 (0, 0))] w fun v L => v = .tuple #[.agg ⟨[.int .i64 boot, .int .i64 (n + 1)]⟩, .int .i64 0] ∧ L = [(b, .cells ⟨[.int .i64 boot, .int .i64 (n + 1)]⟩ 379 (0, 0))] := by
  refine enterK (tb := tb) Tryz.func153 rfl Tryz.ntmps153 rfl ?_
  repeat' (first | (apply R.is1; first | (apply R.isBin; (apply R.pure; exact rfl; first | (apply Ok1.eqlP; (iterate 5 exact rfl)) | (apply Ok1.add64; exact rfl; exact rfl; omega; omega) | (apply Ok1.eql_f; exact rfl; exact rfl; omega))) | (apply R.pure; exact rfl; first | (apply Ok1.move; exact rfl) | (apply Ok1.fieldAddr; (iterate 5 exact rfl)) | (apply Ok1.load; exact rfl; first | (apply Ld.own1; exact rfl; exact rfl; (focus ((repeat' (first | exact At.head | apply At.tail)); done)); exact rfl) | (apply Ld.ownk; exact rfl; exact rfl; (focus ((repeat' (first | exact At.head | apply At.tail)); done)); exact rfl)) | (apply Ok1.assign; exact rfl) | (apply Ok1.nilCheck; exact rfl)) | (apply R.alloc; (iterate 3 exact rfl); intro)) | (apply R.is0; (apply R.store; (iterate 6 exact rfl); (focus ((repeat' (first | exact Upd.head | apply Upd.tail)); done)); exact rfl)) | apply R.nil | (apply T.is; first | apply T.seq | apply T.region | apply T.block | apply T.skip | apply T.ret | (apply T.cond_f; exact rfl)))
  (apply RetOk.ct; exact rfl; (apply Ld.ownk; exact rfl; exact rfl; exact At.head; exact rfl); exact rfl)
  exact ⟨_, by (focus ((repeat' (first | exact Keep.nil _ | exact Ext.one _ _ | apply Keep.cons | apply Ext.cons)); done)), rfl, rfl⟩
theorem dnew_ok (w : World) : CallM Tryz.prog 163 [.int .i64 2147483647] [] w fun v L => ∃ b cs, v = .tuple #[.pointer (some ⟨b, 0, none⟩), .int .i64 0] ∧ L = [(b, .cells ⟨cs⟩ 385 (0, 0))] := by
  refine enterK (tb := tb) Tryz.func163 rfl Tryz.ntmps163 rfl ?_
  repeat' (first | (apply R.is1; first | (apply R.isBin; (apply R.pure; exact rfl; first | (apply Ok1.lss_f; exact rfl; exact rfl; omega) | (apply Ok1.gtr_f; exact rfl; exact rfl; omega))) | (apply R.pure; exact rfl; first | (apply Ok1.move; exact rfl) | (apply Ok1.assign; exact rfl) | (apply Ok1.build; (iterate 5 exact rfl)) | (apply Ok1.pick_f; exact rfl; exact rfl)) | (apply R.box; (iterate 3 exact rfl); intro)) | (apply R.isG; (apply R.guard_run; exact rfl; exact rfl)) | apply R.nil | (apply T.is; first | apply T.seq | apply T.region | apply T.skip | apply T.ret | (apply T.cond_f; exact rfl)))
  (apply RetOk.tt; exact rfl; exact rfl)
  exact ⟨_, by (focus ((repeat' (first | exact Keep.nil _ | exact Ext.one _ _ | apply Keep.cons)); done)), _, _, rfl, rfl⟩
end Go.Proofs.YtidjnjlejhoalaaGreat
set_option linter.unusedSimpArgs false
set_option linter.unusedVariables false
namespace Go.Proofs.YtidjnjlejhoalaaGreat
open Go.RowKit Go.Shelf
set_option maxRecDepth 100000
/-- Four windows that have taken nothing. -/
def wz4 : List Value := [.int .i64 0, .int .i64 0, .int .u64 0, .int .i64 0, .int .i64 0, .int .u64 0, .int .i64 0, .int .i64 0, .int .u64 0, .int .i64 0, .int .i64 0, .int .u64 0]
/-- A channel's cells. -/
def chC (bn br bb bd : Nat) (sd : List Value) : List Value := [.pointer (some ⟨bn, 0, none⟩), .pointer (some ⟨br, 0, none⟩), .pointer (some ⟨bb, 0, none⟩), .pointer (some ⟨bd, 0, none⟩)] ++ sd
/-- What a new channel is made of. -/
def ChL (bc bn br bb bd bm m1 m2 : Nat) (c : Cl) (s : List Int) (boot : Int) (sd dr : List Value) : Lst := (bc, .cells ⟨chC bn br bb bd sd⟩ 275 (0, 0)) :: ((bn, .cells ⟨[.int .i64 boot, .int .i64 0]⟩ 379 (0, 0)) :: ((bd, .cells ⟨dr⟩ 385 (0, 0)) :: (RL0 br m1 m2 c s ++ BL bb bm [] 0)))
theorem chnew_ok (c : Cl) (hr : c.right) (s : List Int) (hs : s.length = 32) (boot : Int) (hb : NR boot 1) (w : World) : CallM Tryz.prog 63 [.agg ⟨tkC c s⟩, .int .i64 boot] [] w fun v L => ∃ bc bn br bb bd bm m1 m2 sd dr, v = .tuple #[.pointer (some ⟨bc, 0, none⟩), .int .i64 0] ∧ L = ChL bc bn br bb bd bm m1 m2 c s boot sd dr := by
  have htl := tk_len (c := c) hs
  have h1 := fun w1 => ring_new c hr s hs w1
  have h2 := fun w1 => wstart_ok boot hb w1
  refine enterK (tb := tb) Tryz.func63 rfl Tryz.ntmps63 rfl ?_
  repeat' (first | (apply R.is1; first | (apply R.isBin; (apply R.pure; exact rfl; (apply Ok1.neq_f; exact rfl; exact rfl; omega))) | (apply R.isCall; first | (apply R.callE (vs := [.agg ⟨tkC c s⟩]); (iterate 3 exact rfl); exact Ext.none _; intro w1 hw1; exact h1 w1; rintro x Lo ⟨br, m1, m2, rfl, rfl⟩) | (apply R.callE (vs := [.int .i64 boot]); (iterate 3 exact rfl); exact Ext.none _; intro w1 hw1; exact h2 w1; rintro x Lo ⟨bn, rfl, rfl⟩) | (apply R.callE (vs := [.int .i64 2147483647]); (iterate 3 exact rfl); exact Ext.none _; intro w1 hw1; exact dnew_ok w1; rintro x Lo ⟨bd, dr, rfl, rfl⟩) | (apply R.callE (vs := []); (iterate 3 exact rfl); exact Ext.none _; intro w1 hw1; exact New_ok w1; rintro x Lo ⟨bb, bm, rfl, rfl⟩)) | (apply R.pure; exact rfl; first | (apply Ok1.load; exact rfl; (apply Ld.ownk; exact rfl; exact rfl; exact At.head; exact subE_all htl)) | (apply Ok1.move; exact rfl) | (apply Ok1.assign; exact rfl) | (apply Ok1.build; (iterate 5 exact rfl)) | (apply Ok1.extract; exact rfl; exact rfl)) | (apply R.box; (iterate 3 exact rfl); intro)) | apply R.nil | (apply T.is; first | apply T.seq | apply T.region | apply T.skip | apply T.ret | (apply T.cond_f; exact rfl)))
  rename_i bc
  (apply RetOk.tt; exact rfl; exact rfl)
  refine ⟨_, ?_, bc, bn, br, bb, bd, bm, m1, m2, wz4, dr, rfl, rfl⟩
  unfold ChL chC wz4
  (focus ((repeat' (first | exact Keep.nil _ | exact Ext.one _ _ | apply Keep.cons | apply Ext.cons)); done))
theorem chown_ok (bc bn br bb bd : Nat) (sd : List Value) (e1 : TypeId) (f1 : Nat × Nat) (c : Cl) (s : List Int) (hs : s.length = 32) (m1 m2 : Nat) (e : TypeId) (w : World) (hc : w.heap[bc]? = some (.cells ⟨chC bn br bb bd sd⟩ e1 f1)) (hb : w.heap[br]? = some (.cells ⟨ringC c s m1 m2⟩ e (0, 0))) :
    CallM Tryz.prog 154 [.pointer (some ⟨bc, 0, none⟩)] [] w fun v L => v = .agg ⟨clC c⟩ ∧ L = [] := by
  have hown := fun w1 (h : Chg [] w w1) => rown_ok br c s hs m1 m2 e w1 (h.heap hb List.not_mem_nil)
  have htc := tk_cl c s
  unfold chC at hc
  refine enterK (tb := tb) Tryz.func154 rfl Tryz.ntmps154 rfl ?_
  repeat' (first | (apply R.is1; first | (apply R.isCall; (apply R.callE (vs := [.pointer (some ⟨br, 0, none⟩)]); (iterate 3 exact rfl); exact Ext.none _; intro w1 hw1; exact hown w1 hw1.chg; rintro x Lo ⟨rfl, rfl⟩)) | (apply R.pure; exact rfl; first | (apply Ok1.load; exact rfl; (apply Ld.blk1; exact rfl; exact rfl; exact hc; exact List.not_mem_nil; exact rfl)) | (apply Ok1.fieldk; (iterate 6 exact rfl); exact htc) | (apply Ok1.move; exact rfl) | (apply Ok1.fieldAddr; (iterate 5 exact rfl)) | (apply Ok1.nilCheck; exact rfl)) | (apply R.alloc; (iterate 3 exact rfl); intro)) | (apply R.is0; (apply R.store; (iterate 6 exact rfl); exact Upd.head; exact rfl)) | apply R.nil | (apply T.is; first | apply T.seq | apply T.region | apply T.ret))
  all_goals (apply RetOk.c; exact rfl; (apply Ld.ownk; exact rfl; exact rfl; exact At.head; exact rfl))
  exact ⟨_, by (focus ((repeat' (exact Keep.nil _)); done)), rfl, rfl⟩
/-- A kind's way. -/
def wayI (k : Int) : Int := if k = 1 ∨ k = 3 ∨ k = 5 ∨ k = 11 ∨ k = 14 then 1 else if k = 2 ∨ k = 4 ∨ k = 6 ∨ k = 12 then 2 else if k = 7 ∨ k = 8 ∨ k = 9 ∨ k = 10 ∨ k = 13 then 3 else 0
theorem way_ok (k : Int) : CallP Tryz.prog 62 [.int .i64 k] (.int .i64 (wayI k)) := by
  refine enterP (tb := tb) Tryz.func62 rfl Tryz.ntmps62 rfl fun w => ?_
  repeat' (first | (apply R.is1; first | (apply R.isBin; (apply R.eql rfl rfl rfl <;> intro)) | (apply R.pure; exact rfl; first | (apply Ok1.move; exact rfl) | (apply Ok1.assign; exact rfl))) | apply R.nil | (apply T.is; first | apply T.seq | apply T.region | apply T.block | apply T.skip | apply T.ret | (apply T.cond_t; exact rfl) | (apply T.cond_f; exact rfl)))
  all_goals (apply RetOk.t; exact rfl)
  all_goals (simp only [wayI]; congr 1; (repeat' split) <;> omega)
end Go.Proofs.YtidjnjlejhoalaaGreat
set_option linter.unusedSimpArgs false
set_option linter.unusedVariables false
namespace Go.Proofs.YtidjnjlejhoalaaGreat
open Go.RowKit Go.Shelf
set_option maxRecDepth 100000
theorem chkey_ok (bc bn br bb bd : Nat) (sd : List Value) (e1 : TypeId) (f1 : Nat × Nat) (c : Cl) (s : List Int) (hs : s.length = 32) (hsb : Byt s) (m1 m2 : Nat) (e : TypeId) (k to : Int) (hk : wayI k = 3) (h1 : 1 ≤ to) (h2 : to ≤ 65535) (w : World) (hc : w.heap[bc]? = some (.cells ⟨chC bn br bb bd sd⟩ e1 f1)) (hb : w.heap[br]? = some (.cells ⟨ringC c s m1 m2⟩ e (0, 0))) :
    CallM Tryz.prog 152 [.pointer (some ⟨bc, 0, none⟩), .int .i64 k, .int .i64 to] [] w fun v L => ∃ bk' ov, v = .tuple #[.pointer (some ⟨bk', 0, none⟩), .int .i64 0] ∧ OvOk 1 ov 32 (u8s (senderI s to)) ∧ L = KL bk' ov (senderI s to) := by
  have hto := fun w1 (h : Chg [] w w1) => to_ok br c s hs hsb m1 m2 e to h1 h2 w1 (h.heap hb List.not_mem_nil)
  have hw := way_ok k
  rw [hk] at hw
  unfold chC at hc
  refine enterK (tb := tb) Tryz.func152 rfl Tryz.ntmps152 rfl ?_
  repeat' (first | (apply R.is1; first | (apply R.isBin; (apply R.pure; exact rfl; first | (apply Ok1.eql_t; exact rfl; exact rfl; omega) | (apply Ok1.eql_f; exact rfl; exact rfl; omega))) | (apply R.isCall; first | apply R.callP rfl rfl rfl hw | (apply R.callE (vs := [.pointer (some ⟨br, 0, none⟩), .int .i64 to]); (iterate 3 exact rfl); exact Ext.none _; intro w1 hw1; exact hto w1 hw1.chg; rintro x Lo ⟨bk, ov, rfl, hov, rfl⟩)) | (apply R.pure; exact rfl; first | (apply Ok1.load; exact rfl; (apply Ld.blk1; exact rfl; exact rfl; exact hc; exact List.not_mem_nil; exact rfl)) | (apply Ok1.move; exact rfl) | (apply Ok1.fieldAddr; (iterate 5 exact rfl)) | (apply Ok1.assign; exact rfl) | (apply Ok1.extract; exact rfl; exact rfl) | (apply Ok1.nilCheck; exact rfl))) | apply R.nil | (apply T.is; first | apply T.seq | apply T.region | apply T.block | apply T.ret | (apply T.cond_t; exact rfl) | (apply T.cond_f; exact rfl)))
  (apply RetOk.tt; exact rfl; exact rfl)
  exact ⟨_, by (focus ((repeat' (first | exact Ext.one _ _ | exact Ext.here _ _ | apply Keep.cons | apply Keep.last)); done)), bk, ov, rfl, hov, rfl⟩
theorem way3 {k : Int} (h : wayI k = 3) : ¬ (k = 1 ∨ k = 2) := by
  intro g
  rcases g with rfl | rfl
  · exact absurd h (by decide)
  · exact absurd h (by decide)
/-- The bytes that a channel writes to the side. -/
def wrI (c : Cl) (s : List Int) (k to boot n : Int) (body : List Int) : List Int := pkB k c to boot n body (pkT (senderI s to) k c to boot n body)
theorem chwrite_ok (bc bn br bb bd : Nat) (sd : List Value) (e1 : TypeId) (f1 : Nat × Nat) (c : Cl) (s : List Int) (hs : s.length = 32) (hsb : Byt s) (m1 m2 : Nat) (e : TypeId) (k to : Int) (hk : wayI k = 3) (h1 : 1 ≤ to) (h2 : to ≤ 65535) (boot cnt : Int) (h0 : 0 ≤ cnt) (h3 : cnt < 2147483647) (p : Option Addr) (n cap : Nat) (body : List Int) (hn : n = body.length) (hE : pckE k c to boot (cnt + 1) n (zI 32) = 0) (hbb : Byt body) (w : World) (hc : w.heap[bc]? = some (.cells ⟨chC bn br bb bd sd⟩ e1 f1)) (hb : w.heap[br]? = some (.cells ⟨ringC c s m1 m2⟩ e (0, 0))) (hne1 : bc ≠ bn) (hne2 : br ≠ bn) (hbd : RdSl w p u8V body) (hq : body ≠ [] → Off p [bn]) :
    CallM Tryz.prog 59 [.pointer (some ⟨bc, 0, none⟩), .int .i64 k, .int .i64 to, .slice p n cap] [(bn, .cells ⟨[.int .i64 boot, .int .i64 cnt]⟩ 379 (0, 0))] w fun v L => ∃ ov, OvOk 1 ov (wrI c s k to boot (cnt + 1) body).length (u8s (wrI c s k to boot (cnt + 1) body)) ∧ v = .tuple #[slV ov (wrI c s k to boot (cnt + 1) body).length, .int .i64 0] ∧ L = (bn, .cells ⟨[.int .i64 boot, .int .i64 (cnt + 1)]⟩ 379 (0, 0)) :: blkL 5 ov (u8s (wrI c s k to boot (cnt + 1) body)) := by
  have hnp := way3 hk
  have hz : (zI 32).length = 32 := rfl
  have hn5 : n ≤ 512 := (pckE_zero hE).2.2.2.2.1
  have hm1 : bc ∉ [bn] := by simpa using hne1
  have hm2 : br ∉ [bn] := by simpa using hne2
  have hky := fun w1 (h : Chg [bn] w w1) => chkey_ok bc bn br bb bd sd e1 f1 c s hs hsb m1 m2 e k to hk h1 h2 w1 (h.heap hc hm1) (h.heap hb hm2)
  have how := fun w1 (h : Chg [bn] w w1) => chown_ok bc bn br bb bd sd e1 f1 c s hs m1 m2 e w1 (h.heap hc hm1) (h.heap hb hm2)
  have hpl := pplain_ok k
  rw [decide_eq_false hnp] at hpl
  have hkl : (senderI s to).length = 32 := derive_len _ _ _
  have hkb : Byt (senderI s to) := derive_byt _ _ _
  have htl : (pkT (senderI s to) k c to boot (cnt + 1) body).length = 32 := by unfold pkT; exact hmac_len _ _
  have htg := fun bk w1 (h : Chg [bn] w w1) hK => ptagged_ok k c to boot (cnt + 1) p n cap (zI 32) body hz hnp hE hn hbb bk (senderI s to) (by rw [hkl]; decide) hkb w1 hK (hbd.chg' h hq)
  have hE2 : pckE k c to boot (cnt + 1) n (pkT (senderI s to) k c to boot (cnt + 1) body) = 0 := by rw [pckE_np _ (zI 32) hnp]; exact hE
  have hby := fun p2 cap2 w1 h => pbytes_ok k c to boot (cnt + 1) p2 n cap2 (pkT (senderI s to) k c to boot (cnt + 1) body) body htl hE2 hn w1 h
  have hl1 := fun p2 cap2 => pk_len k c to boot (cnt + 1) p2 n cap2 htl
  have ho1 := fun p2 cap2 => pk_one k c to boot (cnt + 1) p2 n cap2 (pkT (senderI s to) k c to boot (cnt + 1) body)
  unfold wrI
  generalize pkT (senderI s to) k c to boot (cnt + 1) body = TG at *
  generalize pkB k c to boot (cnt + 1) body TG = PB at *
  generalize hSD : senderI s to = SD at *
  refine enterK (tb := tb) Tryz.func59 rfl Tryz.ntmps59 rfl ?_
  simp only [pkC] at hl1 ho1 htg hby
  repeat' (first | (apply R.is1; first | (apply R.isBin; (apply R.pure; exact rfl; first | (apply Ok1.eqlP; (iterate 5 exact rfl)) | (apply Ok1.gtr_f; exact rfl; exact rfl; omega) | (apply Ok1.neq_f; exact rfl; exact rfl; omega))) | (apply R.isCall; first | (apply R.callE (vs := [.pointer (some ⟨bc, 0, none⟩), .int .i64 k, .int .i64 to]); (iterate 3 exact rfl); exact Ext.none _; intro w1 hw1; exact hky w1 hw1.chg; rintro x Lo ⟨bk, ovk, rfl, hovk, rfl⟩) | (apply R.pure; exact rfl; (apply Ok1.lenS; (iterate 3 exact rfl)))) | (apply R.pure; exact rfl; first | (apply Ok1.load; exact rfl; (apply Ld.blk1; exact rfl; exact rfl; exact hc; exact hm1; exact rfl)) | (apply Ok1.move; exact rfl) | (apply Ok1.fieldAddr; (iterate 5 exact rfl)) | (apply Ok1.assign; exact rfl) | (apply Ok1.extract; exact rfl; exact rfl) | (apply Ok1.nilCheck; exact rfl))) | apply R.nil | (apply T.is; first | apply T.seq | apply T.region | apply T.block | apply T.skip | (apply T.cond_f; exact rfl)))
  have hovk2 : OvOk 1 ovk SD.length (u8s SD) := by rw [hkl]; exact hovk
  have hkr : ∀ L w1, Hp w [bn] L w1 → (∀ z ∈ KL bk ovk SD, z ∈ L) → KeyR w1 bk SD := fun L w1 h4 h5 => KeyR.of hovk2 h4 h5
  generalize KL bk ovk SD = KK at hkr ⊢
  repeat' (first | (apply R.is1; first | (apply R.isBin; (apply R.pure; exact rfl; (apply Ok1.neq_f; exact rfl; exact rfl; omega))) | (apply R.isCall; (apply R.callE (Li := [(bn, .cells ⟨[.int .i64 boot, .int .i64 cnt]⟩ 379 (0, 0))]) (vs := [.pointer (some ⟨bn, 0, none⟩)]); (iterate 3 exact rfl); (focus ((repeat' (first | exact Ext.one _ _ | apply Ext.app)); done)); intro w1 hw1; exact wnext_ok bn boot cnt h0 h3 w1; rintro x Lo ⟨rfl, rfl⟩)) | (apply R.pure; exact rfl; first | (apply Ok1.move; exact rfl) | (apply Ok1.assign; exact rfl) | (apply Ok1.extract; exact rfl; exact rfl)) | (apply R.alloc; (iterate 3 exact rfl); intro)) | (apply R.is0; (apply R.store; (iterate 6 exact rfl); exact Upd.head; exact rfl)) | apply R.nil | (apply T.is; first | (apply T.drawC (id := 11) [0] (by decide); ((apply A.take 0; exact rfl; exact rfl; kernel_rfl; kernel_rfl; kernel_rfl; (apply Ok1.move; exact rfl)) <;> (apply A.take 1; exact rfl; exact rfl; kernel_rfl; kernel_rfl; kernel_rfl; (apply Ok1.move; exact rfl)) <;> (apply A.take 3; exact rfl; exact rfl; kernel_rfl; kernel_rfl; kernel_rfl; (apply Ok1.move; exact rfl)) <;> (apply A.take 4; exact rfl; exact rfl; kernel_rfl; kernel_rfl; kernel_rfl; (apply Ok1.load; exact rfl; (apply Ld.ownk; exact rfl; exact rfl; exact At.head; exact rfl))) <;> (apply A.take 5; exact rfl; exact rfl; kernel_rfl; kernel_rfl; kernel_rfl; (apply Ok1.move; exact rfl)) <;> (apply A.two 2 7; kernel_rfl; exact rfl; exact rfl; rotate_left 1; (focus (((((apply R.alloc; (iterate 3 exact rfl); intro))); apply R.nil; refine ⟨?_, ?_⟩; (focus ((repeat' (first | exact trivial | (refine ⟨?_, ?_⟩; (focus ((repeat' (first | exact At.head | apply At.tail)); done)))))))) <;> (apply A.one 2; kernel_rfl; exact rfl; (((apply R.callE (vs := [.pointer (some ⟨bc, 0, none⟩)]); (iterate 3 exact rfl); exact Ext.none _; intro w1 hw1; exact how w1 hw1.chg; rintro x Lo ⟨rfl, rfl⟩))); apply R.nil; refine ⟨?_, ?_⟩; (focus ((repeat' (first | exact trivial | (refine ⟨?_, ?_⟩; (focus ((repeat' (first | exact At.head | apply At.tail)); done)))))))) <;> (apply A.take 6; exact rfl; exact rfl; kernel_rfl; kernel_rfl; kernel_rfl; (apply Ok1.build; (iterate 5 exact rfl))) <;> (apply A.one 8; kernel_rfl; exact rfl; (((apply R.store; (iterate 6 exact rfl); exact Upd.head; exact rfl))); apply R.nil; refine ⟨?_, ?_⟩; (focus ((repeat' (first | exact trivial | (refine ⟨?_, ?_⟩; (focus ((repeat' (first | exact At.head | apply At.tail)); done)))))))) <;> (apply A.done; kernel_rfl))); rotate_right 1; (focus (((((apply R.callE (vs := [.pointer (some ⟨bc, 0, none⟩)]); (iterate 3 exact rfl); exact Ext.none _; intro w1 hw1; exact how w1 hw1.chg; rintro x Lo ⟨rfl, rfl⟩))); apply R.nil; refine ⟨?_, ?_⟩; (focus ((repeat' (first | exact trivial | (refine ⟨?_, ?_⟩; exact At.head)))))) <;> (apply A.take 6; exact rfl; exact rfl; kernel_rfl; kernel_rfl; kernel_rfl; (apply Ok1.build; (iterate 5 exact rfl))) <;> (apply A.one 7; kernel_rfl; exact rfl; (((apply R.alloc; (iterate 3 exact rfl); intro))); apply R.nil; refine ⟨?_, ?_⟩; (focus ((repeat' (first | exact trivial | (refine ⟨?_, ?_⟩; (focus ((repeat' (first | exact At.head | apply At.tail)); done)))))))) <;> (apply A.one 8; kernel_rfl; exact rfl; (((apply R.store; (iterate 6 exact rfl); exact Upd.head; exact rfl))); apply R.nil; refine ⟨?_, ?_⟩; (focus ((repeat' (first | exact trivial | (refine ⟨?_, ?_⟩; (focus ((repeat' (first | exact At.head | apply At.tail)); done)))))))) <;> (apply A.done; kernel_rfl)))))) | apply T.seq | apply T.region | apply T.skip | (apply T.cond_f; exact rfl)))
  all_goals repeat' (first | (apply R.is1; first | (apply R.isBin; (apply R.pure; exact rfl; (apply Ok1.neq_f; exact rfl; exact rfl; omega))) | (apply R.isCall; first | apply R.callP rfl rfl rfl hpl | (apply R.callE (vs := [.agg _, .pointer (some ⟨bk, 0, none⟩)]); (iterate 3 exact rfl); exact Ext.none _; intro w1 hw1; exact htg bk w1 hw1.chg (hkr _ w1 hw1 (Ext.mem (by (focus ((repeat' (first | exact Ext.here _ _ | apply Ext.cons | apply Ext.app)); done))))); rintro x Lo ⟨ovt, hovt, rfl, rfl⟩) | (apply R.callE (vs := [.agg _]); (iterate 3 exact rfl); exact Ext.none _; intro w1 hw1; exact hby (ovp ovt) (ovc ovt n) w1 (RdSl.own' hw1 (Ext.mem (by rw [fl_u8]; (focus ((repeat' (exact Ext.here _ _)); done)))) (by rw [fl_u8, ← hn]; exact hovt) u8V_len); rintro x Lo ⟨ovb, hovb, rfl, rfl⟩)) | (apply R.pure; exact rfl; first | (apply Ok1.load; exact rfl; first | (apply Ld.ownk; exact rfl; exact rfl; (focus ((repeat' (first | exact At.head | apply At.right)); done)); exact rfl) | (apply Ld.ownk; exact rfl; exact rfl; (focus ((repeat' (first | exact At.head | apply At.right)); done)); exact subE_all (hl1 _ _))) | (apply Ok1.move; exact rfl) | (apply Ok1.assign; exact rfl) | (apply Ok1.extract; exact rfl; exact rfl) | (apply Ok1.not_f; exact rfl))) | (apply R.is0; (apply R.store; (iterate 4 exact rfl); exact (hl1 _ _); exact (ho1 _ _); (focus ((repeat' (first | exact Upd.head | apply Upd.right)); done)); exact setE_all (hl1 _ _))) | apply R.nil | (apply T.is; first | apply T.seq | apply T.region | apply T.skip | apply T.ret | (apply T.cond_t; exact rfl) | (apply T.cond_f; exact rfl)))
  all_goals (apply RetOk.tt; exact rfl; exact rfl)
  all_goals exact ⟨_, by (focus ((repeat' (first | exact Ext.one _ _ | exact Ext.here _ _ | apply Keep.cons | apply Keep.last | apply Ext.cons | apply Ext.app)); done)), ovb, hovb, rfl, rfl⟩
end Go.Proofs.YtidjnjlejhoalaaGreat
set_option linter.unusedSimpArgs false
set_option linter.unusedVariables false
namespace Go.Proofs.YtidjnjlejhoalaaGreat
open Go.RowKit Go.Shelf
set_option maxRecDepth 100000
/-- The next n bytes, one by one; what is left. -/
def Rs.raws (s : Rs) : Nat → List Int × Rs
  | 0 => ([], s)
  | n + 1 => ((s.raws n).1 ++ [((s.raws n).2.num 1).1], ((s.raws n).2.num 1).2.2)
theorem Rs.raws_len (s : Rs) (n : Nat) : (s.raws n).1.length = n := by
  induction n with
  | zero => rfl
  | succ n ih => simp [Rs.raws, ih]
theorem Rs.ok.raws {s : Rs} {br : Nat} {w : World} (h : s.ok br w) (n : Nat) : (s.raws n).2.ok br w := by
  induction n with
  | zero => exact h
  | succ n ih => exact ih.num 1
theorem Rs.num1_range9 {s : Rs} (h : Byt s.xs) : 0 ≤ (s.num 1).1 ∧ (s.num 1).1 ≤ 255 := by
  unfold Rs.num
  by_cases h1 : s.e ≠ 0 ∨ s.xs.length < 1
  · rw [if_pos h1]; exact ⟨Int.le_refl 0, by show (0 : Int) ≤ 255; decide⟩
  rw [if_neg h1]
  have hb := be_range 1 (s.xs.take 1) (by rw [List.length_take]; omega) fun y hy => h y (List.mem_of_mem_take hy)
  split <;> simp only <;> omega
theorem raw_ok (br : Nat) (s : Rs) (n : Nat) (hn : n ≤ 1000) (w : World) (hs : s.ok br w) : CallM Tryz.prog 176 [.agg ⟨[.pointer (some ⟨br, 0, none⟩)]⟩, .int .i64 n] (s.L br) w fun v L => ∃ ov, OvOk 1 ov n (u8s (s.raws n).1) ∧ v = slV ov n ∧ L = (s.raws n).2.L br ++ blkL 5 ov (u8s (s.raws n).1) := by
  have hbl0 := rL_blk s br
  refine enterK (tb := tb) Tryz.func176 rfl Tryz.ntmps176 rfl ?_
  generalize hL0 : s.L br = L0 at *
  repeat' (first | (apply R.is1; first | (apply R.pure; exact rfl; first | (apply Ok1.move; exact rfl) | (apply Ok1.assign; exact rfl)) | (apply R.box; (iterate 3 exact rfl); intro)) | apply R.nil | (apply T.is; first | apply T.seq | apply T.region | apply T.block))
  rename_i b2
  apply T.loopK (α := Nat × Ov) (I := fun y => y.1 ≤ n ∧ OvOk 1 y.2 y.1 (u8s (s.raws y.1).1)) (σi := fun y => [(1, .int .i64 n), (2, .pointer (some ⟨b2, 0, none⟩)), (5, slV y.2 y.1), (6, .int .i64 n), (7, .int .i64 y.1)]) (Li := fun y => (s.raws y.1).2.L br ++ ((b2, .cells ⟨[.pointer (some ⟨br, 0, none⟩)]⟩ 321 (0, 0)) :: blkL 5 y.2 (u8s (s.raws y.1).1))) (μ := fun y => n - y.1) (i0 := (0, none))
  · exact ⟨Nat.zero_le _, OvOk.start 1⟩
  · exact ⟨rfl, rfl, rfl, rfl, rfl, trivial⟩
  · simp only [Rs.raws, hL0]
    (focus ((repeat' (first | exact Keep.nil _ | exact Ext.one _ _ | exact Ext.all _ | apply Keep.cons | apply Keep.app | apply Ext.cons)); done))
  · rintro ⟨i, ov⟩ ⟨hi, hov⟩
    simp only at hi hov ⊢
    have hsi := hs.raws i
    have hrl := s.raws_len i
    rcases Nat.lt_or_ge i n with hlt | hge
    · have hnum := fun w1 h => rnum_ok br (s.raws i).2 0 1 (by decide) rfl w1 h
      have hrg := Rs.num1_range9 hsi.byt
      have hr1 : (s.raws (i + 1)).1 = (s.raws i).1 ++ [((s.raws i).2.num 1).1] := rfl
      have hr2 : (s.raws (i + 1)).2 = ((s.raws i).2.num 1).2.2 := rfl
      generalize hL1 : ((s.raws i).2.num 1).2.2.L br = L1 at *
      generalize hx : ((s.raws i).2.num 1).1 = x at *
      generalize (s.raws i).1 = RX at *
      generalize hLi : (s.raws i).2.L br = LI at *
      generalize (s.raws i).2 = si at *
      repeat' (first | (apply R.is1; first | (apply R.isBin; (apply R.pure; exact rfl; first | (apply Ok1.add64; exact rfl; exact rfl; omega; omega) | (apply Ok1.lss_t; exact rfl; exact rfl; omega))) | (apply R.isCall; first | (apply R.callE (Li := LI); (iterate 3 exact rfl); (focus ((repeat' (exact Ext.here _ _)); done)); intro w1 hw1; exact hnum w1 (hsi.chg hw1.chg hbl0); rintro v Lo ⟨rfl, hq⟩; rw [hq]; clear hq) | (apply R.appendRd (xs := [x]) (v := u8V) (sz := 1) (ov := ov) (n := i) (m := 1) (old := u8s RX); (iterate 12 exact rfl); exact hov; (focus ((repeat' (first | exact Ext.all _ | apply Ext.cons | apply Ext.app)); done)); exact rfl; exact u8V_len; exact rfl; (intro w1 hw1; exact RdSl.of (junk := []) hw1 (by exact At.head) rfl); (focus (rw [fl_u8]; exact u8s_one _)); omega; intro ov1 hov1 hsome; rw [fl_u8, ← u8s_app]; rw [fl_u8, ← u8s_app] at hov1)) | (apply R.pure; exact rfl; first | (apply Ok1.move; exact rfl) | (apply Ok1.fieldAddr; (iterate 5 exact rfl)) | (apply Ok1.load; exact rfl; (apply Ld.own1; exact rfl; exact rfl; (focus ((repeat' (first | exact At.head | apply At.right)); done)); exact rfl)) | (apply Ok1.assign; exact rfl) | (apply Ok1.convU8; (iterate 5 exact rfl); omega; omega)) | (apply R.buildSlice; (iterate 12 exact rfl); intro)) | apply R.nil | (apply T.is; first | apply T.seq | apply T.region | apply T.block | apply T.skip | (apply T.cond_t; exact rfl)))
      refine ⟨(i + 1, ov1), ⟨by simp only; omega, ?_⟩, by simp only; omega, ⟨rfl, rfl, rfl, rfl, rfl, trivial⟩, ?_⟩
      · show OvOk 1 ov1 (i + 1) (u8s (s.raws (i + 1)).1)
        rw [hr1]; exact hov1
      · show Keep _ ((s.raws (i + 1)).2.L br ++ (_ :: blkL 5 ov1 (u8s (s.raws (i + 1)).1)))
        rw [hr1, hr2, hL1]
        (focus ((repeat' (first | exact Ext.one _ _ | exact Ext.here _ _ | apply Keep.cons | apply Keep.app | apply Keep.last | apply Ext.cons | apply Ext.app)); done))
    · have him : n = i := by omega
      subst him
      generalize (s.raws n).2.L br = LI at *
      repeat' (first | (apply R.is1; first | (apply R.isBin; (apply R.pure; exact rfl; (apply Ok1.lss_f; exact rfl; exact rfl; omega))) | (apply R.pure; exact rfl; first | (apply Ok1.move; exact rfl) | (apply Ok1.assign; exact rfl))) | apply R.nil | (apply T.is; first | apply T.seq | apply T.region | apply T.exit | apply T.ret | (apply T.cond_f; exact rfl)))
      (apply RetOk.t; exact rfl)
      exact ⟨_, by (focus ((repeat' (first | exact Ext.here _ _ | exact Ext.all _ | apply Keep.app | apply Keep.last | apply Ext.cons)); done)), ov, hov, rfl, rfl⟩
end Go.Proofs.YtidjnjlejhoalaaGreat
set_option linter.unusedSimpArgs false
set_option linter.unusedVariables false
namespace Go.Proofs.YtidjnjlejhoalaaGreat
open Go.RowKit Go.Shelf
set_option maxRecDepth 100000
/-- The next bytes behind their number; what is left. -/
def Rs.gb (s : Rs) : List Int × Rs :=
  if (s.num 2).2.1 = false then ([], (s.num 2).2.2) else if 512 < (s.num 2).1 then ([], (s.num 2).2.2.fail 3) else if (s.num 2).2.2.xs.length < (s.num 2).1.toNat then ([], (s.num 2).2.2.fail 4) else ((s.num 2).2.2.xs.take (s.num 2).1.toNat, (s.num 2).2.2.drop (s.num 2).1.toNat)
theorem Rs.num_true {s : Rs} {k : Nat} (h : (s.num k).2.1 = true) : (s.num k).2.2.e = 0 := by
  unfold Rs.num at h ⊢
  by_cases h1 : s.e ≠ 0 ∨ s.xs.length < k
  · rw [if_pos h1] at h; cases h
  rw [if_neg h1] at h ⊢
  have he : s.e = 0 := Classical.byContradiction fun g => h1 (.inl g)
  split at h
  · rw [if_pos ‹_›]; exact he
  · cases h
theorem Rs.num_nonneg {s : Rs} (k : Nat) (h : Byt s.xs) : 0 ≤ (s.num k).1 := by
  unfold Rs.num
  by_cases h1 : s.e ≠ 0 ∨ s.xs.length < k
  · rw [if_pos h1]; exact Int.le_refl 0
  rw [if_neg h1]
  have hb := be_range k (s.xs.take k) (by rw [List.length_take]; omega) fun y hy => h y (List.mem_of_mem_take hy)
  split
  · exact hb.1
  · exact Int.le_refl 0
theorem Rs.gb_len (s : Rs) : s.gb.1.length ≤ 512 := by
  unfold Rs.gb
  split
  · exact Nat.zero_le _
  split
  · exact Nat.zero_le _
  split
  · exact Nat.zero_le _
  · simp only [List.length_take]; omega
theorem rgetB_ok (br : Nat) (s : Rs) (w : World) (hs : s.ok br w) : CallM Tryz.prog 200 [.pointer (some ⟨br, 0, none⟩), .int .i64 4] (s.L br) w fun v L => ∃ ov z, OvOk 1 ov s.gb.1.length (u8s s.gb.1) ∧ v = .agg ⟨[.int .i64 z, .int .i64 0, .slice (ovp ov) s.gb.1.length (ovc ov s.gb.1.length)]⟩ ∧ L = s.gb.2.L br ++ blkL 5 ov (u8s s.gb.1) := by
  have hbl0 := rL_blk s br
  have hn := fun w1 h1 => rnumber_ok br s 1 2 (by decide) rfl w1 h1
  have ht := hs.num 2
  have htr := fun h => Rs.num_true (s := s) (k := 2) h
  have hn0 := Rs.num_nonneg (s := s) 2 hs.byt
  unfold Rs.gb
  generalize s.num 2 = r at *
  obtain ⟨v1, v2, t⟩ := r
  simp only at hn ht htr hn0 ⊢
  cases v2 with
  | false =>
    rw [if_pos rfl]
    generalize s.L br = L0 at *
    generalize t.L br = L1 at *
    refine enterK (tb := tb) Tryz.func200 rfl Tryz.ntmps200 rfl ?_
    repeat' (first | (apply R.is1; first | (apply R.isBin; (apply R.pure; exact rfl; first | (apply Ok1.lss_f; exact rfl; exact rfl; omega) | (apply Ok1.gtr_f; exact rfl; exact rfl; omega) | (apply Ok1.eqlP; (iterate 5 exact rfl)))) | (apply R.isCall; (apply R.callE (Li := L0); (iterate 3 exact rfl); (focus ((repeat' (first | exact Ext.all _ | apply Ext.cons)); done)); intro w1 hw1; exact hn w1 (hs.chg hw1.chg hbl0); rintro v Lo ⟨rfl, hq⟩; rw [hq]; clear hq)) | (apply R.pure; exact rfl; first | (apply Ok1.move; exact rfl) | (apply Ok1.fieldAddr; (iterate 5 exact rfl)) | (apply Ok1.assign; exact rfl) | (apply Ok1.build; (iterate 5 exact rfl)) | (apply Ok1.extract; exact rfl; exact rfl) | (apply Ok1.pick_f; exact rfl; exact rfl) | (apply Ok1.not_f; exact rfl) | (apply Ok1.nilCheck; exact rfl)) | (apply R.alloc; (iterate 3 exact rfl); intro)) | (apply R.is0; (apply R.store; (iterate 6 exact rfl); (focus ((repeat' (first | exact Upd.head | apply Upd.right)); done)); exact rfl)) | (apply R.isG; first | (apply R.guard_run; exact rfl; exact rfl) | (apply R.guard_not; (iterate 3 exact rfl))) | apply R.nil | (apply T.is; first | apply T.seq | apply T.region | apply T.block | apply T.skip | apply T.ret | (apply T.cond_t; exact rfl) | (apply T.cond_f; exact rfl)))
    (apply RetOk.c; exact rfl; ((apply Ld.ownk; exact rfl; exact rfl; (focus ((repeat' (first | exact At.head | apply At.right)); done)); exact rfl)))
    exact ⟨_, by (focus ((repeat' (first | exact Ext.here _ _ | apply Keep.last)); done)), none, 0, OvOk.start 1, rfl, (List.append_nil _).symm⟩
  | true =>
    rw [if_neg (by decide)]
    have hte := htr rfl
    by_cases h5 : 512 < v1
    · rw [if_pos h5]
      have hf := fun w1 => rfail_ok br t 3 w1
      simp only
      generalize s.L br = L0 at *
      generalize t.L br = L1 at *
      generalize (t.fail 3).L br = L2 at *
      refine enterK (tb := tb) Tryz.func200 rfl Tryz.ntmps200 rfl ?_
      repeat' (first | (apply R.is1; first | (apply R.isBin; (apply R.pure; exact rfl; first | (apply Ok1.lss_f; exact rfl; exact rfl; omega) | (apply Ok1.gtr_t; exact rfl; exact rfl; omega) | (apply Ok1.gtr_f; exact rfl; exact rfl; omega) | (apply Ok1.eqlP; (iterate 5 exact rfl)))) | (apply R.isCall; first | (apply R.callE (Li := L0); (iterate 3 exact rfl); (focus ((repeat' (first | exact Ext.all _ | apply Ext.cons | apply Ext.app)); done)); intro w1 hw1; exact hn w1 (hs.chg hw1.chg hbl0); rintro v Lo ⟨rfl, hq⟩; rw [hq]; clear hq) | (apply R.callE (Li := L1); (iterate 3 exact rfl); (focus ((repeat' (exact Ext.here _ _)); done)); intro w1 hw1; exact hf w1; rintro v Lo ⟨rfl, hq⟩; rw [hq]; clear hq)) | (apply R.pure; exact rfl; first | (apply Ok1.move; exact rfl) | (apply Ok1.fieldAddr; (iterate 5 exact rfl)) | (apply Ok1.assign; exact rfl) | (apply Ok1.build; (iterate 5 exact rfl)) | (apply Ok1.extract; exact rfl; exact rfl) | (apply Ok1.pick_t; exact rfl; exact rfl) | (apply Ok1.pick_f; exact rfl; exact rfl) | (apply Ok1.not_f; exact rfl) | (apply Ok1.nilCheck; exact rfl)) | (apply R.alloc; (iterate 3 exact rfl); intro)) | (apply R.is0; (apply R.store; (iterate 6 exact rfl); (focus ((repeat' (first | exact Upd.head | apply Upd.right)); done)); exact rfl)) | (apply R.isG; (apply R.guard_run; exact rfl; exact rfl)) | apply R.nil | (apply T.is; first | apply T.seq | apply T.region | apply T.block | apply T.skip | apply T.ret | (apply T.cond_t; exact rfl) | (apply T.cond_f; exact rfl)))
      (apply RetOk.c; exact rfl; ((apply Ld.ownk; exact rfl; exact rfl; (focus ((repeat' (first | exact At.head | apply At.right)); done)); exact rfl)))
      exact ⟨_, by (focus ((repeat' (first | exact Ext.here _ _ | apply Keep.last)); done)), none, 0, OvOk.start 1, rfl, (List.append_nil _).symm⟩
    rw [if_neg h5]
    obtain ⟨n, rfl⟩ : ∃ n : Nat, v1 = n := ⟨v1.toNat, by omega⟩
    rw [Int.toNat_natCast]
    by_cases h6 : t.xs.length < n
    · rw [if_pos h6]
      have hk := fun w1 => rtake_no br t n (.inr h6) w1
      have hfe : t.fail 4 = ⟨none, 0, [], 4⟩ := by unfold Rs.fail; rw [if_pos hte]
      simp only [hfe] at hk ⊢
      simp only [Rs.L, List.length_nil] at hk ⊢
      have e1 : (s.L br) = [(br, .cells ⟨[.slice s.q s.xs.length s.cap, .int .i64 s.e]⟩ 249 (0, 0))] := rfl
      have e2 : (t.L br) = [(br, .cells ⟨[.slice t.q t.xs.length t.cap, .int .i64 t.e]⟩ 249 (0, 0))] := rfl
      rw [← e1] 
      rw [← e2] at hk
      generalize s.L br = L0 at *
      generalize t.L br = L1 at *
      refine enterK (tb := tb) Tryz.func200 rfl Tryz.ntmps200 rfl ?_
      repeat' (first | (apply R.is1; first | (apply R.isBin; (apply R.pure; exact rfl; first | (apply Ok1.lss_f; exact rfl; exact rfl; omega) | (apply Ok1.gtr_f; exact rfl; exact rfl; omega) | (apply Ok1.neq_t; exact rfl; exact rfl; omega) | (apply Ok1.eqlP; (iterate 5 exact rfl)))) | (apply R.isCall; first | (apply R.callE (Li := L0) (vs := [.pointer (some ⟨br, 0, none⟩), .int .i64 1]); (iterate 3 exact rfl); (focus ((repeat' (first | exact Ext.all _ | apply Ext.cons)); done)); intro w1 hw1; exact hn w1 (hs.chg hw1.chg hbl0); rintro v Lo ⟨rfl, hq⟩; rw [hq]; clear hq) | (apply R.callE (Li := L1) (vs := [.pointer (some ⟨br, 0, none⟩), .int .i64 n]); (iterate 3 exact rfl); (focus ((repeat' (exact Ext.here _ _)); done)); intro w1 hw1; exact hk w1; rintro v Lo ⟨rfl, rfl⟩)) | (apply R.pure; exact rfl; first | (apply Ok1.move; exact rfl) | (apply Ok1.fieldAddr; (iterate 5 exact rfl)) | (apply Ok1.load; exact rfl; (apply Ld.own1; exact rfl; exact rfl; exact At.head; exact rfl)) | (apply Ok1.assign; exact rfl) | (apply Ok1.build; (iterate 5 exact rfl)) | (apply Ok1.extract; exact rfl; exact rfl) | (apply Ok1.pick_t; exact rfl; exact rfl) | (apply Ok1.pick_f; exact rfl; exact rfl) | (apply Ok1.not_t; exact rfl) | (apply Ok1.nilCheck; exact rfl)) | (apply R.alloc; (iterate 3 exact rfl); intro)) | (apply R.is0; (apply R.store; (iterate 6 exact rfl); (focus ((repeat' (first | exact Upd.head | apply Upd.tail)); done)); exact rfl)) | (apply R.isG; (apply R.guard_run; exact rfl; exact rfl)) | apply R.nil | (apply T.is; first | apply T.seq | apply T.region | apply T.block | apply T.skip | apply T.ret | (apply T.cond_t; exact rfl) | (apply T.cond_f; exact rfl)))
      (apply RetOk.c; exact rfl; ((apply Ld.ownk; exact rfl; exact rfl; (focus ((repeat' (first | exact At.head | apply At.tail)); done)); exact rfl)))
      exact ⟨_, by (focus ((repeat' (first | exact Keep.nil _ | exact Ext.one _ _ | apply Keep.cons)); done)), none, 0, OvOk.start 1, rfl, rfl⟩
    · rw [if_neg h6]
      have hk := fun w1 => rtake_ok br t n hte (by omega) ht.cap w1
      have hpre := ht.rd.pre u8V_len n
      have hlt : (t.xs.take n).length = n := by rw [List.length_take]; omega
      have hcl := fun w1 h1 => clone_ok t.q n n (t.xs.take n) hlt.symm (by omega) w1 h1
      have hof : t.xs.take n ≠ [] → Off t.q [br] := fun h => ht.off (fun h0 => h (by rw [h0]; exact List.take_nil))
      simp only [hlt]
      have e3 : (t.drop n).L br = [(br, .cells ⟨[.slice (t.drop n).q (t.drop n).xs.length (t.drop n).cap, .int .i64 0]⟩ 249 (0, 0))] := by
        have : (t.drop n).e = 0 := hte
        simp only [Rs.L, this]
      rw [e3] at hk ⊢
      generalize t.xs.take n = ys at *
      generalize t.q = tq at *
      generalize t.drop n = t2 at *
      generalize s.L br = L0 at *
      generalize t.L br = L1 at *
      refine enterK (tb := tb) Tryz.func200 rfl Tryz.ntmps200 rfl ?_
      repeat' (first | (apply R.is1; first | (apply R.isBin; (apply R.pure; exact rfl; first | (apply Ok1.lss_f; exact rfl; exact rfl; omega) | (apply Ok1.gtr_f; exact rfl; exact rfl; omega) | (apply Ok1.neq_f; exact rfl; exact rfl; omega) | (apply Ok1.eqlP; (iterate 5 exact rfl)))) | (apply R.isCall; first | (apply R.callE (Li := L0) (vs := [.pointer (some ⟨br, 0, none⟩), .int .i64 1]); (iterate 3 exact rfl); (focus ((repeat' (first | exact Ext.all _ | apply Ext.cons)); done)); intro w1 hw1; exact hn w1 (hs.chg hw1.chg hbl0); rintro v Lo ⟨rfl, hq⟩; rw [hq]; clear hq) | (apply R.callE (Li := L1) (vs := [.pointer (some ⟨br, 0, none⟩), .int .i64 n]); (iterate 3 exact rfl); (focus ((repeat' (exact Ext.here _ _)); done)); intro w1 hw1; exact hk w1; rintro v Lo ⟨rfl, rfl⟩) | (apply R.callE (vs := [.slice tq n n]); (iterate 3 exact rfl); exact Ext.none _; intro w1 hw1; exact hcl w1 (hpre.chg' hw1.chg (fun h => hbl0.symm ▸ hof h)); rintro v Lo ⟨ov, hov, hso, rfl, rfl⟩; rw [slV_eq hov])) | (apply R.pure; exact rfl; first | (apply Ok1.move; exact rfl) | (apply Ok1.fieldAddr; (iterate 5 exact rfl)) | (apply Ok1.load; exact rfl; (apply Ld.own1; exact rfl; exact rfl; exact At.head; exact rfl)) | (apply Ok1.assign; exact rfl) | (apply Ok1.build; (iterate 5 exact rfl)) | (apply Ok1.extract; exact rfl; exact rfl) | (apply Ok1.pick_t; exact rfl; exact rfl) | (apply Ok1.pick_f; exact rfl; exact rfl) | (apply Ok1.not_t; exact rfl) | (apply Ok1.nilCheck; exact rfl)) | (apply R.alloc; (iterate 3 exact rfl); intro)) | (apply R.is0; (apply R.store; (iterate 6 exact rfl); (focus ((repeat' (first | exact Upd.head | apply Upd.tail | apply Upd.right)); done)); exact rfl)) | (apply R.isG; (apply R.guard_run; exact rfl; exact rfl)) | apply R.nil | (apply T.is; first | apply T.seq | apply T.region | apply T.block | apply T.skip | apply T.ret | (apply T.cond_f; exact rfl)))
      (apply RetOk.c; exact rfl; ((apply Ld.ownk; exact rfl; exact rfl; (focus ((repeat' (first | exact At.head | apply At.tail | apply At.right)); done)); exact rfl)))
      exact ⟨_, by (focus ((repeat' (first | exact Ext.one _ _ | exact Ext.here _ _ | exact Ext.all _ | apply Keep.cons | apply Keep.app | apply Keep.last | apply Ext.cons | apply Ext.app)); done)), ov, 4, hov, rfl, rfl⟩
theorem rbytes_ok (br : Nat) (s : Rs) (w : World) (hs : s.ok br w) : CallM Tryz.prog 177 [.pointer (some ⟨br, 0, none⟩), .int .i64 512] (s.L br) w fun v L => ∃ ov, OvOk 1 ov s.gb.1.length (u8s s.gb.1) ∧ v = .slice (ovp ov) s.gb.1.length (ovc ov s.gb.1.length) ∧ L = s.gb.2.L br ++ blkL 5 ov (u8s s.gb.1) := by
  have hbl0 := rL_blk s br
  have hg := fun w1 h1 => rgetB_ok br s w1 h1
  have hl := s.gb_len
  generalize s.gb = g at *
  obtain ⟨ys, t⟩ := g
  simp only at hg hl ⊢
  generalize s.L br = L0 at *
  generalize t.L br = L1 at *
  refine enterK (tb := tb) Tryz.func177 rfl Tryz.ntmps177 rfl ?_
  repeat' (first | (apply R.is1; first | (apply R.isBin; (apply R.pure; exact rfl; first | (apply Ok1.gtr_f; exact rfl; exact rfl; omega) | (apply Ok1.neqP; (iterate 5 exact rfl)))) | (apply R.isCall; first | (apply R.callE (Li := L0); (iterate 3 exact rfl); (focus ((repeat' (exact Ext.all _)); done)); intro w1 hw1; exact hg w1 (hs.chg hw1.chg hbl0); rintro v Lo ⟨ov, z, hov, rfl, hq⟩; rw [hq, List.append_assoc]; clear hq) | (apply R.pure; exact rfl; (apply Ok1.lenS; (iterate 3 exact rfl)))) | (apply R.pure; exact rfl; first | (apply Ok1.move; exact rfl) | (apply Ok1.fieldAddr; (iterate 5 exact rfl)) | (apply Ok1.load; exact rfl; (apply Ld.own1; exact rfl; exact rfl; exact At.head; exact rfl)) | (apply Ok1.assign; exact rfl) | (apply Ok1.pick_t; exact rfl; exact rfl)) | (apply R.alloc; (iterate 3 exact rfl); intro)) | (apply R.is0; (apply R.store; (iterate 6 exact rfl); exact Upd.head; exact rfl)) | (apply R.isG; (apply R.guard_run; exact rfl; exact rfl)) | apply R.nil | (apply T.is; first | apply T.seq | apply T.region | apply T.skip | apply T.ret | (apply T.cond_f; exact rfl)))
  (apply RetOk.t; exact rfl)
  exact ⟨_, by (focus ((repeat' (first | exact Ext.here _ _ | apply Keep.app | apply Keep.last | apply Ext.cons)); done)), ov, hov, rfl, rfl⟩
end Go.Proofs.YtidjnjlejhoalaaGreat
set_option linter.unusedSimpArgs false
set_option linter.unusedVariables false
namespace Go.Proofs.YtidjnjlejhoalaaGreat
open Go.RowKit Go.Shelf
set_option maxRecDepth 100000
theorem RsO.okB {s : Rs} {M : Lst} (h : RsO s M) (br : Nat) : ∀ (w0 w : World) (S : List Nat) (L Lr : Lst), Hp w0 S L w → Ext L (s.L br) Lr → (∀ z ∈ M, z ∈ Lr) → s.ok br w := fun _ _ _ _ _ a b c => h.ok a b c
def prC (s : Rs) : Cl × Int := if (rdC s).2 ≠ 0 then (cl0, (rdC s).2) else if s.c4.fin ≠ 0 then (cl0, s.c4.fin) else ((rdC s).1, 0)
theorem clparse_ok (p : Option Addr) (n cap : Nat) (xs : List Int) (hn : n = xs.length) (hbig : n ≤ 1000000000) (hb : Byt xs) (w : World) (hp : RdSl w p u8V xs) :
    CallM Tryz.prog 95 [.slice p n cap] [] w fun v L => ∃ s : Rs, s.xs = (if n ≤ 1024 then xs else []) ∧ s.e = (if n ≤ 1024 then 0 else 2) ∧ v = .tuple #[kvC (prC s).1, .int .i64 (prC s).2] ∧ L = [] := by
  have hnew := fun w1 (hc : Chg [] w w1) => rnewr_ok p n cap xs hn hbig hb w1 (hp.chg' hc (fun _ => Off.nil _))
  refine enterK (tb := tb) Tryz.func95 rfl Tryz.ntmps95 rfl ?_
  repeat' (first | (apply R.is1; first | (apply R.isCall; (apply R.callE (vs := [.slice p n cap]); (iterate 3 exact rfl); exact Ext.none _; intro w1 hw1; exact hnew w1 hw1.chg; rintro v Lo ⟨br, s, M, rfl, hs1, hs2, hso, rfl⟩; rw [List.append_assoc])) | (apply R.pure; exact rfl; first | (apply Ok1.move; exact rfl) | (apply Ok1.assign; exact rfl)) | (apply R.alloc; (iterate 3 exact rfl); intro)) | apply R.nil | (apply T.is; first | apply T.seq | apply T.region))
  have hsk := hso.okB br
  have hrd := fun w1 h1 => cread_ok br s w1 h1
  have hen := fun w1 h1 => rend_ok br s.c4 w1 h1
  have hm3 : (br, Obj.cells ⟨[.slice s.c4.q s.c4.xs.length s.c4.cap, .int .i64 s.c4.e]⟩ 249 (0, 0)) ∈ s.c4.L br := by simp [Rs.L]
  have hP : prC s = if (rdC s).2 ≠ 0 then (cl0, (rdC s).2) else if s.c4.fin ≠ 0 then (cl0, s.c4.fin) else ((rdC s).1, 0) := rfl
  generalize hpp : prC s = pr at *
  generalize hL4 : s.c4.L br = L4 at *
  generalize s.c4 = s4 at *
  generalize rdC s = rd at *
  obtain ⟨c, e⟩ := rd
  generalize hLS : s.L br = LS at *
  simp only at hP
  simp only [kvC] at hrd
  by_cases h1 : e = 0
  · rw [if_neg (fun h => h h1)] at hP
    by_cases h2 : s4.fin = 0
    · rw [if_neg (fun h => h h2)] at hP
      subst hP
      rw [h2] at hen
      subst h1
      repeat' (first | (apply R.is1; first | (apply R.isBin; (apply R.pure; exact rfl; first | (apply Ok1.eql_t; exact rfl; exact rfl; omega) | (apply Ok1.neq_f; exact rfl; exact rfl; omega))) | (apply R.isCall; first | (apply R.callE (Li := LS) (vs := [.pointer (some ⟨br, 0, none⟩)]); (iterate 3 exact rfl); (focus ((repeat' (first | exact Ext.here _ _ | apply Ext.cons | apply Ext.app)); done)); intro w1 hw1; exact hrd w1 (hsk _ _ _ _ _ hw1 (by (focus ((repeat' (exact Ext.here _ _)); done))) (Ext.mem (by (focus ((repeat' (exact Ext.here _ _)); done))))); rintro v Lo ⟨rfl, hq⟩; rw [hq]; clear hq) | (apply R.callV (vs := [.pointer (some ⟨br, 0, none⟩)]); (iterate 3 exact rfl); intro w1 hw1; (apply hen w1; apply hw1.get; apply Ext.memI9 hm3; (focus ((repeat' (first | exact Ext.here _ _ | apply Ext.cons)); done))))) | (apply R.pure; exact rfl; first | (apply Ok1.move; exact rfl) | (apply Ok1.load; exact rfl; (apply Ld.ownk; exact rfl; exact rfl; exact At.head; exact rfl)) | (apply Ok1.assign; exact rfl) | (apply Ok1.extract; exact rfl; exact rfl)) | (apply R.alloc; (iterate 3 exact rfl); intro)) | (apply R.is0; (apply R.store; (iterate 6 exact rfl); (focus ((repeat' (first | exact Upd.head | apply Upd.tail | apply Upd.right)); done)); exact rfl)) | apply R.nil | (apply T.is; first | apply T.seq | apply T.region | apply T.skip | apply T.ret | (apply T.cond_t; exact rfl) | (apply T.cond_f; exact rfl)))
      (apply RetOk.ct; exact rfl; ((apply Ld.ownk; exact rfl; exact rfl; (focus ((repeat' (first | exact At.head | apply At.tail | apply At.right)); done)); exact rfl)); exact rfl)
      exact ⟨_, by (focus ((repeat' (exact Keep.nil _)); done)), s, hs1, hs2, by rw [hpp]; rfl, rfl⟩
    · rw [if_pos h2] at hP
      subst hP
      subst h1
      generalize s4.fin = e9 at *
      repeat' (first | (apply R.is1; first | (apply R.isBin; (apply R.pure; exact rfl; first | (apply Ok1.eql_t; exact rfl; exact rfl; omega) | (apply Ok1.neq_t; exact rfl; exact rfl; omega))) | (apply R.isCall; first | (apply R.callE (Li := LS) (vs := [.pointer (some ⟨br, 0, none⟩)]); (iterate 3 exact rfl); (focus ((repeat' (first | exact Ext.here _ _ | apply Ext.cons | apply Ext.app)); done)); intro w1 hw1; exact hrd w1 (hsk _ _ _ _ _ hw1 (by (focus ((repeat' (exact Ext.here _ _)); done))) (Ext.mem (by (focus ((repeat' (exact Ext.here _ _)); done))))); rintro v Lo ⟨rfl, hq⟩; rw [hq]; clear hq) | (apply R.callV (vs := [.pointer (some ⟨br, 0, none⟩)]); (iterate 3 exact rfl); intro w1 hw1; (apply hen w1; apply hw1.get; apply Ext.memI9 hm3; (focus ((repeat' (first | exact Ext.here _ _ | apply Ext.cons)); done))))) | (apply R.pure; exact rfl; first | (apply Ok1.move; exact rfl) | (apply Ok1.assign; exact rfl) | (apply Ok1.build; (iterate 5 exact rfl)) | (apply Ok1.extract; exact rfl; exact rfl)) | (apply R.alloc; (iterate 3 exact rfl); intro)) | (apply R.is0; (apply R.store; (iterate 6 exact rfl); (focus ((repeat' (first | exact Upd.head | apply Upd.tail | apply Upd.right)); done)); exact rfl)) | apply R.nil | (apply T.is; first | apply T.seq | apply T.region | apply T.ret | (apply T.cond_t; exact rfl)))
      (apply RetOk.ct; exact rfl; ((apply Ld.ownk; exact rfl; exact rfl; (focus ((repeat' (first | exact At.head | apply At.tail | apply At.right)); done)); exact rfl)); exact rfl)
      exact ⟨_, by (focus ((repeat' (exact Keep.nil _)); done)), s, hs1, hs2, by rw [hpp]; rfl, rfl⟩
  · rw [if_pos h1] at hP
    subst hP
    repeat' (first | (apply R.is1; first | (apply R.isBin; (apply R.pure; exact rfl; first | (apply Ok1.eql_f; exact rfl; exact rfl; omega) | (apply Ok1.neq_t; exact rfl; exact rfl; omega))) | (apply R.isCall; (apply R.callE (Li := LS) (vs := [.pointer (some ⟨br, 0, none⟩)]); (iterate 3 exact rfl); (focus ((repeat' (exact Ext.here _ _)); done)); intro w1 hw1; exact hrd w1 (hsk _ _ _ _ _ hw1 (by (focus ((repeat' (exact Ext.here _ _)); done))) (Ext.mem (by (focus ((repeat' (exact Ext.here _ _)); done))))); rintro v Lo ⟨rfl, hq⟩; rw [hq]; clear hq)) | (apply R.pure; exact rfl; first | (apply Ok1.move; exact rfl) | (apply Ok1.assign; exact rfl) | (apply Ok1.build; (iterate 5 exact rfl)) | (apply Ok1.extract; exact rfl; exact rfl)) | (apply R.alloc; (iterate 3 exact rfl); intro)) | (apply R.is0; (apply R.store; (iterate 6 exact rfl); (focus ((repeat' (first | exact Upd.head | apply Upd.tail | apply Upd.right)); done)); exact rfl)) | apply R.nil | (apply T.is; first | apply T.seq | apply T.region | apply T.skip | apply T.ret | (apply T.cond_t; exact rfl) | (apply T.cond_f; exact rfl)))
    (apply RetOk.ct; exact rfl; ((apply Ld.ownk; exact rfl; exact rfl; (focus ((repeat' (first | exact At.head | apply At.tail | apply At.right)); done)); exact rfl)); exact rfl)
    exact ⟨_, by (focus ((repeat' (exact Keep.nil _)); done)), s, hs1, hs2, by rw [hpp]; rfl, rfl⟩
end Go.Proofs.YtidjnjlejhoalaaGreat
set_option linter.unusedSimpArgs false
set_option linter.unusedVariables false
namespace Go.Proofs.YtidjnjlejhoalaaGreat
open Go.RowKit Go.Shelf
set_option maxRecDepth 100000
/-- A reader's object. -/
def Rs.O (s : Rs) : Obj := .cells ⟨[.slice s.q s.xs.length s.cap, .int .i64 s.e]⟩ 249 (0, 0)
theorem Rs.L_O (s : Rs) (br : Nat) : s.L br = [(br, s.O)] := rfl
def Rs.s1 (s : Rs) : Rs := (s.num 1).2.2
def Rs.s2 (s : Rs) : Rs := (s.s1.raws 9).2
def Rs.s3 (s : Rs) : Rs := (s.s2.num 2).2.2
def Rs.s4 (s : Rs) : Rs := (s.s3.num 2).2.2
def Rs.s5 (s : Rs) : Rs := (s.s4.num 4).2.2
def Rs.s6 (s : Rs) : Rs := s.s5.gb.2
def Rs.s7 (s : Rs) : Rs := (s.s6.raws 32).2
/-- The parts that are read of a packet, and what is wrong with them; sc: what the claims' bytes are read by. -/
def Rs.pk (s : Rs) : Int := (s.num 1).1
def Rs.pc (s : Rs) : List Int := (s.s1.raws 9).1
def Rs.pto (s : Rs) : Int := (s.s2.num 2).1
def Rs.pa (s : Rs) : Int := (s.s3.num 2).1
def Rs.pb (s : Rs) : Int := (s.s4.num 4).1
def Rs.pbd (s : Rs) : List Int := s.s5.gb.1
def Rs.ptg (s : Rs) : List Int := (s.s6.raws 32).1
def Rs.pE (s sc : Rs) : Int := if s.s7.e ≠ 0 then s.s7.e else if ¬ (0 < s.pk ∧ s.pk < 15) then 13 else if (prC sc).2 ≠ 0 then 3 else if 0 < s.s7.xs.length then 3 else if pckE s.pk (prC sc).1 s.pto s.pa s.pb s.pbd.length s.ptg ≠ 0 then 3 else 0
theorem RsO.raws {s : Rs} {M : Lst} (h : RsO s M) (n : Nat) : RsO (s.raws n).2 M := by
  induction n with
  | zero => exact h
  | succ n ih => exact ih.num 1
theorem RsO.raws_byt {s : Rs} {M : Lst} (h : RsO s M) (n : Nat) : Byt (s.raws n).1 := by
  induction n with
  | zero => intro y hy; cases hy
  | succ n ih =>
    intro y hy
    simp only [Rs.raws, List.mem_append, List.mem_singleton] at hy
    rcases hy with hy | rfl
    · exact ih y hy
    · have := Rs.num1_range9 (h.raws n).byt; omega
theorem RsO.gb {s : Rs} {M : Lst} (h : RsO s M) : RsO s.gb.2 M := by
  have h2 := h.num 2
  unfold Rs.gb
  split
  · exact h2
  split
  · exact h2.fail 3
  split
  · exact h2.fail 4
  · exact h2.drop (by omega)
def ParsePost (n : Nat) (xs : List Int) (v : Value) (L : Lst) : Prop := ∃ s sc : Rs, s.xs = (if n ≤ 1024 then xs else []) ∧ s.e = (if n ≤ 1024 then 0 else 2) ∧ sc.xs = s.pc ∧ sc.e = 0 ∧ ((s.pE sc ≠ 0 ∧ v = .tuple #[.agg ⟨pkC 0 cl0 0 0 0 none 0 0 (zI 32)⟩, .int .i64 (s.pE sc)] ∧ L = []) ∨ (s.pE sc = 0 ∧ ∃ ov, OvOk 1 ov s.pbd.length (u8s s.pbd) ∧ v = .tuple #[.agg ⟨pkC s.pk (prC sc).1 s.pto s.pa s.pb (ovp ov) s.pbd.length (ovc ov s.pbd.length) s.ptg⟩, .int .i64 0] ∧ L = blkL 5 ov (u8s s.pbd)))
theorem pkparse_ok (p : Option Addr) (n cap : Nat) (xs : List Int) (hn : n = xs.length) (hbig : n ≤ 1000000000) (hb : Byt xs) (w : World) (hp : RdSl w p u8V xs) :
    CallM Tryz.prog 88 [.slice p n cap] [] w (ParsePost n xs) := by
  have hnew := fun w1 (hc : Chg [] w w1) => rnewr_ok p n cap xs hn hbig hb w1 (hp.chg' hc (fun _ => Off.nil _))
  refine enterK (tb := tb) Tryz.func88 rfl Tryz.ntmps88 rfl ?_
  repeat' (first | (apply R.is1; first | (apply R.isCall; (apply R.callE (vs := [.slice p n cap]); (iterate 3 exact rfl); exact Ext.none _; intro w1 hw1; exact hnew w1 hw1.chg; rintro v Lo ⟨br, s, M, rfl, hs1, hs2, hso, rfl⟩; rw [List.append_assoc])) | (apply R.pure; exact rfl; first | (apply Ok1.move; exact rfl) | (apply Ok1.fieldAddr; (iterate 5 exact rfl)) | (apply Ok1.load; exact rfl; (apply Ld.own1; exact rfl; exact rfl; exact At.head; exact rfl)) | (apply Ok1.assign; exact rfl) | (apply Ok1.build; (iterate 5 exact rfl))) | (apply R.alloc; (iterate 3 exact rfl); intro)) | (apply R.is0; (apply R.store; (iterate 6 exact rfl); exact Upd.head; exact rfl)) | apply R.nil | (apply T.is; first | apply T.seq | apply T.region))
  have o1 : RsO s.s1 M := hso.num 1
  have o2 : RsO s.s2 M := o1.raws 9
  have o3 : RsO s.s3 M := o2.num 2
  have o4 : RsO s.s4 M := o3.num 2
  have o5 : RsO s.s5 M := o4.num 4
  have o6 : RsO s.s6 M := o5.gb
  have o7 : RsO s.s7 M := o6.raws 32
  have k0 := hso.okB br
  have k1 := o1.okB br
  have k2 := o2.okB br
  have k3 := o3.okB br
  have k4 := o4.okB br
  have k5 := o5.okB br
  have k6 := o6.okB br
  have h1 : ∀ w1, s.ok br w1 → CallM Tryz.prog 112 [.pointer (some ⟨br, 0, none⟩), .int .i64 0] (s.L br) w1 fun v L => v = .int .i64 s.pk ∧ L = s.s1.L br := fun w1 h => rnum_ok br s 0 1 (by decide) rfl w1 h
  have h2 : ∀ w1, s.s1.ok br w1 → CallM Tryz.prog 176 [.agg ⟨[.pointer (some ⟨br, 0, none⟩)]⟩, .int .i64 9] (s.s1.L br) w1 fun v L => ∃ ov, OvOk 1 ov 9 (u8s s.pc) ∧ v = slV ov 9 ∧ L = s.s2.L br ++ blkL 5 ov (u8s s.pc) := fun w1 h => raw_ok br s.s1 9 (by decide) w1 h
  have h3 : ∀ w1, s.s2.ok br w1 → CallM Tryz.prog 112 [.pointer (some ⟨br, 0, none⟩), .int .i64 1] (s.s2.L br) w1 fun v L => v = .int .i64 s.pto ∧ L = s.s3.L br := fun w1 h => rnum_ok br s.s2 1 2 (by decide) rfl w1 h
  have h4 : ∀ w1, s.s3.ok br w1 → CallM Tryz.prog 112 [.pointer (some ⟨br, 0, none⟩), .int .i64 1] (s.s3.L br) w1 fun v L => v = .int .i64 s.pa ∧ L = s.s4.L br := fun w1 h => rnum_ok br s.s3 1 2 (by decide) rfl w1 h
  have h5 : ∀ w1, s.s4.ok br w1 → CallM Tryz.prog 112 [.pointer (some ⟨br, 0, none⟩), .int .i64 2] (s.s4.L br) w1 fun v L => v = .int .i64 s.pb ∧ L = s.s5.L br := fun w1 h => rnum_ok br s.s4 2 4 (by decide) rfl w1 h
  have h6 : ∀ w1, s.s5.ok br w1 → CallM Tryz.prog 177 [.pointer (some ⟨br, 0, none⟩), .int .i64 512] (s.s5.L br) w1 fun v L => ∃ ov, OvOk 1 ov s.pbd.length (u8s s.pbd) ∧ v = .slice (ovp ov) s.pbd.length (ovc ov s.pbd.length) ∧ L = s.s6.L br ++ blkL 5 ov (u8s s.pbd) := fun w1 h => rbytes_ok br s.s5 w1 h
  have h7 : ∀ w1, s.s6.ok br w1 → CallM Tryz.prog 176 [.agg ⟨[.pointer (some ⟨br, 0, none⟩)]⟩, .int .i64 32] (s.s6.L br) w1 fun v L => ∃ ov, OvOk 1 ov 32 (u8s s.ptg) ∧ v = slV ov 32 ∧ L = s.s7.L br ++ blkL 5 ov (u8s s.ptg) := fun w1 h => raw_ok br s.s6 32 (by decide) w1 h
  have hre := fun w1 h => rerr_ok br s.s7 w1 h
  have hrl := fun w1 h => rleft_ok br s.s7 w1 h
  have hcpb : Byt s.pc := o1.raws_byt 9
  have hcb : s.pc.length = 9 := Rs.raws_len _ _
  have htl : s.ptg.length = 32 := Rs.raws_len _ _
  have hO7 : s.s7.O = .cells ⟨[.slice s.s7.q s.s7.xs.length s.s7.cap, .int .i64 s.s7.e]⟩ 249 (0, 0) := rfl
  rw [← hO7] at hre hrl
  simp only [Rs.L_O] at *
  have hpost : ∀ (sc : Rs) (v : Value) (L : Lst), sc.xs = s.pc → sc.e = 0 → ((s.pE sc ≠ 0 ∧ v = .tuple #[.agg ⟨pkC 0 cl0 0 0 0 none 0 0 (zI 32)⟩, .int .i64 (s.pE sc)] ∧ L = []) ∨ (s.pE sc = 0 ∧ ∃ ov, OvOk 1 ov s.pbd.length (u8s s.pbd) ∧ v = .tuple #[.agg ⟨pkC s.pk (prC sc).1 s.pto s.pa s.pb (ovp ov) s.pbd.length (ovc ov s.pbd.length) s.ptg⟩, .int .i64 0] ∧ L = blkL 5 ov (u8s s.pbd))) → ParsePost n xs v L := fun sc v L a1 a2 a3 => ⟨s, sc, hs1, hs2, a1, a2, a3⟩
  have hpE : ∀ sc, s.pE sc = if s.s7.e ≠ 0 then s.s7.e else if ¬ (0 < s.pk ∧ s.pk < 15) then 13 else if (prC sc).2 ≠ 0 then 3 else if 0 < s.s7.xs.length then 3 else if pckE s.pk (prC sc).1 s.pto s.pa s.pb s.pbd.length s.ptg ≠ 0 then 3 else 0 := fun sc => rfl
  obtain ⟨PE, hPE⟩ : ∃ f : Rs → Int, f = fun sc => s.pE sc := ⟨_, rfl⟩
  have hPE2 : ∀ sc, s.pE sc = PE sc := fun sc => by rw [hPE]
  simp only [hPE2] at hpE hpost
  clear hPE hPE2 hnew hO7
  generalize s.pk = xk at *
  generalize s.pc = xc at *
  generalize s.pto = xto at *
  generalize s.pa = xa at *
  generalize s.pb = xb at *
  generalize s.pbd = xbd at *
  generalize s.ptg = xt at *
  generalize s.s7.e = e7 at *
  generalize s.s7.xs.length = l7 at *
  generalize s.s7.O = O7 at *
  generalize s.s6.O = O6 at *
  generalize s.s5.O = O5 at *
  generalize s.s4.O = O4 at *
  generalize s.s3.O = O3 at *
  generalize s.s2.O = O2 at *
  generalize s.s1.O = O1 at *
  generalize s.O = O0 at *
  repeat' (first | (apply R.is1; first | (apply R.isCall; first | (apply R.callE (Li := [(br, O0)]) (vs := [.pointer (some ⟨br, 0, none⟩), .int .i64 0]); (iterate 3 exact rfl); (focus ((repeat' (first | exact Ext.one _ _ | apply Ext.cons)); done)); intro w1 hw1; exact h1 w1 (k0 _ _ _ _ _ hw1 (by (focus ((repeat' (first | exact Ext.one _ _ | apply Ext.cons)); done))) (Ext.mem (by (focus ((repeat' (first | exact Ext.here _ _ | apply Ext.cons | apply Ext.app)); done))))); rintro v Lo ⟨rfl, rfl⟩) | (apply R.callE (Li := [(br, O1)]) (vs := [.agg ⟨[.pointer (some ⟨br, 0, none⟩)]⟩, .int .i64 9]); (iterate 3 exact rfl); (focus ((repeat' (first | exact Ext.one _ _ | apply Ext.cons)); done)); intro w1 hw1; exact h2 w1 (k1 _ _ _ _ _ hw1 (by (focus ((repeat' (first | exact Ext.one _ _ | apply Ext.cons)); done))) (Ext.mem (by (focus ((repeat' (first | exact Ext.here _ _ | apply Ext.cons | apply Ext.app)); done))))); rintro v Lo ⟨ovc9, hovc9, rfl, rfl⟩; rw [slV_eq hovc9, List.append_assoc]) | (apply R.callE (Li := [(br, O2)]) (vs := [.pointer (some ⟨br, 0, none⟩), .int .i64 1]); (iterate 3 exact rfl); (focus ((repeat' (exact Ext.one _ _)); done)); intro w1 hw1; exact h3 w1 (k2 _ _ _ _ _ hw1 (by (focus ((repeat' (exact Ext.one _ _)); done))) (Ext.mem (by (focus ((repeat' (first | exact Ext.here _ _ | apply Ext.cons | apply Ext.app)); done))))); rintro v Lo ⟨rfl, rfl⟩)) | (apply R.pure; exact rfl; first | (apply Ok1.fieldAddr; (iterate 5 exact rfl)) | (apply Ok1.load; exact rfl; first | (apply Ld.own1; exact rfl; exact rfl; (focus ((repeat' (first | exact At.head | apply At.tail | apply At.right)); done)); exact rfl) | (apply Ld.ownk; exact rfl; exact rfl; (focus ((repeat' (first | exact At.head | apply At.tail)); done)); exact rfl)) | (apply Ok1.assign; exact rfl) | (apply Ok1.build; (iterate 5 exact rfl))) | (apply R.alloc; (iterate 3 exact rfl); intro)) | (apply R.is0; (apply R.store; (iterate 6 exact rfl); (focus ((repeat' (first | exact Upd.head | apply Upd.tail | apply Upd.right)); done)); exact rfl)) | apply R.nil | (apply T.is; first | apply T.seq | apply T.region))
  rename_i b2 b4 b5
  refine T.weakK (σ' := [(2, .pointer (some ⟨b2, 0, none⟩)), (3, .int .i64 0), (4, .pointer (some ⟨b4, 0, none⟩)), (5, .pointer (some ⟨b5, 0, none⟩)), (6, .slice (ovp ovc9) 9 (ovc ovc9 9))]) (L' := (b4, .cells ⟨[.pointer (some ⟨br, 0, none⟩)]⟩ 321 (0, 0)) :: (b5, .cells ⟨pkC xk cl0 xto 0 0 none 0 0 (zI 32)⟩ 144 (0, 0)) :: (br, O3) :: (b2, .cells ⟨pkC 0 cl0 0 0 0 none 0 0 (zI 32)⟩ 144 (0, 0)) :: (blkL 5 ovc9 (u8s xc) ++ M)) ?_ (by (focus ((repeat' (first | exact Ext.one _ _ | exact Ext.here _ _ | apply Keep.cons | apply Keep.app | apply Keep.last | apply Ext.cons | apply Ext.app)); done))) ⟨rfl, rfl, rfl, rfl, rfl, trivial⟩
  repeat' (first | (apply R.is1; first | (apply R.isCall; (apply R.callE (Li := [(br, O5)]) (vs := [.pointer (some ⟨br, 0, none⟩), .int .i64 512]); (iterate 3 exact rfl); (focus ((repeat' (exact Ext.one _ _)); done)); intro w1 hw1; exact h6 w1 (k5 _ _ _ _ _ hw1 (by (focus ((repeat' (exact Ext.one _ _)); done))) (Ext.mem (by (focus ((repeat' (first | exact Ext.all _ | apply Ext.cons | apply Ext.app)); done))))); rintro v Lo ⟨ovb, hovb, rfl, rfl⟩; rw [List.append_assoc])) | (apply R.pure; exact rfl; first | (apply Ok1.fieldAddr; (iterate 5 exact rfl)) | (apply Ok1.load; exact rfl; (apply Ld.own1; exact rfl; exact rfl; (focus ((repeat' (first | exact At.head | apply At.tail)); done)); exact rfl)))) | (apply R.is0; (apply R.store; (iterate 6 exact rfl); (focus ((repeat' (first | exact Upd.head | apply Upd.tail | apply Upd.right)); done)); exact rfl)) | apply R.nil | (apply T.is; first | (apply T.drawC (id := 5) [0] (by decide); ((apply A.take 0; exact rfl; exact rfl; kernel_rfl; kernel_rfl; kernel_rfl; (apply Ok1.fieldAddr; (iterate 5 exact rfl))) <;> (apply A.take 1; exact rfl; exact rfl; kernel_rfl; kernel_rfl; kernel_rfl; (apply Ok1.load; exact rfl; (apply Ld.own1; exact rfl; exact rfl; exact At.head; exact rfl))) <;> (apply A.take 3; exact rfl; exact rfl; kernel_rfl; kernel_rfl; kernel_rfl; (apply Ok1.fieldAddr; (iterate 5 exact rfl))) <;> (apply A.take 4; exact rfl; exact rfl; kernel_rfl; kernel_rfl; kernel_rfl; (apply Ok1.load; exact rfl; (apply Ld.own1; exact rfl; exact rfl; exact At.head; exact rfl))) <;> (apply A.one 2; kernel_rfl; exact rfl; (((apply R.callE (Li := [(br, O3)]) (vs := [.pointer (some ⟨br, 0, none⟩), .int .i64 1]); (iterate 3 exact rfl); (focus ((repeat' (first | exact Ext.one _ _ | apply Ext.cons)); done)); intro w1 hw1; exact h4 w1 (k3 _ _ _ _ _ hw1 (by (focus ((repeat' (first | exact Ext.one _ _ | apply Ext.cons)); done))) (Ext.mem (by (focus ((repeat' (first | exact Ext.all _ | apply Ext.cons | apply Ext.app)); done))))); rintro v Lo ⟨rfl, rfl⟩))); apply R.nil; refine ⟨?_, ?_⟩; (focus ((repeat' (first | exact trivial | (refine ⟨?_, ?_⟩; (focus ((repeat' (first | exact At.head | apply At.tail)); done)))))))) <;> (apply A.one 5; kernel_rfl; exact rfl; (((apply R.callE (Li := [(br, O4)]) (vs := [.pointer (some ⟨br, 0, none⟩), .int .i64 2]); (iterate 3 exact rfl); (focus ((repeat' (exact Ext.one _ _)); done)); intro w1 hw1; exact h5 w1 (k4 _ _ _ _ _ hw1 (by (focus ((repeat' (exact Ext.one _ _)); done))) (Ext.mem (by (focus ((repeat' (first | exact Ext.all _ | apply Ext.cons | apply Ext.app)); done))))); rintro v Lo ⟨rfl, rfl⟩))); apply R.nil; refine ⟨?_, ?_⟩; (focus ((repeat' (first | exact trivial | (refine ⟨?_, ?_⟩; (focus ((repeat' (first | exact At.head | apply At.tail)); done)))))))) <;> (apply A.take 6; exact rfl; exact rfl; kernel_rfl; kernel_rfl; kernel_rfl; (apply Ok1.build; (iterate 5 exact rfl))) <;> (apply A.take 7; exact rfl; exact rfl; kernel_rfl; kernel_rfl; kernel_rfl; (apply Ok1.fieldAddr; (iterate 5 exact rfl))) <;> (apply A.one 8; kernel_rfl; exact rfl; (((apply R.store; (iterate 6 exact rfl); (focus ((repeat' (first | exact Upd.head | apply Upd.tail)); done)); exact rfl))); apply R.nil; refine ⟨?_, ?_⟩; (focus ((repeat' (first | exact trivial | (refine ⟨?_, ?_⟩; (focus ((repeat' (first | exact At.head | apply At.tail)); done)))))))) <;> (apply A.done; kernel_rfl))) | apply T.seq | apply T.region))
  refine T.weakK (σ' := [(2, .pointer (some ⟨b2, 0, none⟩)), (3, .int .i64 0), (4, .pointer (some ⟨b4, 0, none⟩)), (5, .pointer (some ⟨b5, 0, none⟩)), (6, .slice (ovp ovc9) 9 (ovc ovc9 9))]) (L' := (b4, .cells ⟨[.pointer (some ⟨br, 0, none⟩)]⟩ 321 (0, 0)) :: (b5, .cells ⟨pkC xk cl0 xto xa xb (ovp ovb) xbd.length (ovc ovb xbd.length) (zI 32)⟩ 144 (0, 0)) :: (br, O6) :: (b2, .cells ⟨pkC 0 cl0 0 0 0 none 0 0 (zI 32)⟩ 144 (0, 0)) :: (blkL 5 ovc9 (u8s xc) ++ (blkL 5 ovb (u8s xbd) ++ M))) ?_ (by (focus ((repeat' (first | exact Ext.one _ _ | exact Ext.here _ _ | exact Ext.all _ | apply Keep.cons | apply Keep.app | apply Keep.last | apply Ext.cons | apply Ext.app)); done))) ⟨rfl, rfl, rfl, rfl, rfl, trivial⟩
  repeat' (first | (apply R.is1; (apply R.pure; exact rfl; first | (apply Ok1.fieldAddr; (iterate 5 exact rfl)) | (apply Ok1.load; exact rfl; (apply Ld.own1; exact rfl; exact rfl; (focus ((repeat' (first | exact At.head | apply At.tail | apply At.right)); done)); exact rfl)))) | (apply T.is; first | (apply T.drawC (id := 7) [0] (by decide); ((apply A.take 0; exact rfl; exact rfl; kernel_rfl; kernel_rfl; kernel_rfl; (apply Ok1.fieldAddr; (iterate 5 exact rfl))) <;> (apply A.take 1; exact rfl; exact rfl; kernel_rfl; kernel_rfl; kernel_rfl; (apply Ok1.sliceArr; (iterate 4 exact rfl))) <;> (apply A.take 2; exact rfl; exact rfl; kernel_rfl; kernel_rfl; kernel_rfl; (apply Ok1.load; exact rfl; (apply Ld.ownk; exact rfl; exact rfl; exact At.head; exact rfl))) <;> (apply A.one 3; kernel_rfl; exact rfl; (((apply R.callE (Li := [(br, O6)]) (vs := [.agg ⟨[.pointer (some ⟨br, 0, none⟩)]⟩, .int .i64 32]); (iterate 3 exact rfl); (focus ((repeat' (first | exact Ext.one _ _ | apply Ext.cons)); done)); intro w1 hw1; exact h7 w1 (k6 _ _ _ _ _ hw1 (by (focus ((repeat' (first | exact Ext.one _ _ | apply Ext.cons)); done))) (Ext.mem (by (focus ((repeat' (first | exact Ext.all _ | apply Ext.cons | apply Ext.app)); done))))); rintro v Lo ⟨ovt, hovt, rfl, rfl⟩; rw [slV_eq hovt, List.append_assoc]))); apply R.nil; refine ⟨?_, ?_⟩; (focus ((repeat' (first | exact trivial | (refine ⟨?_, ?_⟩; (focus ((repeat' (first | exact At.head | apply At.tail | apply At.right)); done)))))))) <;> (apply A.one 4; kernel_rfl; exact rfl; (((apply R.copyAll (xs := xt) (v := u8V) (o' := 9); (iterate 7 exact rfl); exact htl.symm; exact u8V_len; (intro w1 hw1; exact RdSl.own' hw1 (Ext.mem (by rw [fl_u8]; (focus ((repeat' (first | exact Ext.here _ _ | apply Ext.cons | apply Ext.app)); done)))) (by rw [fl_u8, htl]; exact hovt) u8V_len); (rw [fl_u8]; exact u8s_one _); (rw [htl]; omega); exact rfl; (focus ((repeat' (first | exact Upd.head | apply Upd.tail | apply Upd.right)); done)); (rw [fl_u8]; exact pk_set _ _ _ _ _ _ _ _ rfl htl)))); apply R.nil; refine ⟨?_, ?_⟩; (focus ((repeat' (first | exact trivial | (refine ⟨?_, ?_⟩; (focus ((repeat' (first | exact At.head | apply At.tail | apply At.right)); done)))))))) <;> (apply A.done; kernel_rfl))) | apply T.seq | apply T.region))
  by_cases he : e7 = 0
  case neg =>
    have hD := hpE ⟨none, 0, xc, 0⟩
    rw [if_pos he] at hD
    repeat' (first | (apply R.is1; first | (apply R.isBin; (apply R.pure; exact rfl; (apply Ok1.neq_t; exact rfl; exact rfl; omega))) | (apply R.isCall; (apply R.callV (vs := [.pointer (some ⟨br, 0, none⟩)]); (iterate 3 exact rfl); intro w1 hw1; exact hre w1 (hw1.get _ _ (At.mem (by exact At.head))))) | (apply R.pure; exact rfl; first | (apply Ok1.move; exact rfl) | (apply Ok1.assign; exact rfl) | (apply Ok1.build; (iterate 5 exact rfl)))) | (apply R.is0; (apply R.store; (iterate 6 exact rfl); (focus ((repeat' (first | exact Upd.head | apply Upd.tail | apply Upd.right)); done)); exact rfl)) | apply R.nil | (apply T.is; first | apply T.seq | apply T.region | apply T.ret | (apply T.cond_t; exact rfl)))
    all_goals (apply RetOk.ct; exact rfl; (apply Ld.ownk; exact rfl; exact rfl; (focus ((repeat' (first | exact At.head | apply At.tail | apply At.right)); done)); exact rfl); exact rfl)
    all_goals exact ⟨_, by (focus ((repeat' (exact Keep.nil _)); done)), hpost ⟨none, 0, xc, 0⟩ _ _ rfl rfl (.inl ⟨by rw [hD]; exact he, by rw [hD]; rfl, rfl⟩)⟩
  subst he
  have hcp := fun w1 h => clparse_ok (ovp ovc9) 9 (ovc ovc9 9) xc hcb.symm (by decide) hcpb w1 h
  repeat' (first | (apply R.is1; first | (apply R.isBin; (apply R.pure; exact rfl; (apply Ok1.neq_f; exact rfl; exact rfl; omega))) | (apply R.isCall; first | (apply R.callV (vs := [.pointer (some ⟨br, 0, none⟩)]); (iterate 3 exact rfl); intro w1 hw1; exact hre w1 (hw1.get _ _ (At.mem (by exact At.head)))) | (apply R.callE (vs := [.slice (ovp ovc9) 9 (ovc ovc9 9)]); (iterate 3 exact rfl); exact Ext.none _; intro w1 hw1; exact hcp w1 (RdSl.own' hw1 (Ext.mem (by rw [fl_u8]; (focus ((repeat' (first | exact Ext.here _ _ | apply Ext.cons | apply Ext.app)); done)))) (by rw [fl_u8, hcb]; exact hovc9) u8V_len); rintro v Lo ⟨sc, hsc1, hsc2, rfl, rfl⟩; simp only [kvC])) | (apply R.pure; exact rfl; first | (apply Ok1.move; exact rfl) | (apply Ok1.fieldAddr; (iterate 5 exact rfl)) | (apply Ok1.assign; exact rfl) | (apply Ok1.extract; exact rfl; exact rfl))) | (apply R.is0; (apply R.store; (iterate 6 exact rfl); (focus ((repeat' (first | exact Upd.head | apply Upd.tail | apply Upd.right)); done)); exact rfl)) | apply R.nil | (apply T.is; first | (apply T.stop1 13) | apply T.seq | apply T.region | apply T.skip | (apply T.cond_f; exact rfl)))
  refine ⟨?_⟩
  have hD := hpE sc
  rw [if_neg (fun h => h rfl)] at hD
  rw [if_pos (by decide)] at hsc1 hsc2
  generalize hpr : prC sc = pr at *
  obtain ⟨cl, ec⟩ := pr
  simp only at hD
  refine T.weakK (σ' := [(2, .pointer (some ⟨b2, 0, none⟩)), (3, .int .i64 0), (4, .pointer (some ⟨b4, 0, none⟩)), (5, .pointer (some ⟨b5, 0, none⟩)), (8, .int .i64 ec)]) (L' := (b4, .cells ⟨[.pointer (some ⟨br, 0, none⟩)]⟩ 321 (0, 0)) :: (b5, .cells ⟨pkC xk cl xto xa xb (ovp ovb) xbd.length (ovc ovb xbd.length) xt⟩ 144 (0, 0)) :: (br, O7) :: (b2, .cells ⟨pkC 0 cl0 0 0 0 none 0 0 (zI 32)⟩ 144 (0, 0)) :: blkL 5 ovb (u8s xbd)) ?_ (by (focus ((repeat' (first | exact Ext.one _ _ | exact Ext.here _ _ | apply Keep.cons | apply Keep.last | apply Ext.cons | apply Ext.app)); done))) ⟨rfl, rfl, rfl, rfl, rfl, trivial⟩
  have hck := pcheck_ok xk cl xto xa xb (ovp ovb) xbd.length (ovc ovb xbd.length) xt htl
  have hkd := pkind_ok xk
  have hpl := pk_len xk cl xto xa xb (ovp ovb) xbd.length (ovc ovb xbd.length) htl
  have hpo := pk_one xk cl xto xa xb (ovp ovb) xbd.length (ovc ovb xbd.length) xt
  obtain ⟨qk, hqk⟩ : ∃ q, q = decide (0 < xk ∧ xk < 15) := ⟨_, rfl⟩
  rw [← hqk] at hkd
  have key : (qk = false ∧ PE sc = 13) ∨ (qk = true ∧ ec ≠ 0 ∧ PE sc = 3) ∨ (qk = true ∧ ec = 0 ∧ 0 < l7 ∧ PE sc = 3) ∨ (qk = true ∧ ec = 0 ∧ l7 = 0 ∧ pckE xk cl xto xa xb xbd.length xt ≠ 0 ∧ PE sc = 3) ∨ (qk = true ∧ ec = 0 ∧ l7 = 0 ∧ pckE xk cl xto xa xb xbd.length xt = 0 ∧ PE sc = 0) := by
    by_cases g1 : 0 < xk ∧ xk < 15
    case neg => rw [if_pos g1] at hD; exact .inl ⟨by rw [hqk]; exact decide_eq_false g1, hD⟩
    rw [if_neg (fun g => g g1)] at hD
    have q1 : qk = true := by rw [hqk]; exact decide_eq_true g1
    by_cases g2 : ec = 0
    case neg => rw [if_pos g2] at hD; exact .inr (.inl ⟨q1, g2, hD⟩)
    rw [if_neg (fun g => g g2)] at hD
    by_cases g3 : 0 < l7
    · rw [if_pos g3] at hD; exact .inr (.inr (.inl ⟨q1, g2, g3, hD⟩))
    rw [if_neg g3] at hD
    by_cases g4 : pckE xk cl xto xa xb xbd.length xt = 0
    · rw [if_neg (fun g => g g4)] at hD; exact .inr (.inr (.inr (.inr ⟨q1, g2, by omega, g4, hD⟩)))
    · rw [if_pos g4] at hD; exact .inr (.inr (.inr (.inl ⟨q1, g2, by omega, g4, hD⟩)))
  clear hD hqk hpE
  generalize pckE xk cl xto xa xb xbd.length xt = EE at *
  generalize hPS : PE sc = PS at *
  simp only [pkC] at hck hpl hpo ⊢
  have hfin : ∀ x : Value, True := fun _ => trivial
  rcases key with ⟨rfl, rfl⟩ | ⟨rfl, g2, rfl⟩ | ⟨rfl, rfl, g3, rfl⟩ | ⟨rfl, rfl, rfl, g4, rfl⟩ | ⟨rfl, rfl, rfl, rfl, rfl⟩
  all_goals repeat' (first | (apply R.is1; first | (apply R.isBin; first | (apply R.pure; exact rfl; first | (apply Ok1.gtr_t; exact rfl; exact rfl; omega) | (apply Ok1.gtr_f; exact rfl; exact rfl; omega) | (apply Ok1.neq_t; exact rfl; exact rfl; omega) | (apply Ok1.neq_f; exact rfl; exact rfl; omega)) | (apply R.neq rfl rfl rfl <;> intro)) | (apply R.isCall; first | apply R.callP rfl rfl rfl hkd | (apply R.callV (vs := [.pointer (some ⟨br, 0, none⟩)]); (iterate 3 exact rfl); intro w1 hw1; exact hrl w1 (hw1.get _ _ (At.mem (by (focus ((repeat' (first | exact At.head | apply At.tail)); done)))))) | apply R.callP rfl rfl rfl hck) | (apply R.pure; exact rfl; first | (apply Ok1.load; exact rfl; first | (apply Ld.own1; exact rfl; exact rfl; (focus ((repeat' (first | exact At.head | apply At.tail)); done)); exact rfl) | (apply Ld.ownk; exact rfl; exact rfl; (focus ((repeat' (first | exact At.head | apply At.tail)); done)); exact subE_all hpl)) | (apply Ok1.move; exact rfl) | (apply Ok1.fieldAddr; (iterate 5 exact rfl)) | (apply Ok1.assign; exact rfl) | (apply Ok1.build; (iterate 5 exact rfl)) | (apply Ok1.pick_t; exact rfl; exact rfl) | (apply Ok1.pick_f; exact rfl; exact rfl) | (apply Ok1.not_t; exact rfl) | (apply Ok1.not_f; exact rfl))) | (apply R.is0; first | (apply R.store; (iterate 4 exact rfl); exact hpl; exact hpo; (focus ((repeat' (first | exact Upd.head | apply Upd.tail)); done)); exact setE_all hpl) | (apply R.store; (iterate 6 exact rfl); (focus ((repeat' (first | exact Upd.head | apply Upd.tail)); done)); exact rfl)) | (apply R.isG; first | (apply R.guard_run; exact rfl; exact rfl) | (apply R.guard_not; (iterate 3 exact rfl))) | apply R.nil | (apply T.is; first | apply T.seq | apply T.region | apply T.block | apply T.skip | apply T.ret | (apply T.cond_t; exact rfl) | (apply T.cond_f; exact rfl)))
  all_goals (apply RetOk.ct; exact rfl; (first | (apply Ld.ownk; exact rfl; exact rfl; (focus ((repeat' (first | exact At.head | apply At.tail)); done)); exact rfl) | (apply Ld.ownk; exact rfl; exact rfl; (focus ((repeat' (first | exact At.head | apply At.tail)); done)); exact subE_all hpl)); exact rfl)
  all_goals first
    | exact ⟨_, by (focus ((repeat' (exact Keep.nil _)); done)), hpost sc _ _ hsc1 hsc2 (.inl ⟨by rw [hPS]; decide, by rw [hPS]; rfl, rfl⟩)⟩
    | exact ⟨_, by (focus ((repeat' (first | exact Ext.all _ | apply Keep.last | apply Ext.cons)); done)), hpost sc _ _ hsc1 hsc2 (.inr ⟨hPS, ovb, hovb, by rw [hpr]; rfl, rfl⟩)⟩
end Go.Proofs.YtidjnjlejhoalaaGreat
set_option linter.unusedSimpArgs false
set_option linter.unusedVariables false
namespace Go.Proofs.YtidjnjlejhoalaaGreat
open Go.RowKit Go.Shelf
set_option maxRecDepth 100000
theorem Rs.raws_fwd {s : Rs} {l rest : List Int} (hb : Byt l) (hs : s.xs = l ++ rest) (he : s.e = 0) : ∀ n, n ≤ l.length → (s.raws n).1 = l.take n ∧ (s.raws n).2.xs = l.drop n ++ rest ∧ (s.raws n).2.e = 0 := by
  intro n
  induction n with
  | zero => intro _; exact ⟨rfl, hs, he⟩
  | succ n ih =>
    intro hn
    obtain ⟨h1, h2, h3⟩ := ih (by omega)
    obtain ⟨x, hx⟩ : ∃ x, l[n]? = some x := ⟨_, List.getElem?_eq_getElem (by omega)⟩
    have hxb := hb x (List.mem_of_getElem? hx)
    have hd : l.drop n = x :: l.drop (n + 1) := by
      have hlt : n < l.length := by omega
      rw [List.drop_eq_getElem_cons hlt]
      rw [List.getElem?_eq_getElem hlt] at hx
      cases hx; rfl
    have hnx : numI 0 x = [x] := by show [x % 256] = [x]; congr 1; omega
    have h2' : (s.raws n).2.xs = numI 0 x ++ (l.drop (n + 1) ++ rest) := by rw [h2, hd, hnx]; rfl
    obtain ⟨a1, a2, a3⟩ := Rs.num_fwd (s := (s.raws n).2) (z := 0) (k := 1) (.inl ⟨rfl, rfl⟩) (by omega) (by omega) (by omega) (by omega) h2' h3
    refine ⟨?_, a2, a3⟩
    show (s.raws n).1 ++ [((s.raws n).2.num 1).1] = l.take (n + 1)
    rw [a1, h1, List.take_add_one, hx]; rfl
theorem Rs.gb_fwd {s : Rs} {l rest : List Int} (hl : l.length ≤ 512) (hs : s.xs = numI 1 l.length ++ (l ++ rest)) (he : s.e = 0) : s.gb.1 = l ∧ s.gb.2.xs = rest ∧ s.gb.2.e = 0 := by
  have hz : (s.num 2) = (beN (s.xs.take 2), true, s.drop 2) := by
    obtain ⟨g1, g2⟩ := be_numI (z := 1) (k := 2) (v := (l.length : Int)) (.inr (.inl ⟨rfl, rfl⟩)) (by omega) (by omega) (by omega) (by omega)
    have ht : s.xs.take 2 = numI 1 l.length := by rw [hs]; rfl
    refine Rs.num_many he (by rw [hs, List.length_append, g2]; omega) (by rw [ht, g1]; omega)
  obtain ⟨a1, a2, a3⟩ := Rs.num_fwd (s := s) (z := 1) (k := 2) (v := (l.length : Int)) (.inr (.inl ⟨rfl, rfl⟩)) (by omega) (by omega) (by omega) (by omega) hs he
  have a0 : (s.num 2).2.1 = true := by rw [hz]
  unfold Rs.gb
  rw [a0, a1, if_neg (by decide), if_neg (by omega), if_neg (by rw [a2, List.length_append]; omega), Int.toNat_natCast]
  refine ⟨by rw [a2]; exact List.take_left, ?_, a3⟩
  show ((s.num 2).2.2.xs).drop l.length = rest
  rw [a2]; exact List.drop_left
theorem prC_fwd {s : Rs} {c : Cl} (hr : c.right) (hs : s.xs = clI c) (he : s.e = 0) : prC s = (c, 0) := by
  have hs' : s.xs = clI c ++ [] := by rw [hs, List.append_nil]
  have h1 := rdC_fwd hr hs' he
  obtain ⟨_, h2, h3⟩ := Rs.c4_fwd hr hs' he
  unfold prC
  rw [h1, if_neg (fun h => h rfl)]
  have hf : s.c4.fin = 0 := by unfold Rs.fin; rw [if_neg (fun h => h h3), h2, if_neg (by decide)]
  rw [hf, if_neg (fun h => h rfl)]
theorem parse_fwd {s : Rs} {k : Int} {c : Cl} {to a b : Int} {body t : List Int} (ht : t.length = 32) (htb : Byt t) (hE : pckE k c to a b body.length t = 0) (hs : s.xs = pkB k c to a b body t) (he : s.e = 0) :
    s.pk = k ∧ s.pc = clI c ∧ s.pto = to ∧ s.pa = a ∧ s.pb = b ∧ s.pbd = body ∧ s.ptg = t ∧ s.s7.xs = [] ∧ s.s7.e = 0 := by
  obtain ⟨g1, g2, g3, g4, g5, g6⟩ := pckE_zero hE
  unfold NR at g4
  simp only [pkB, pkH, nbI, List.nil_append, List.append_assoc] at hs
  obtain ⟨a1, a2, a3⟩ := Rs.num_fwd (s := s) (z := 0) (k := 1) (.inl ⟨rfl, rfl⟩) (by omega) (by omega) (by omega) (by omega) hs he
  obtain ⟨b1, b2, b3⟩ := Rs.raws_fwd (s := s.s1) (clI_byt c) a2 a3 9 (Nat.le_refl _)
  have b2' : s.s2.xs = _ := b2
  rw [show (clI c).drop 9 = [] from rfl, List.nil_append] at b2'
  obtain ⟨c1, c2, c3⟩ := Rs.num_fwd (s := s.s2) (z := 1) (k := 2) (.inr (.inl ⟨rfl, rfl⟩)) (by omega) (by omega) (by omega) (by omega) b2' b3
  obtain ⟨d1, d2, d3⟩ := Rs.num_fwd (s := s.s3) (z := 1) (k := 2) (.inr (.inl ⟨rfl, rfl⟩)) (by omega) (by omega) (by omega) (by omega) c2 c3
  obtain ⟨e1, e2, e3⟩ := Rs.num_fwd (s := s.s4) (z := 2) (k := 4) (.inr (.inr ⟨rfl, rfl⟩)) (by omega) (by omega) (by omega) (by omega) d2 d3
  obtain ⟨f1, f2, f3⟩ := Rs.gb_fwd (s := s.s5) (l := body) g5 e2 e3
  have f2' : s.s6.xs = t ++ [] := by rw [List.append_nil]; exact f2
  obtain ⟨h1, h2, h3⟩ := Rs.raws_fwd (s := s.s6) htb f2' f3 32 (by omega)
  refine ⟨a1, ?_, c1, d1, e1, f1, ?_, ?_, h3⟩
  · exact b1
  · show (s.s6.raws 32).1 = t
    rw [h1, List.take_of_length_le (by omega)]
  · show (s.s6.raws 32).2.xs = []
    rw [h2, List.drop_of_length_le (by omega)]; rfl
theorem parse_wr (p : Option Addr) (n cap : Nat) (k : Int) (c : Cl) (to a b : Int) (body t : List Int) (ht : t.length = 32) (htb : Byt t) (hbb : Byt body) (hE : pckE k c to a b body.length t = 0) (hn : n = (pkB k c to a b body t).length) (w : World) (hp : RdSl w p u8V (pkB k c to a b body t)) :
    CallM Tryz.prog 88 [.slice p n cap] [] w fun v L => ∃ ov, OvOk 1 ov body.length (u8s body) ∧ v = .tuple #[.agg ⟨pkC k c to a b (ovp ov) body.length (ovc ov body.length) t⟩, .int .i64 0] ∧ L = blkL 5 ov (u8s body) := by
  have hz := pckE_zero hE
  have hl := pkB_len k c to a b body ht
  refine (pkparse_ok p n cap _ hn (by omega) (Byt.app (pkH_byt k c to a b hbb) htb) w hp).imp ?_
  rintro v L ⟨s, sc, h1, h2, h3, h4, h5⟩
  rw [if_pos (by omega)] at h1 h2
  obtain ⟨f1, f2, f3, f4, f5, f6, f7, f8, f9⟩ := parse_fwd ht htb hE h1 h2
  have hpr := prC_fwd hz.2.1 (by rw [h3, f2]) h4
  have hPE : s.pE sc = 0 := by
    unfold Rs.pE
    rw [if_neg (fun h => h f9), f1, if_neg (fun h => h hz.1), hpr, if_neg (fun h => h rfl), f8, if_neg (by decide), f3, f4, f5, f6, f7, if_neg (fun h => h hE)]
  rcases h5 with ⟨g, _⟩ | ⟨_, ov, hov, rfl, rfl⟩
  · exact absurd hPE g
  · rw [f6] at hov ⊢
    rw [f1, f3, f4, f5, f7, hpr]
    exact ⟨ov, hov, rfl, rfl⟩
end Go.Proofs.YtidjnjlejhoalaaGreat
set_option linter.unusedSimpArgs false
set_option linter.unusedVariables false
namespace Go.Proofs.YtidjnjlejhoalaaGreat
open Go.RowKit Go.Shelf
set_option maxRecDepth 100000
def kch : List Int := [48, 49, 50, 51, 52, 53, 54, 55, 56, 57, 97, 98, 99, 100, 101, 102]
def cch : Cl := ⟨5, 0, 0, 1⟩
theorem known16_ok : CallP Tryz.prog 25 [] (.bool true) := by
  have hkb : Byt kch := by intro x hx; simp only [kch, List.mem_cons, List.not_mem_nil, or_false] at hx; omega
  have hkl : kch.length = 16 := rfl
  have hr : cch.right := by decide
  have hsl := secret_len kch cch
  have hsb := secret_byt kch cch
  have hmk := fun bk w1 hk => make_ok cch hr bk kch (by decide) hkb w1 hk
  have hcell : u8s kch ++ [] = [.int .u8 48, .int .u8 49, .int .u8 50, .int .u8 51, .int .u8 52, .int .u8 53, .int .u8 54, .int .u8 55, .int .u8 56, .int .u8 57, .int .u8 97, .int .u8 98, .int .u8 99, .int .u8 100, .int .u8 101, .int .u8 102] := rfl
  generalize hd : secretI kch cch = d at *
  have hE0 : pckE 7 cch 6 3 (0 + 1) 0 (zI 32) = 0 := by decide
  have hnew := fun w1 => chnew_ok cch hr d hsl 3 (by unfold NR; omega) w1
  have hwr := fun bc bn br bb bd sd m1 m2 w1 a1 a2 a3 a4 => chwrite_ok bc bn br bb bd sd 275 (0, 0) cch d hsl hsb m1 m2 300 7 6 (by decide) (by decide) (by decide) 3 0 (by decide) (by decide) none 0 0 [] rfl hE0 byt_nil w1 a1 a2 a3 a4 (.inl rfl) (fun h => absurd rfl h)
  have htt : (pkT (senderI d 6) 7 cch 6 3 (0 + 1) []).length = 32 := by unfold pkT; exact hmac_len _ _
  have htb : Byt (pkT (senderI d 6) 7 cch 6 3 (0 + 1) []) := by unfold pkT; exact hmac_byt _ _
  have hE1 : pckE 7 cch 6 3 (0 + 1) ([] : List Int).length (pkT (senderI d 6) 7 cch 6 3 (0 + 1) []) = 0 := by rw [pckE_np _ (zI 32) (by decide)]; exact hE0
  have hpa := fun p n cap hn w1 h => parse_wr p n cap 7 cch 6 3 (0 + 1) [] (pkT (senderI d 6) 7 cch 6 3 (0 + 1) []) htt htb byt_nil hE1 hn w1 h
  have hl1 := fun p2 cap2 => pk_len 7 cch 6 3 (0 + 1) p2 0 cap2 htt
  have ho1 := fun p2 cap2 => pk_one 7 cch 6 3 (0 + 1) p2 0 cap2 (pkT (senderI d 6) 7 cch 6 3 (0 + 1) [])
  unfold wrI at hwr
  generalize pkT (senderI d 6) 7 cch 6 3 (0 + 1) [] = TG at *
  generalize pkB 7 cch 6 3 (0 + 1) [] TG = PB at *
  have htl := tk_len (c := cch) hsl
  have hto := tk_one cch d
  refine enterP (tb := tb) Tryz.func25 rfl Tryz.ntmps25 rfl fun w0 => ?_
  repeat' (first | (apply R.is1; first | (apply R.convSame; (iterate 6 exact rfl); exact Upd.head) | (apply R.isCall; first | (apply R.callE (vs := [.slice (some ⟨_, 0, none⟩) 16 16]); (iterate 3 exact rfl); exact Ext.none _; intro w1 hw1; exact new_ok (some ⟨_, 0, none⟩) 16 16 kch hkl.symm (by decide) w1 (RdSl.of (junk := []) hw1 (by exact At.head) (by rw [fl_u8]; exact hcell.symm)); rintro v Lo ⟨bk, ov, rfl, hov, _, rfl⟩) | (apply R.callV (vs := [.pointer (some ⟨bk, 0, none⟩), .agg _]); (iterate 3 exact rfl); intro w1 hw1; exact hmk bk w1 (KeyR.of hov hw1 (Ext.mem (by (focus ((repeat' (exact Ext.here _ _)); done)))))) | (apply R.callE (vs := [.agg ⟨tkC cch d⟩, .int .i64 3]); (iterate 3 exact rfl); exact Ext.none _; intro w1 hw1; exact hnew w1; rintro v Lo ⟨bc, bn, br, bb, bd, bm, m1, m2, sd, dr, rfl, rfl⟩; unfold ChL RL0)) | (apply R.pure; exact rfl; first | (apply Ok1.load; exact rfl; (apply Ld.ownk; exact rfl; exact rfl; exact At.head; exact subE_all htl)) | (apply Ok1.move; exact rfl) | (apply Ok1.assign; exact rfl) | (apply Ok1.build; (iterate 5 exact rfl)) | (apply Ok1.extract; exact rfl; exact rfl)) | (apply R.alloc; (iterate 3 exact rfl); intro) | (apply R.buildSlice; (iterate 12 exact rfl); intro)) | (apply R.is0; (apply R.store; (iterate 4 exact rfl); exact htl; exact hto; exact Upd.head; exact setE_all htl)) | apply R.nil | (apply T.is; first | apply T.seq | apply T.region))
  rename_i bt
  have hwr2 : ∀ (S : List Nat) (L Lr : Lst) (w1 : World), Hp w0 S L w1 → Ext L [(bn, .cells ⟨[.int .i64 3, .int .i64 0]⟩ 379 (0, 0))] Lr → (bc, .cells ⟨chC bn br bb bd sd⟩ 275 (0, 0)) ∈ Lr → (br, .cells ⟨ringC cch d m1 m2⟩ 300 (0, 0)) ∈ Lr → _ := fun S L Lr w1 hw he h1 h2 => hwr bc bn br bb bd sd m1 m2 w1 (hw.get _ _ (he.perm.subset (List.mem_append_right _ h1))) (hw.get _ _ (he.perm.subset (List.mem_append_right _ h2))) (by have := RdSl.off hw he h1; simpa [blks] using this) (by have := RdSl.off hw he h2; simpa [blks] using this)
  simp only [List.cons_append, List.nil_append, List.append_assoc]
  generalize BL bb bm [] 0 = BB at *
  generalize KL bk ov kch = KK at *
  repeat' (first | (apply R.is1; first | (apply R.isBin; first | (apply R.pure; exact rfl; (apply Ok1.eql_t; exact rfl; exact rfl; omega)) | (apply R.eqlF; (iterate 8 exact rfl); all_goals intro)) | (apply R.isCall; first | (apply R.callE (Li := [(bn, .cells ⟨[.int .i64 3, .int .i64 0]⟩ 379 (0, 0))]) (vs := [.pointer (some ⟨bc, 0, none⟩), .int .i64 7, .int .i64 6, .slice none 0 0]); (iterate 3 exact rfl); (focus ((repeat' (first | exact Ext.one _ _ | apply Ext.cons)); done)); intro w1 hw1; exact hwr2 _ _ _ w1 hw1 (by (focus ((repeat' (first | exact Ext.one _ _ | apply Ext.cons)); done))) (At.mem (by exact At.head)) (At.mem (by (focus ((repeat' (first | exact At.head | apply At.tail)); done)))); rintro v Lo ⟨ovw, hovw, rfl, rfl⟩; rw [slV_eq hovw]) | (apply R.callE (vs := [.slice (ovp ovw) PB.length (ovc ovw PB.length)]); (iterate 3 exact rfl); exact Ext.none _; intro w1 hw1; exact hpa (ovp ovw) PB.length (ovc ovw PB.length) rfl w1 (RdSl.own' hw1 (Ext.mem (by rw [fl_u8]; (focus ((repeat' (first | exact Ext.here _ _ | apply Ext.cons)); done)))) (by rw [fl_u8]; exact hovw) u8V_len); rintro v Lo ⟨ovp2, hovp2, rfl, rfl⟩; simp only [pkC])) | (apply R.pure; exact rfl; first | (apply Ok1.move; exact rfl) | (apply Ok1.fieldAddr; (iterate 5 exact rfl)) | (apply Ok1.load; exact rfl; (apply Ld.ownk; exact rfl; exact rfl; exact At.head; exact rfl)) | (apply Ok1.assign; exact rfl) | (apply Ok1.build; (iterate 5 exact rfl)) | (apply Ok1.extract; exact rfl; exact rfl) | (apply Ok1.pick_t; exact rfl; exact rfl)) | (apply R.alloc; (iterate 3 exact rfl); intro)) | (apply R.is0; (apply R.store; (iterate 4 exact rfl); exact (hl1 _ _); exact (ho1 _ _); exact Upd.head; exact setE_all (hl1 _ _))) | (apply R.isG; (apply R.guard_run; exact rfl; exact rfl)) | apply R.nil | (apply T.is; first | apply T.seq | apply T.region | apply T.ret))
  all_goals (apply RetOk.t; exact rfl)
  all_goals first | rfl | (rename_i h; exact absurd rfl h)
end Go.Proofs.YtidjnjlejhoalaaGreat
set_option linter.unusedSimpArgs false
set_option linter.unusedVariables false
namespace Go.Proofs.YtidjnjlejhoalaaGreat
open Go.RowKit Go.Shelf
set_option maxRecDepth 100000
theorem grant16_nil (bk2 : Nat) (c : Cl) (a b : Int) : CallP Tryz.prog 15 [.pointer none, .agg ⟨[.int .i64 a, .int .i64 b]⟩, kvC c, .pointer (some ⟨bk2, 0, none⟩)] (.tuple #[.slice none 0 0, .int .i64 1]) := by
  refine enterP (tb := tb) Tryz.func15 rfl Tryz.ntmps15 rfl fun w => ?_
  simp only [kvC]
  repeat' (first | (apply R.is1; first | (apply R.isBin; (apply R.pure; exact rfl; (apply Ok1.eqlP; (iterate 5 exact rfl)))) | (apply R.pure; exact rfl; first | (apply Ok1.move; exact rfl) | (apply Ok1.assign; exact rfl) | (apply Ok1.pick_t; exact rfl; exact rfl)) | (apply R.box; (iterate 3 exact rfl); intro)) | (apply R.isG; (apply R.guard_not; (iterate 3 exact rfl))) | apply R.nil | (apply T.is; first | apply T.seq | apply T.region | apply T.ret | (apply T.cond_t; exact rfl)))
  (apply RetOk.tt; exact rfl; exact rfl)
  rfl
/-- A grant's body. -/
def grI (key k2 : List Int) (c : Cl) (a b : Int) : List Int := clI c ++ sealI key (nbI a b) (clI c) k2
theorem grI_len (key : List Int) {k2 : List Int} (c : Cl) (a b : Int) (h : k2.length = 32) : (grI key k2 c a b).length = 73 := by
  rw [grI, List.length_append, sealI_len, clI_len, h]
theorem nbI_byt (a b : Int) : Byt (nbI a b) := Byt.app (Byt.app byt_nil (num_byt _ _)) (num_byt _ _)
theorem grant16_ok (bk : Nat) (key : List Int) (hkl : key.length ≤ 999999000) (hkb : Byt key) (bk2 : Nat) (k2 : List Int) (h32 : k2.length = 32) (hk2b : Byt k2) (c : Cl) (hr : c.right) (a b : Int) (hn : NR a b) (w : World) (hk : KeyR w bk key) (hk2 : KeyR w bk2 k2) :
    CallM Tryz.prog 15 [.pointer (some ⟨bk, 0, none⟩), .agg ⟨[.int .i64 a, .int .i64 b]⟩, kvC c, .pointer (some ⟨bk2, 0, none⟩)] [] w fun v L => ∃ ov, OvOk 1 ov 73 (u8s (grI key k2 c a b)) ∧ v = .tuple #[slV ov 73, .int .i64 0] ∧ L = blkL 5 ov (u8s (grI key k2 c a b)) := by
  have hcb := fun w1 => clBytes_ok c hr w1
  have hnb := fun w1 => wnbytes_ok a b hn w1
  have hby := fun w1 (hc : Chg [] w w1) => bytes_ok bk2 k2 (by omega) w1 (hk2.chg hc)
  rw [h32] at hby
  have hse := fun pn cn pb cb p cap w1 (hc : Chg [] w w1) h1 h2 h3 => sseal_ok bk key hkl hkb pn 6 cn (nbI a b) rfl (by decide) (nbI_byt a b) pb 9 cb (clI c) rfl (by decide) (clI_byt c) p 32 cap k2 h32.symm (by decide) hk2b w1 (hk.chg hc) h1 h2 h3
  have hgl := grI_len key c a b h32
  have hsl : (sealI key (nbI a b) (clI c) k2).length = 64 := by rw [sealI_len, h32]
  have hcat : ∀ p1 c1 p2 c2, cat [⟨p1, c1, clI c⟩, ⟨p2, c2, sealI key (nbI a b) (clI c) k2⟩] = grI key k2 c a b := fun p1 c1 p2 c2 => by simp [cat, grI]
  generalize grI key k2 c a b = G at *
  generalize sealI key (nbI a b) (clI c) k2 = SL at *
  have hcl : (clI c).length = 9 := rfl
  have hnl : (nbI a b).length = 6 := rfl
  generalize clI c = CL at *
  generalize nbI a b = NB at *
  have hco := fun pp p1 c1 p2 c2 w1 h1 (h2 : RdSl w1 p1 u8V CL) (h3 : RdSl w1 p2 u8V SL) => concat_ok (some ⟨pp, 0, none⟩) 2 2 [⟨p1, c1, CL⟩, ⟨p2, c2, SL⟩] rfl (by rw [hcat, hgl]; decide) (by decide) w1 h1 (by simp only [List.mem_cons, List.not_mem_nil, or_false, forall_eq_or_imp, forall_eq]; exact ⟨h2, h3⟩)
  simp only [hcat, hgl] at hco
  refine enterK (tb := tb) Tryz.func15 rfl Tryz.ntmps15 rfl ?_
  simp only [kvC] at hcb ⊢
  repeat' (first | (apply R.is1; first | (apply R.isBin; (apply R.pure; exact rfl; first | (apply Ok1.eqlP; (iterate 5 exact rfl)) | (apply Ok1.neq_f; exact rfl; exact rfl; omega))) | (apply R.isCall; first | (apply R.callE (vs := [.agg ⟨[.int .i64 c.id, .int .i64 c.roles, .int .i64 c.exp, .int .i64 c.ser]⟩]); (iterate 3 exact rfl); exact Ext.none _; intro w1 hw1; exact hcb w1; rintro v Lo ⟨ovcl, hovcl, rfl, rfl⟩; rw [slV_eq hovcl]) | (apply R.callE (vs := [.agg ⟨[.int .i64 a, .int .i64 b]⟩]); (iterate 3 exact rfl); exact Ext.none _; intro w1 hw1; exact hnb w1; rintro v Lo ⟨ovn, hovn, rfl, rfl⟩; rw [slV_eq hovn]) | (apply R.callE (vs := [.pointer (some ⟨bk2, 0, none⟩)]); (iterate 3 exact rfl); exact Ext.none _; intro w1 hw1; exact hby w1 hw1.chg; rintro v Lo ⟨ovk, hovk, rfl, rfl⟩; rw [slV_eq hovk]) | (apply R.callE (vs := [.pointer (some ⟨bk, 0, none⟩), .slice (ovp ovn) 6 (ovc ovn 6), .slice (ovp ovcl) 9 (ovc ovcl 9), .slice (ovp ovk) 32 (ovc ovk 32)]); (iterate 3 exact rfl); exact Ext.none _; intro w1 hw1; exact hse _ _ _ _ _ _ w1 hw1.chg (RdSl.own' hw1 (Ext.mem (by rw [fl_u8]; (focus ((repeat' (first | exact Ext.here _ _ | apply Ext.app)); done)))) (by rw [fl_u8, hnl]; exact hovn) u8V_len) (RdSl.own' hw1 (Ext.mem (by rw [fl_u8]; (focus ((repeat' (first | exact Ext.here _ _ | apply Ext.app)); done)))) (by rw [fl_u8, hcl]; exact hovcl) u8V_len) (RdSl.own' hw1 (Ext.mem (by rw [fl_u8]; (focus ((repeat' (exact Ext.here _ _)); done)))) (by rw [fl_u8, h32]; exact hovk) u8V_len); rintro v Lo ⟨ovs, hovs, rfl, rfl⟩; rw [slV_eq hovs]) | (apply R.callE; (iterate 3 exact rfl); exact Ext.none _; intro w1 hw1; exact hco _ (ovp ovcl) (ovc ovcl 9) (ovp ovs) (ovc ovs (32 + 32)) w1 (RdSl.of (v := Pt.v) (rs := [⟨ovp ovcl, ovc ovcl 9, CL⟩, ⟨ovp ovs, ovc ovs (32 + 32), SL⟩]) (junk := []) hw1 .head (by simp [Pt.v, fl, hcl, hsl])) (RdSl.own' hw1 (Ext.mem (by rw [fl_u8]; (focus ((repeat' (first | exact Ext.here _ _ | apply Ext.cons | apply Ext.app)); done)))) (by rw [fl_u8, hcl]; exact hovcl) u8V_len) (RdSl.own' hw1 (Ext.mem (by rw [fl_u8]; (focus ((repeat' (first | exact Ext.here _ _ | apply Ext.cons)); done)))) (by rw [fl_u8, hsl]; exact hovs) u8V_len); rintro v Lo ⟨ovg, hovg, rfl, rfl⟩) | (apply R.pure; exact rfl; (apply Ok1.lenS; (iterate 3 exact rfl)))) | (apply R.pure; exact rfl; first | (apply Ok1.move; exact rfl) | (apply Ok1.load; exact rfl; (apply Ld.ownk; exact rfl; exact rfl; (focus ((repeat' (first | exact At.head | apply At.tail | apply At.right)); done)); exact rfl)) | (apply Ok1.assign; exact rfl) | (apply Ok1.extract; exact rfl; exact rfl) | (apply Ok1.pick_f; exact rfl; exact rfl)) | (apply R.box; (iterate 3 exact rfl); intro) | (apply R.buildSlice; (iterate 12 exact rfl); intro)) | (apply R.isG; (apply R.guard_run; exact rfl; exact rfl)) | apply R.nil | (apply T.is; first | apply T.seq | apply T.region | apply T.block | apply T.skip | apply T.ret | (apply T.cond_f; exact rfl)))
  (apply RetOk.tt; exact rfl; exact rfl)
  exact ⟨_, by (focus ((repeat' (first | exact Ext.here _ _ | apply Keep.last)); done)), ovg, hovg, rfl, rfl⟩
end Go.Proofs.YtidjnjlejhoalaaGreat
set_option linter.unusedSimpArgs false
set_option linter.unusedVariables false
namespace Go.Proofs.YtidjnjlejhoalaaGreat
open Go.RowKit Go.Shelf
set_option maxRecDepth 100000
section
variable {X : Cx} {σ : Env} {L : Lst} {Rp : Value → Lst → Prop} {a b c' ta : Nat} {u v z : Value} {p : Addr}
theorem RetOk.ctt (h1 : look σ a = some (.pointer (some p))) (h2 : Ld X L ta p u) (h3 : look σ b = some v) (h4 : look σ c' = some z) (h : Rp (.tuple ⟨[u, v, z]⟩) L) : RetOk X [.cell a ta, .tmp b, .tmp c'] Rp σ L := ⟨[u, v, z], .cell h1 h2 (.tmp h3 (.tmp h4 .nil)), h⟩
end
/-- What is wrong with what a body grants; sc: what its claims are read by. -/
def gdE (key : List Int) (a b : Int) (bs : List Int) (sc : Rs) : Int := if bs.length < 73 then 4 else if 73 < bs.length then 3 else if (prC sc).2 ≠ 0 then 3 else if ¬ NR a b then 10 else sopE key (nbI a b) (bs.take 9) (bs.drop 9)
def GdPost (key : List Int) (a b : Int) (bs : List Int) (v : Value) (L : Lst) : Prop := ∃ sc : Rs, (bs.length = 73 → sc.xs = bs.take 9 ∧ sc.e = 0) ∧ ((gdE key a b bs sc ≠ 0 ∧ v = .tuple #[kvC cl0, .pointer none, .int .i64 (gdE key a b bs sc)] ∧ L = []) ∨ (gdE key a b bs sc = 0 ∧ ∃ bk2 ov, OvOk 1 ov 32 (u8s (sopI key (nbI a b) (bs.drop 9))) ∧ v = .tuple #[kvC (prC sc).1, .pointer (some ⟨bk2, 0, none⟩), .int .i64 0] ∧ L = KL bk2 ov (sopI key (nbI a b) (bs.drop 9))))
theorem granted16_nil (a b : Int) (p : Option Addr) (n cap : Nat) : CallP Tryz.prog 18 [.pointer none, .agg ⟨[.int .i64 a, .int .i64 b]⟩, .slice p n cap] (.tuple #[kvC cl0, .pointer none, .int .i64 1]) := by
  refine enterP (tb := tb) Tryz.func18 rfl Tryz.ntmps18 rfl fun w => ?_
  repeat' (first | (apply R.is1; first | (apply R.isBin; (apply R.pure; exact rfl; (apply Ok1.eqlP; (iterate 5 exact rfl)))) | (apply R.pure; exact rfl; first | (apply Ok1.move; exact rfl) | (apply Ok1.assign; exact rfl) | (apply Ok1.build; (iterate 5 exact rfl))) | (apply R.box; (iterate 3 exact rfl); intro) | (apply R.alloc; (iterate 3 exact rfl); intro)) | (apply R.is0; (apply R.store; (iterate 6 exact rfl); exact Upd.head; exact rfl)) | apply R.nil | (apply T.is; first | apply T.seq | apply T.region | apply T.block | apply T.ret | (apply T.cond_t; exact rfl)))
  (apply RetOk.ctt; exact rfl; (apply Ld.ownk; exact rfl; exact rfl; exact At.head; exact rfl); exact rfl; exact rfl)
  rfl
theorem granted16_len (bk : Nat) (key : List Int) (a b : Int) (p : Option Addr) (n cap : Nat) (bs : List Int) (hn : n = bs.length) (h : n ≠ 73) (w : World) : CallM Tryz.prog 18 [.pointer (some ⟨bk, 0, none⟩), .agg ⟨[.int .i64 a, .int .i64 b]⟩, .slice p n cap] [] w (GdPost key a b bs) := by
  have hp : ∀ v L E, gdE key a b bs ⟨none, 0, [], 0⟩ = E → E ≠ 0 → v = .tuple #[kvC cl0, .pointer none, .int .i64 E] → L = [] → GdPost key a b bs v L := fun v L E h1 h2 h3 h4 => ⟨⟨none, 0, [], 0⟩, fun g => absurd (hn.trans g) h, .inl ⟨by rw [h1]; exact h2, by rw [h1]; exact h3, h4⟩⟩
  by_cases h1 : n < 73
  · have hE : gdE key a b bs ⟨none, 0, [], 0⟩ = 4 := by unfold gdE; rw [if_pos (by omega)]
    refine enterK (tb := tb) Tryz.func18 rfl Tryz.ntmps18 rfl ?_
    repeat' (first | (apply R.is1; first | (apply R.isBin; (apply R.pure; exact rfl; first | (apply Ok1.eqlP; (iterate 5 exact rfl)) | (apply Ok1.lss_t; exact rfl; exact rfl; omega))) | (apply R.isCall; (apply R.pure; exact rfl; (apply Ok1.lenS; (iterate 3 exact rfl)))) | (apply R.pure; exact rfl; first | (apply Ok1.move; exact rfl) | (apply Ok1.assign; exact rfl) | (apply Ok1.build; (iterate 5 exact rfl))) | (apply R.box; (iterate 3 exact rfl); intro) | (apply R.alloc; (iterate 3 exact rfl); intro)) | (apply R.is0; (apply R.store; (iterate 6 exact rfl); exact Upd.head; exact rfl)) | apply R.nil | (apply T.is; first | apply T.seq | apply T.region | apply T.block | apply T.ret | (apply T.cond_t; exact rfl) | (apply T.cond_f; exact rfl)))
    (apply RetOk.ctt; exact rfl; (apply Ld.ownk; exact rfl; exact rfl; exact At.head; exact rfl); exact rfl; exact rfl)
    exact ⟨_, by (focus ((repeat' (exact Keep.nil _)); done)), hp _ _ 4 hE (by decide) rfl rfl⟩
  · have hE : gdE key a b bs ⟨none, 0, [], 0⟩ = 3 := by unfold gdE; rw [if_neg (by omega), if_pos (by omega)]
    refine enterK (tb := tb) Tryz.func18 rfl Tryz.ntmps18 rfl ?_
    repeat' (first | (apply R.is1; first | (apply R.isBin; (apply R.pure; exact rfl; first | (apply Ok1.eqlP; (iterate 5 exact rfl)) | (apply Ok1.lss_f; exact rfl; exact rfl; omega) | (apply Ok1.gtr_t; exact rfl; exact rfl; omega))) | (apply R.isCall; (apply R.pure; exact rfl; (apply Ok1.lenS; (iterate 3 exact rfl)))) | (apply R.pure; exact rfl; first | (apply Ok1.move; exact rfl) | (apply Ok1.assign; exact rfl) | (apply Ok1.build; (iterate 5 exact rfl))) | (apply R.box; (iterate 3 exact rfl); intro) | (apply R.alloc; (iterate 3 exact rfl); intro)) | (apply R.is0; (apply R.store; (iterate 6 exact rfl); exact Upd.head; exact rfl)) | apply R.nil | (apply T.is; first | apply T.seq | apply T.region | apply T.block | apply T.ret | (apply T.cond_t; exact rfl) | (apply T.cond_f; exact rfl)))
    (apply RetOk.ctt; exact rfl; (apply Ld.ownk; exact rfl; exact rfl; exact At.head; exact rfl); exact rfl; exact rfl)
    exact ⟨_, by (focus ((repeat' (exact Keep.nil _)); done)), hp _ _ 3 hE (by decide) rfl rfl⟩
theorem granted16_ok (bk : Nat) (key : List Int) (hkl : key.length ≤ 999999000) (hkb : Byt key) (a b : Int) (p : Option Addr) (n cap : Nat) (bs : List Int) (hn : n = bs.length) (h : n = 73) (hcap : n ≤ cap) (hbb : Byt bs) (w : World) (hk : KeyR w bk key) (hp : RdSl w p u8V bs) : CallM Tryz.prog 18 [.pointer (some ⟨bk, 0, none⟩), .agg ⟨[.int .i64 a, .int .i64 b]⟩, .slice p n cap] [] w (GdPost key a b bs) := by
  have ht9 : (bs.take 9).length = 9 := by rw [List.length_take]; omega
  have hd9 : (bs.drop 9).length = 64 := by rw [List.length_drop]; omega
  have hcp := fun w1 (hc : Chg [] w w1) => clparse_ok p 9 cap (bs.take 9) ht9.symm (by decide) (fun y hy => hbb y (List.mem_of_mem_take hy)) w1 ((hp.pre u8V_len 9).chg' hc (fun _ => Off.nil _))
  have hop := fun pn cn w1 (hc : Chg [] w w1) h1 => sopen_ok bk key hkl hkb pn 6 cn (nbI a b) rfl (by decide) (nbI_byt a b) p 9 cap (bs.take 9) ht9.symm (by decide) (fun y hy => hbb y (List.mem_of_mem_take hy)) (sufP p cap 9 1) (n - 9) (cap - 9) (bs.drop 9) (by omega) (by omega) (by omega) (fun y hy => hbb y (List.mem_of_mem_drop hy)) w1 (hk.chg hc) h1 ((hp.pre u8V_len 9).chg' hc (fun _ => Off.nil _)) ((hp.suf u8V_len (by omega) (by omega)).chg' hc (fun _ => Off.nil _))
  have hgd : ∀ sc, gdE key a b bs sc = if (prC sc).2 ≠ 0 then 3 else if ¬ NR a b then 10 else sopE key (nbI a b) (bs.take 9) (bs.drop 9) := fun sc => by unfold gdE; rw [if_neg (by omega), if_neg (by omega)]
  refine enterK (tb := tb) Tryz.func18 rfl Tryz.ntmps18 rfl ?_
  repeat' (first | (apply R.is1; first | (apply R.isBin; (apply R.pure; exact rfl; first | (apply Ok1.eqlP; (iterate 5 exact rfl)) | (apply Ok1.lss_f; exact rfl; exact rfl; omega) | (apply Ok1.gtr_f; exact rfl; exact rfl; omega))) | (apply R.isCall; first | (apply R.callE (vs := [.slice p 9 cap]); (iterate 3 exact rfl); exact Ext.none _; intro w1 hw1; exact hcp w1 hw1.chg; rintro v Lo ⟨sc, hsc1, hsc2, rfl, rfl⟩; simp only [kvC]) | (apply R.pure; exact rfl; (apply Ok1.lenS; (iterate 3 exact rfl)))) | (apply R.pure; exact rfl; first | (apply Ok1.preR (i := 9); (iterate 5 exact rfl); omega) | (apply Ok1.move; exact rfl) | (apply Ok1.assign; exact rfl) | (apply Ok1.extract; exact rfl; exact rfl)) | (apply R.box; (iterate 3 exact rfl); intro) | (apply R.alloc; (iterate 3 exact rfl); intro)) | (apply R.is0; (apply R.store; (iterate 6 exact rfl); exact Upd.head; exact rfl)) | apply R.nil | (apply T.is; first | (apply T.stop 8) | apply T.seq | apply T.region | apply T.block | apply T.skip | (apply T.cond_f; exact rfl)))
  rename_i b4 b6 b9
  refine ⟨?_⟩
  rw [if_pos (by decide)] at hsc1 hsc2
  have hD := hgd sc
  have hpost : ∀ v L, ((gdE key a b bs sc ≠ 0 ∧ v = .tuple #[kvC cl0, .pointer none, .int .i64 (gdE key a b bs sc)] ∧ L = []) ∨ (gdE key a b bs sc = 0 ∧ ∃ bk2 ov, OvOk 1 ov 32 (u8s (sopI key (nbI a b) (bs.drop 9))) ∧ v = .tuple #[kvC (prC sc).1, .pointer (some ⟨bk2, 0, none⟩), .int .i64 0] ∧ L = KL bk2 ov (sopI key (nbI a b) (bs.drop 9)))) → GdPost key a b bs v L := fun v L g => ⟨sc, fun _ => ⟨hsc1, hsc2⟩, g⟩
  generalize gdE key a b bs sc = E at *
  generalize prC sc = pr at *
  obtain ⟨c, ec⟩ := pr
  simp only at hD hpost
  refine T.weakK (σ' := [(0, .pointer (some ⟨bk, 0, none⟩)), (2, .slice p n cap), (4, .pointer (some ⟨b4, 0, none⟩)), (6, .pointer (some ⟨b6, 0, none⟩)), (9, .pointer (some ⟨b9, 0, none⟩)), (10, .int .i64 ec)]) (L' := [(b9, .cells ⟨[.int .i64 c.id, .int .i64 c.roles, .int .i64 c.exp, .int .i64 c.ser]⟩ 40 (0, 0)), (b4, .cells ⟨[.int .i64 a, .int .i64 b]⟩ 38 (0, 0)), (b6, .cells ⟨clC cl0⟩ 40 (0, 0))]) ?_ (by (focus ((repeat' (first | exact Keep.nil _ | exact Ext.one _ _ | apply Keep.cons | apply Ext.cons)); done))) ⟨rfl, rfl, rfl, rfl, rfl, rfl, trivial⟩
  by_cases h1 : ec = 0
  case neg =>
    rw [if_pos h1] at hD
    subst hD
    repeat' (first | (apply R.is1; first | (apply R.isBin; (apply R.pure; exact rfl; (apply Ok1.neq_t; exact rfl; exact rfl; omega))) | (apply R.pure; exact rfl; first | (apply Ok1.move; exact rfl) | (apply Ok1.assign; exact rfl) | (apply Ok1.build; (iterate 5 exact rfl)))) | (apply R.is0; (apply R.store; (iterate 6 exact rfl); (focus ((repeat' (first | exact Upd.head | apply Upd.tail)); done)); exact rfl)) | apply R.nil | (apply T.is; first | apply T.seq | apply T.region | apply T.ret | (apply T.cond_t; exact rfl)))
    all_goals (apply RetOk.ctt; exact rfl; (apply Ld.ownk; exact rfl; exact rfl; (focus ((repeat' (first | exact At.head | apply At.tail)); done)); exact rfl); exact rfl; exact rfl)
    all_goals exact ⟨_, by (focus ((repeat' (exact Keep.nil _)); done)), hpost _ _ (.inl ⟨by decide, rfl, rfl⟩)⟩
  rw [if_neg (fun g => g h1)] at hD
  subst h1
  by_cases h2 : NR a b
  case neg =>
    rw [if_pos h2] at hD
    subst hD
    have hnb := wnbytes_bad a b h2
    repeat' (first | (apply R.is1; first | (apply R.isBin; (apply R.pure; exact rfl; first | (apply Ok1.neq_t; exact rfl; exact rfl; omega) | (apply Ok1.neq_f; exact rfl; exact rfl; omega))) | (apply R.isCall; apply R.callP rfl rfl rfl hnb) | (apply R.pure; exact rfl; first | (apply Ok1.move; exact rfl) | (apply Ok1.load; exact rfl; (apply Ld.ownk; exact rfl; exact rfl; (focus ((repeat' (first | exact At.head | apply At.tail)); done)); exact rfl)) | (apply Ok1.assign; exact rfl) | (apply Ok1.build; (iterate 5 exact rfl)) | (apply Ok1.extract; exact rfl; exact rfl))) | (apply R.is0; (apply R.store; (iterate 6 exact rfl); (focus ((repeat' (first | exact Upd.head | apply Upd.tail)); done)); exact rfl)) | apply R.nil | (apply T.is; first | apply T.seq | apply T.region | apply T.skip | apply T.ret | (apply T.cond_t; exact rfl) | (apply T.cond_f; exact rfl)))
    all_goals (apply RetOk.ctt; exact rfl; (apply Ld.ownk; exact rfl; exact rfl; (focus ((repeat' (first | exact At.head | apply At.tail)); done)); exact rfl); exact rfl; exact rfl)
    all_goals exact ⟨_, by (focus ((repeat' (exact Keep.nil _)); done)), hpost _ _ (.inl ⟨by decide, rfl, rfl⟩)⟩
  rw [if_neg (fun g => g h2)] at hD
  have hnb := fun w1 => wnbytes_ok a b h2 w1
  have hnl : (nbI a b).length = 6 := rfl
  have hsn : sopN key (nbI a b) (bs.take 9) (bs.drop 9) = if E = 0 then sopI key (nbI a b) (bs.drop 9) else [] := by rw [hD]; rfl
  have hsl := sopN_len key (nbI a b) (bs.take 9) (bs.drop 9)
  rw [← hD] at hop hsl
  rw [hd9] at hsl
  generalize sopN key (nbI a b) (bs.take 9) (bs.drop 9) = SN at *
  generalize sopI key (nbI a b) (bs.drop 9) = SI at *
  generalize nbI a b = NB at *
  clear hD
  repeat' (first | (apply R.is1; first | (apply R.isBin; (apply R.pure; exact rfl; (apply Ok1.neq_f; exact rfl; exact rfl; omega))) | (apply R.isCall; (apply R.callE (vs := [.agg ⟨[.int .i64 a, .int .i64 b]⟩]); (iterate 3 exact rfl); exact Ext.none _; intro w1 hw1; exact hnb w1; rintro v Lo ⟨ovn, hovn, rfl, rfl⟩; rw [slV_eq hovn])) | (apply R.pure; exact rfl; first | (apply Ok1.move; exact rfl) | (apply Ok1.load; exact rfl; (apply Ld.ownk; exact rfl; exact rfl; (focus ((repeat' (first | exact At.head | apply At.tail)); done)); exact rfl)) | (apply Ok1.assign; exact rfl) | (apply Ok1.extract; exact rfl; exact rfl))) | apply R.nil | (apply T.is; first | (apply T.stop 14) | (apply T.drawC (id := 13) [] (by decide); ((apply A.take 0; exact rfl; exact rfl; kernel_rfl; kernel_rfl; kernel_rfl; (apply Ok1.move; exact rfl)) <;> (apply A.take 1; exact rfl; exact rfl; kernel_rfl; kernel_rfl; kernel_rfl; (apply Ok1.move; exact rfl)) <;> (apply A.take 2; exact rfl; exact rfl; kernel_rfl; kernel_rfl; kernel_rfl; (apply Ok1.move; exact rfl)) <;> (apply A.take 3; exact rfl; exact rfl; kernel_rfl; kernel_rfl; kernel_rfl; (apply Ok1.preR (i := 9); (iterate 5 exact rfl); omega)) <;> (apply A.take 4; exact rfl; exact rfl; kernel_rfl; kernel_rfl; kernel_rfl; (apply Ok1.move; exact rfl)) <;> (apply A.take 5; exact rfl; exact rfl; kernel_rfl; kernel_rfl; kernel_rfl; (apply Ok1.sufR (i := 9) (sz := 1); (iterate 6 exact rfl); omega; exact hcap)) <;> (apply A.one 6; kernel_rfl; exact rfl; (((apply R.callE (vs := [.pointer (some ⟨bk, 0, none⟩), .slice (ovp ovn) 6 (ovc ovn 6), .slice p 9 cap, .slice (sufP p cap 9 1) (n - 9) (cap - 9)]); (iterate 3 exact rfl); exact Ext.none _; intro w1 hw1; exact hop _ _ w1 hw1.chg (RdSl.own' hw1 (Ext.mem (by rw [fl_u8]; (focus ((repeat' (exact Ext.here _ _)); done)))) (by rw [fl_u8, hnl]; exact hovn) u8V_len); rintro v Lo ⟨ovo, hovo, rfl, rfl⟩; rw [slV_eq hovo]))); apply R.nil; refine ⟨?_, ?_⟩; (focus ((repeat' (exact trivial))))) <;> (apply A.take 7; exact rfl; exact rfl; kernel_rfl; kernel_rfl; kernel_rfl; (apply Ok1.move; exact rfl)) <;> (apply A.take 8; exact rfl; exact rfl; kernel_rfl; kernel_rfl; kernel_rfl; (apply Ok1.extract; exact rfl; exact rfl)) <;> (apply A.take 9; exact rfl; exact rfl; kernel_rfl; kernel_rfl; kernel_rfl; (apply Ok1.extract; exact rfl; exact rfl)) <;> (apply A.take 10; exact rfl; exact rfl; kernel_rfl; kernel_rfl; kernel_rfl; (apply Ok1.assign; exact rfl)) <;> (apply A.take 11; exact rfl; exact rfl; kernel_rfl; kernel_rfl; kernel_rfl; (apply Ok1.assign; exact rfl)) <;> (apply A.done; kernel_rfl))) | apply T.seq | apply T.region | apply T.skip | (apply T.cond_f; exact rfl)))
  all_goals refine ⟨?_⟩
  all_goals refine T.weakK (σ' := [(6, .pointer (some ⟨b6, 0, none⟩)), (9, .pointer (some ⟨b9, 0, none⟩)), (10, .int .i64 E), (12, .slice (ovp ovo) SN.length (ovc ovo SN.length))]) (L' := (b9, .cells ⟨[.int .i64 c.id, .int .i64 c.roles, .int .i64 c.exp, .int .i64 c.ser]⟩ 40 (0, 0)) :: (b6, .cells ⟨clC cl0⟩ 40 (0, 0)) :: blkL 5 ovo (u8s SN)) ?_ (by (focus ((repeat' (first | exact Ext.one _ _ | exact Ext.here _ _ | apply Keep.cons | apply Keep.last | apply Ext.cons | apply Ext.app)); done))) ⟨rfl, rfl, rfl, rfl, trivial⟩
  all_goals by_cases h3 : E = 0
  all_goals first
    | (rw [if_neg h3] at hsn
       repeat' (first | (apply R.is1; first | (apply R.isBin; (apply R.pure; exact rfl; (apply Ok1.neq_t; exact rfl; exact rfl; omega))) | (apply R.pure; exact rfl; first | (apply Ok1.move; exact rfl) | (apply Ok1.assign; exact rfl) | (apply Ok1.build; (iterate 5 exact rfl)))) | (apply R.is0; (apply R.store; (iterate 6 exact rfl); (focus ((repeat' (first | exact Upd.head | apply Upd.tail)); done)); exact rfl)) | apply R.nil | (apply T.is; first | apply T.seq | apply T.region | apply T.ret | (apply T.cond_t; exact rfl)))
       (apply RetOk.ctt; exact rfl; (apply Ld.ownk; exact rfl; exact rfl; (focus ((repeat' (first | exact At.head | apply At.tail)); done)); exact rfl); exact rfl; exact rfl)
       exact ⟨_, by (focus ((repeat' (exact Keep.nil _)); done)), hpost _ _ (.inl ⟨h3, rfl, rfl⟩)⟩)
    | (rw [if_pos h3] at hsn hsl
       subst h3
       repeat' (first | (apply R.is1; first | (apply R.isBin; (apply R.pure; exact rfl; (apply Ok1.neq_f; exact rfl; exact rfl; omega))) | (apply R.pure; exact rfl; (apply Ok1.move; exact rfl))) | apply R.nil | (apply T.is; first | (apply T.drawC (id := 16) [0] (by decide); ((apply A.take 0; exact rfl; exact rfl; kernel_rfl; kernel_rfl; kernel_rfl; (apply Ok1.load; exact rfl; (apply Ld.ownk; exact rfl; exact rfl; exact At.head; exact rfl))) <;> (apply A.take 1; exact rfl; exact rfl; kernel_rfl; kernel_rfl; kernel_rfl; (apply Ok1.move; exact rfl)) <;> (apply A.one 2; kernel_rfl; exact rfl; (((apply R.callE (vs := [.slice (ovp ovo) SN.length (ovc ovo SN.length)]); (iterate 3 exact rfl); exact Ext.none _; intro w1 hw1; exact new_ok (ovp ovo) SN.length (ovc ovo SN.length) SN rfl (by omega) w1 (RdSl.own' hw1 (Ext.mem (by rw [fl_u8]; (focus ((repeat' (first | exact Ext.all _ | apply Ext.cons)); done)))) (by rw [fl_u8]; exact hovo) u8V_len); rintro v Lo ⟨bk2, ov2, rfl, hov2, _, rfl⟩))); apply R.nil; refine ⟨?_, ?_⟩; (focus ((repeat' (first | exact trivial | (refine ⟨?_, ?_⟩; (focus ((repeat' (first | exact At.head | apply At.tail | apply At.right)); done)))))))) <;> (apply A.one 3; kernel_rfl; exact rfl; (((apply R.store; (iterate 6 exact rfl); (focus ((repeat' (first | exact Upd.head | apply Upd.tail | apply Upd.right)); done)); exact rfl))); apply R.nil; refine ⟨?_, ?_⟩; (focus ((repeat' (first | exact trivial | (refine ⟨?_, ?_⟩; (focus ((repeat' (first | exact At.head | apply At.tail | apply At.right)); done)))))))) <;> (apply A.take 4; exact rfl; exact rfl; kernel_rfl; kernel_rfl; kernel_rfl; (apply Ok1.assign; exact rfl)) <;> (apply A.take 5; exact rfl; exact rfl; kernel_rfl; kernel_rfl; kernel_rfl; (apply Ok1.assign; exact rfl)) <;> (apply A.done; kernel_rfl))) | apply T.seq | apply T.region | apply T.skip | apply T.ret | (apply T.cond_f; exact rfl)))
       all_goals (apply RetOk.ctt; exact rfl; (apply Ld.ownk; exact rfl; exact rfl; (focus ((repeat' (first | exact At.head | apply At.tail | apply At.right)); done)); exact rfl); exact rfl; exact rfl)
       all_goals rw [← hsn] at hpost
       all_goals rw [hsl] at hov2
       all_goals exact ⟨_, by (focus ((repeat' (first | exact Ext.one _ _ | exact Ext.here _ _ | apply Keep.cons | apply Keep.last)); done)), hpost _ _ (.inr ⟨rfl, bk2, ov2, hov2, rfl, rfl⟩)⟩)
end Go.Proofs.YtidjnjlejhoalaaGreat
set_option linter.unusedSimpArgs false
set_option linter.unusedVariables false
namespace Go.Proofs.YtidjnjlejhoalaaGreat
open Go.RowKit Go.Shelf
set_option maxRecDepth 100000
theorem grant16_bad (bk bk2 : Nat) (k2 : List Int) (hkl : k2.length ≤ 1000000000) (c : Cl) (a b : Int) (h : ¬ (c.right ∧ NR a b ∧ k2.length = 32)) (w : World) (hk2 : KeyR w bk2 k2) :
    CallM Tryz.prog 15 [.pointer (some ⟨bk, 0, none⟩), .agg ⟨[.int .i64 a, .int .i64 b]⟩, kvC c, .pointer (some ⟨bk2, 0, none⟩)] [] w fun v L => v = .tuple #[.slice none 0 0, .int .i64 (if c.right ∧ NR a b then 3 else 10)] ∧ L = [] := by
  have hby := fun w1 (hc : Chg [] w w1) => bytes_ok bk2 k2 hkl w1 (hk2.chg hc)
  by_cases h1 : c.right
  case neg =>
    rw [if_neg (fun g => h1 g.1)]
    have hcb := clBytes_bad c h1
    refine enterK (tb := tb) Tryz.func15 rfl Tryz.ntmps15 rfl ?_
    simp only [kvC] at hcb ⊢
    repeat' (first | (apply R.is1; first | (apply R.isBin; (apply R.pure; exact rfl; first | (apply Ok1.eqlP; (iterate 5 exact rfl)) | (apply Ok1.neq_t; exact rfl; exact rfl; omega))) | (apply R.isCall; apply R.callP rfl rfl rfl hcb) | (apply R.pure; exact rfl; first | (apply Ok1.move; exact rfl) | (apply Ok1.load; exact rfl; (apply Ld.ownk; exact rfl; exact rfl; exact At.head; exact rfl)) | (apply Ok1.assign; exact rfl) | (apply Ok1.extract; exact rfl; exact rfl) | (apply Ok1.pick_f; exact rfl; exact rfl)) | (apply R.box; (iterate 3 exact rfl); intro)) | (apply R.isG; (apply R.guard_run; exact rfl; exact rfl)) | apply R.nil | (apply T.is; first | apply T.seq | apply T.region | apply T.skip | apply T.ret | (apply T.cond_t; exact rfl) | (apply T.cond_f; exact rfl)))
    (apply RetOk.tt; exact rfl; exact rfl)
    exact ⟨_, by (focus ((repeat' (exact Keep.nil _)); done)), rfl, rfl⟩
  have hcb := fun w1 => clBytes_ok c h1 w1
  by_cases h2 : NR a b
  case neg =>
    rw [if_neg (fun g => h2 g.2)]
    have hnb := wnbytes_bad a b h2
    refine enterK (tb := tb) Tryz.func15 rfl Tryz.ntmps15 rfl ?_
    simp only [kvC] at hcb ⊢
    repeat' (first | (apply R.is1; first | (apply R.isBin; (apply R.pure; exact rfl; first | (apply Ok1.eqlP; (iterate 5 exact rfl)) | (apply Ok1.neq_t; exact rfl; exact rfl; omega) | (apply Ok1.neq_f; exact rfl; exact rfl; omega))) | (apply R.isCall; first | (apply R.callE (vs := [.agg ⟨[.int .i64 c.id, .int .i64 c.roles, .int .i64 c.exp, .int .i64 c.ser]⟩]); (iterate 3 exact rfl); exact Ext.none _; intro w1 hw1; exact hcb w1; rintro v Lo ⟨ovcl, hovcl, rfl, rfl⟩; rw [slV_eq hovcl]) | apply R.callP rfl rfl rfl hnb) | (apply R.pure; exact rfl; first | (apply Ok1.move; exact rfl) | (apply Ok1.load; exact rfl; (apply Ld.ownk; exact rfl; exact rfl; (focus ((repeat' (first | exact At.head | apply At.tail | apply At.right)); done)); exact rfl)) | (apply Ok1.assign; exact rfl) | (apply Ok1.extract; exact rfl; exact rfl) | (apply Ok1.pick_f; exact rfl; exact rfl)) | (apply R.box; (iterate 3 exact rfl); intro)) | (apply R.isG; (apply R.guard_run; exact rfl; exact rfl)) | apply R.nil | (apply T.is; first | apply T.seq | apply T.region | apply T.block | apply T.skip | apply T.ret | (apply T.cond_t; exact rfl) | (apply T.cond_f; exact rfl)))
    (apply RetOk.tt; exact rfl; exact rfl)
    exact ⟨_, by (focus ((repeat' (exact Keep.nil _)); done)), rfl, rfl⟩
  rw [if_pos ⟨h1, h2⟩]
  have h3 : k2.length ≠ 32 := fun g => h ⟨h1, h2, g⟩
  have hnb := fun w1 => wnbytes_ok a b h2 w1
  refine enterK (tb := tb) Tryz.func15 rfl Tryz.ntmps15 rfl ?_
  simp only [kvC] at hcb ⊢
  repeat' (first | (apply R.is1; first | (apply R.isBin; (apply R.pure; exact rfl; first | (apply Ok1.eqlP; (iterate 5 exact rfl)) | (apply Ok1.neq_t; exact rfl; exact rfl; omega) | (apply Ok1.neq_f; exact rfl; exact rfl; omega))) | (apply R.isCall; first | (apply R.callE (vs := [.agg ⟨[.int .i64 c.id, .int .i64 c.roles, .int .i64 c.exp, .int .i64 c.ser]⟩]); (iterate 3 exact rfl); exact Ext.none _; intro w1 hw1; exact hcb w1; rintro v Lo ⟨ovcl, hovcl, rfl, rfl⟩; rw [slV_eq hovcl]) | (apply R.callE (vs := [.agg ⟨[.int .i64 a, .int .i64 b]⟩]); (iterate 3 exact rfl); exact Ext.none _; intro w1 hw1; exact hnb w1; rintro v Lo ⟨ovn, hovn, rfl, rfl⟩; rw [slV_eq hovn]) | (apply R.callE (vs := [.pointer (some ⟨bk2, 0, none⟩)]); (iterate 3 exact rfl); exact Ext.none _; intro w1 hw1; exact hby w1 hw1.chg; rintro v Lo ⟨ovk, hovk, rfl, rfl⟩; rw [slV_eq hovk]) | (apply R.pure; exact rfl; (apply Ok1.lenS; (iterate 3 exact rfl)))) | (apply R.pure; exact rfl; first | (apply Ok1.move; exact rfl) | (apply Ok1.load; exact rfl; (apply Ld.ownk; exact rfl; exact rfl; (focus ((repeat' (first | exact At.head | apply At.tail | apply At.right)); done)); exact rfl)) | (apply Ok1.assign; exact rfl) | (apply Ok1.extract; exact rfl; exact rfl) | (apply Ok1.pick_f; exact rfl; exact rfl)) | (apply R.box; (iterate 3 exact rfl); intro)) | (apply R.isG; (apply R.guard_run; exact rfl; exact rfl)) | apply R.nil | (apply T.is; first | apply T.seq | apply T.region | apply T.block | apply T.skip | apply T.ret | (apply T.cond_t; exact rfl) | (apply T.cond_f; exact rfl)))
  (apply RetOk.tt; exact rfl; exact rfl)
  exact ⟨_, by (focus ((repeat' (exact Keep.nil _)); done)), rfl, rfl⟩
end Go.Proofs.YtidjnjlejhoalaaGreat
set_option linter.unusedSimpArgs false
set_option linter.unusedVariables false
namespace Go.Proofs.YtidjnjlejhoalaaGreat
open Go.RowKit Go.Shelf
set_option maxRecDepth 100000
theorem vget_ok (z k : Nat) (hz : z ≤ 2) (hk : 2 ^ z = k) (p : Option Addr) (n cap : Nat) (bs : List Int) (hn : n = bs.length) (hkn : k ≤ n) (hbig : n ≤ 1000000000) (hb : Byt bs) (w : World) (hp : RdSl w p u8V bs) :
    CallM Tryz.prog 191 [.slice p n cap, .int .i64 z] [] w fun v L => v = .tuple #[.agg ⟨fldV z (beN (bs.take k))⟩, .int .i64 k, .int .i64 0] ∧ L = [] := by
  have hw := vwidth_ok z hz
  have hk4 : k ≤ 4 := by
    have : z = 0 ∨ z = 1 ∨ z = 2 := by omega
    rcases this with rfl | rfl | rfl <;> omega
  have hk1 : 1 ≤ k := by rw [← hk]; exact Nat.one_le_two_pow
  rw [hk] at hw
  have hbe : ∀ i ≤ k, 0 ≤ beN (bs.take i) ∧ beN (bs.take i) < 256 ^ i := fun i hi => be_range i _ (by rw [List.length_take]; omega) fun y hy => hb y (List.mem_of_mem_take hy)
  refine enterK (tb := tb) Tryz.func191 rfl Tryz.ntmps191 rfl ?_
  repeat' (first | (apply R.is1; first | (apply R.isBin; (apply R.pure; exact rfl; first | (apply Ok1.lss_t; exact rfl; exact rfl; omega) | (apply Ok1.lss_f; exact rfl; exact rfl; omega) | (apply Ok1.gtr_f; exact rfl; exact rfl; omega) | (apply Ok1.eql_f; exact rfl; exact rfl; omega))) | (apply R.isCall; first | apply R.callP rfl rfl rfl hw | (apply R.pure; exact rfl; (apply Ok1.lenS; (iterate 3 exact rfl)))) | (apply R.pure; exact rfl; first | (apply Ok1.move; exact rfl) | (apply Ok1.assign; exact rfl) | (apply Ok1.pick_f; exact rfl; exact rfl)) | (apply R.alloc; (iterate 3 exact rfl); intro)) | (apply R.isG; first | (apply R.guard_run; exact rfl; exact rfl) | (apply R.guard_not; (iterate 3 exact rfl))) | apply R.nil | (apply T.is; first | apply T.seq | apply T.region | apply T.block | apply T.skip | (apply T.cond_t; exact rfl) | (apply T.cond_f; exact rfl)))
  rename_i b4
  apply T.loopK (α := Nat) (I := fun i => i ≤ k) (σi := fun i => [(0, .slice p n cap), (1, .int .i64 z), (4, .pointer (some ⟨b4, 0, none⟩)), (7, .int .i64 k), (8, .int .i64 (beN (bs.take i))), (9, .int .i64 i)]) (Li := fun _ => [(b4, .cells ⟨fldV 0 0⟩ 232 (0, 0))]) (μ := fun i => k - i) (i0 := 0)
  · exact Nat.zero_le _
  · exact ⟨rfl, rfl, rfl, rfl, rfl, rfl, trivial⟩
  · (focus ((repeat' (first | exact Keep.nil _ | exact Ext.one _ _ | apply Keep.cons)); done))
  · intro i hi
    have hbi := hbe i hi
    rcases Nat.lt_or_ge i k with hlt | hge
    · obtain ⟨x, hx⟩ : ∃ x, bs[i]? = some x := ⟨_, List.getElem?_eq_getElem (by omega)⟩
      obtain ⟨b, o, hpe, H⟩ := hp.at hx
      replace H := H 1 u8V_len
      have hxb := hb x (List.mem_of_getElem? hx)
      have hpw : (256 : Int) ^ i ≤ 16777216 := by
        have : i = 0 ∨ i = 1 ∨ i = 2 ∨ i = 3 := by omega
        rcases this with rfl | rfl | rfl | rfl <;> decide
      have hsum : beN (bs.take (i + 1)) = 256 * beN (bs.take i) + x := by rw [be_snoc hx, Int.mul_comm]
      repeat' (first | (apply R.is1; first | (apply R.isBin; (apply R.pure; exact rfl; first | (apply Ok1.add64; exact rfl; exact rfl; omega; omega) | (apply Ok1.lss_t; exact rfl; exact rfl; omega) | (apply Ok1.mul64; exact rfl; exact rfl; omega; omega))) | (apply R.pure; exact rfl; first | (apply Ok1.indexAddrP; (iterate 4 exact rfl); exact hpe; exact rfl; omega; omega) | (apply Ok1.load; exact rfl; apply Ld.row0 H; exact rfl; exact List.not_mem_nil; (iterate 3 exact rfl)) | (apply Ok1.move; exact rfl) | (apply Ok1.assign; exact rfl) | (apply Ok1.convI64; (iterate 5 exact rfl); omega; omega))) | apply R.nil | (apply T.is; first | apply T.seq | apply T.region | apply T.block | apply T.skip | (apply T.cond_t; exact rfl)))
      exact ⟨i + 1, by omega, by omega, ⟨rfl, rfl, rfl, rfl, by rw [hsum]; exact rfl, rfl, trivial⟩, by (focus ((repeat' (first | exact Keep.nil _ | exact Ext.one _ _ | apply Keep.cons)); done))⟩
    · have him : k = i := by omega
      subst him
      generalize beN (bs.take k) = V at *
      repeat' (first | (apply R.is1; first | (apply R.isBin; (apply R.pure; exact rfl; first | (apply Ok1.lss_t; exact rfl; exact rfl; omega) | (apply Ok1.lss_f; exact rfl; exact rfl; omega))) | (apply R.pure; exact rfl; first | (apply Ok1.move; exact rfl) | (apply Ok1.assign; exact rfl) | (apply Ok1.build; (iterate 5 exact rfl)))) | (apply R.is0; (apply R.store; (iterate 6 exact rfl); exact Upd.head; exact rfl)) | apply R.nil | (apply T.is; first | apply T.seq | apply T.region | apply T.exit | apply T.ret | (apply T.cond_t; exact rfl) | (apply T.cond_f; exact rfl)))
      (apply RetOk.ctt; exact rfl; (apply Ld.ownk; exact rfl; exact rfl; exact At.head; exact rfl); exact rfl; exact rfl)
      exact ⟨_, by (focus ((repeat' (exact Keep.nil _)); done)), rfl, rfl⟩
end Go.Proofs.YtidjnjlejhoalaaGreat
set_option linter.unusedSimpArgs false
set_option linter.unusedVariables false
namespace Go.Proofs.YtidjnjlejhoalaaGreat
open Go.RowKit Go.Shelf
set_option maxRecDepth 100000
/-- The claims that nine bytes make. -/
def c9 (bs : List Int) : Cl := ⟨beN (bs.take 2), beN ((bs.drop 2).take 1), beN ((bs.drop 3).take 4), beN ((bs.drop 7).take 2)⟩
theorem vparse5_ok (p : Option Addr) (cap : Nat) (bs : List Int) (h9 : bs.length = 9) (hcap : 9 ≤ cap) (hb : Byt bs) (w : World) (hp : RdSl w p u8V bs) :
    CallM Tryz.prog 97 [.slice p 9 cap] [] w fun v L => v = .tuple #[kvC (if (c9 bs).right then c9 bs else cl0), .int .i64 (if (c9 bs).right then 0 else 3)] ∧ L = [] := by
  obtain ⟨p1, hp1⟩ : ∃ q, q = sufP p cap 2 1 := ⟨_, rfl⟩
  obtain ⟨p2, hp2⟩ : ∃ q, q = sufP p1 (cap - 2) 1 1 := ⟨_, rfl⟩
  obtain ⟨p3, hp3⟩ : ∃ q, q = sufP p2 (cap - 2 - 1) 4 1 := ⟨_, rfl⟩
  have r1 : RdSl w p1 u8V (bs.drop 2) := by rw [hp1]; exact hp.suf u8V_len (by omega) (by omega)
  have r2 : RdSl w p2 u8V (bs.drop 3) := by
    have := r1.suf u8V_len (cap := cap - 2) (i := 1) (by rw [List.length_drop]; omega) (by rw [List.length_drop]; omega)
    rw [← hp2, List.drop_drop] at this; exact this
  have r3 : RdSl w p3 u8V (bs.drop 7) := by
    have := r2.suf u8V_len (cap := cap - 2 - 1) (i := 4) (by rw [List.length_drop]; omega) (by rw [List.length_drop]; omega)
    rw [← hp3, List.drop_drop] at this; exact this
  have hbd : ∀ i, Byt (bs.drop i) := fun i y hy => hb y (List.mem_of_mem_drop hy)
  have g1 := fun w1 (hc : Chg [] w w1) => vget_ok 1 2 (by decide) rfl p 9 cap bs h9.symm (by decide) (by decide) hb w1 (hp.chg' hc (fun _ => Off.nil _))
  have g2 := fun w1 (hc : Chg [] w w1) => vget_ok 0 1 (by decide) rfl p1 7 (cap - 2) (bs.drop 2) (by rw [List.length_drop]; omega) (by decide) (by decide) (hbd 2) w1 (r1.chg' hc (fun _ => Off.nil _))
  have g3 := fun w1 (hc : Chg [] w w1) => vget_ok 2 4 (by decide) rfl p2 6 (cap - 2 - 1) (bs.drop 3) (by rw [List.length_drop]; omega) (by decide) (by decide) (hbd 3) w1 (r2.chg' hc (fun _ => Off.nil _))
  have g4 := fun w1 (hc : Chg [] w w1) => vget_ok 1 2 (by decide) rfl p3 2 (cap - 2 - 1 - 4) (bs.drop 7) (by rw [List.length_drop]; omega) (by decide) (by decide) (hbd 7) w1 (r3.chg' hc (fun _ => Off.nil _))
  have hri := right_ok (c9 bs).id (c9 bs).roles (c9 bs).exp (c9 bs).ser
  have hc9 : c9 bs = ⟨beN (bs.take 2), beN ((bs.drop 2).take 1), beN ((bs.drop 3).take 4), beN ((bs.drop 7).take 2)⟩ := rfl
  generalize c9 bs = c at *
  generalize beN (bs.take 2) = v1 at *
  generalize beN ((bs.drop 2).take 1) = v2 at *
  generalize beN ((bs.drop 3).take 4) = v3 at *
  generalize beN ((bs.drop 7).take 2) = v4 at *
  subst hc9
  simp only [fldV] at g1 g2 g3 g4 hri
  obtain ⟨qr, hqr⟩ : ∃ q, q = decide (Cl.right ⟨v1, v2, v3, v4⟩) := ⟨_, rfl⟩
  have hri2 : CallP Tryz.prog 23 [.agg ⟨[.int .i64 v1, .int .i64 v2, .int .i64 v3, .int .i64 v4]⟩] (.bool qr) := by rw [hqr]; exact hri
  have e1 : (if Cl.right ⟨v1, v2, v3, v4⟩ then (⟨v1, v2, v3, v4⟩ : Cl) else cl0) = if qr = true then ⟨v1, v2, v3, v4⟩ else cl0 := by rw [hqr]; simp
  have e2 : (if Cl.right ⟨v1, v2, v3, v4⟩ then (0 : Int) else 3) = if qr = true then 0 else 3 := by rw [hqr]; simp
  rw [e1, e2]
  clear e1 e2 hqr hri
  refine enterK (tb := tb) Tryz.func97 rfl Tryz.ntmps97 rfl ?_
  cases qr
  all_goals repeat' (first | (apply R.is1; first | (apply R.isBin; (apply R.pure; exact rfl; first | (apply Ok1.add64; exact rfl; exact rfl; omega; omega) | (apply Ok1.lss_t; exact rfl; exact rfl; omega) | (apply Ok1.lss_f; exact rfl; exact rfl; omega) | (apply Ok1.neq_f; exact rfl; exact rfl; omega))) | (apply R.isCall; first | apply R.callP rfl rfl rfl hri2 | (apply R.callE (vs := [.slice p 9 cap, .int .i64 1]); (iterate 3 exact rfl); exact Ext.none _; intro w1 hw1; exact g1 w1 hw1.chg; rintro v Lo ⟨rfl, rfl⟩) | (apply R.callE (vs := [.slice p1 7 (cap - 2), .int .i64 0]); exact rfl; (rw [hp1]; exact rfl); exact rfl; exact Ext.none _; intro w1 hw1; exact g2 w1 hw1.chg; rintro v Lo ⟨rfl, rfl⟩) | (apply R.callE (vs := [.slice p2 6 (cap - 2 - 1), .int .i64 2]); exact rfl; (rw [hp2, hp1]; exact rfl); exact rfl; exact Ext.none _; intro w1 hw1; exact g3 w1 hw1.chg; rintro v Lo ⟨rfl, rfl⟩) | (apply R.callE (vs := [.slice p3 2 (cap - 2 - 1 - 4), .int .i64 1]); exact rfl; (rw [hp3, hp2, hp1]; exact rfl); exact rfl; exact Ext.none _; intro w1 hw1; exact g4 w1 hw1.chg; rintro v Lo ⟨rfl, rfl⟩)) | (apply R.pure; exact rfl; first | (apply Ok1.move; exact rfl) | (apply Ok1.load; exact rfl; first | (apply Ld.own1; exact rfl; exact rfl; (focus ((repeat' (first | exact At.head | apply At.tail)); done)); exact rfl) | (apply Ld.ownk; exact rfl; exact rfl; exact At.head; exact rfl)) | (apply Ok1.assign; exact rfl) | (apply Ok1.indexAddrA; (iterate 5 exact rfl); omega; omega) | (apply Ok1.build; (iterate 5 exact rfl)) | (apply Ok1.extract; exact rfl; exact rfl) | (apply Ok1.not_t; exact rfl) | (apply Ok1.not_f; exact rfl) | (apply Ok1.buildA; (iterate 6 exact rfl))) | (apply R.alloc; (iterate 3 exact rfl); intro)) | (apply R.is0; (apply R.store; (iterate 6 exact rfl); (focus ((repeat' (first | exact Upd.head | apply Upd.tail)); done)); exact rfl)) | apply R.nil | (apply T.is; first | apply T.rounds 5 | (apply T.drawC (id := 9) [0] (by decide); ((apply A.take 0; exact rfl; exact rfl; kernel_rfl; kernel_rfl; kernel_rfl; (apply Ok1.move; exact rfl)) <;> (apply A.take 1; exact rfl; exact rfl; kernel_rfl; kernel_rfl; kernel_rfl; (apply Ok1.fieldAddr; (iterate 5 exact rfl))) <;> (apply A.take 2; exact rfl; exact rfl; kernel_rfl; kernel_rfl; kernel_rfl; (apply Ok1.load; exact rfl; (apply Ld.own1; exact rfl; exact rfl; exact At.head; exact rfl))) <;> (apply A.take 3; exact rfl; exact rfl; kernel_rfl; kernel_rfl; kernel_rfl; (apply Ok1.move; exact rfl)) <;> (apply A.take 4; exact rfl; exact rfl; kernel_rfl; kernel_rfl; kernel_rfl; (apply Ok1.move; exact rfl)) <;> (apply A.take 5; exact rfl; exact rfl; kernel_rfl; kernel_rfl; kernel_rfl; first | (apply Ok1.sufR (i := 2) (sz := 1); (iterate 6 exact rfl); omega; omega) | (apply Ok1.sufR (i := 1) (sz := 1); (iterate 6 exact rfl); omega; omega) | (apply Ok1.sufR (i := 4) (sz := 1); (iterate 6 exact rfl); omega; omega)) <;> (apply A.take 6; exact rfl; exact rfl; kernel_rfl; kernel_rfl; kernel_rfl; (apply Ok1.indexAddrA; (iterate 5 exact rfl); omega; omega)) <;> (apply A.one 7; kernel_rfl; exact rfl; (((apply R.store; (iterate 6 exact rfl); (focus ((repeat' (first | exact Upd.head | apply Upd.tail)); done)); exact rfl))); apply R.nil; refine ⟨?_, ?_⟩; (focus ((repeat' (first | exact trivial | (refine ⟨?_, ?_⟩; exact At.head)))))) <;> (apply A.take 8; exact rfl; exact rfl; kernel_rfl; kernel_rfl; kernel_rfl; (apply Ok1.assign; exact rfl)) <;> (apply A.done; kernel_rfl))) | apply T.seq | apply T.region | apply T.block | apply T.skip | apply T.exit | apply T.ret | (apply T.cond_t; exact rfl) | (apply T.cond_f; exact rfl)))
  all_goals (apply RetOk.ct; exact rfl; ((apply Ld.ownk; exact rfl; exact rfl; (focus ((repeat' (first | exact At.head | apply At.tail)); done)); exact rfl)); exact rfl)
  all_goals exact ⟨_, by (focus ((repeat' (exact Keep.nil _)); done)), rfl, rfl⟩
end Go.Proofs.YtidjnjlejhoalaaGreat
set_option linter.unusedSimpArgs false
set_option linter.unusedVariables false
namespace Go.Proofs.YtidjnjlejhoalaaGreat
open Go.RowKit Go.Shelf
set_option maxRecDepth 100000
theorem vnonce_ok (a b : Int) (h : NR a b) (w : World) : CallM Tryz.prog 99 [.agg ⟨[.int .i64 a, .int .i64 b]⟩] [] w fun v L => ∃ ov, OvOk 1 ov 6 (u8s (nbI a b)) ∧ v = slV ov 6 ∧ L = blkL 5 ov (u8s (nbI a b)) := by
  unfold NR at h
  have o1 := fun w1 => vout_ok 1 (by decide) a (by omega) (by omega) w1
  have o2 := fun w1 => vout_ok 2 (by decide) b (by omega) (by omega) w1
  have e1 : beI (2 ^ 1) a [] = numI 1 a := rfl
  have e2 : beI (2 ^ 2) b [] = numI 2 b := by rw [show (2 : Nat) ^ 2 = 4 from rfl, be4]; rfl
  rw [e1] at o1
  rw [e2] at o2
  have hn : nbI a b = numI 1 a ++ numI 2 b := rfl
  rw [hn]
  have l2 : (numI 2 b).length = 4 := rfl
  generalize numI 1 a = NA at *
  generalize numI 2 b = NB at *
  refine enterK (tb := tb) Tryz.func99 rfl Tryz.ntmps99 rfl ?_
  repeat' (first | (apply R.is1; first | (apply R.pure; exact rfl; (apply Ok1.assign; exact rfl)) | (apply R.box; (iterate 3 exact rfl); intro)) | apply R.nil | (apply T.is; first | (apply T.drawC (id := 1) [0] (by decide); ((apply A.take 0; exact rfl; exact rfl; kernel_rfl; kernel_rfl; kernel_rfl; (apply Ok1.fieldAddr; (iterate 5 exact rfl))) <;> (apply A.take 1; exact rfl; exact rfl; kernel_rfl; kernel_rfl; kernel_rfl; (apply Ok1.load; exact rfl; (apply Ld.own1; exact rfl; exact rfl; exact At.head; exact rfl))) <;> (apply A.take 2; exact rfl; exact rfl; kernel_rfl; kernel_rfl; kernel_rfl; (apply Ok1.build; (iterate 5 exact rfl))) <;> (apply A.take 4; exact rfl; exact rfl; kernel_rfl; kernel_rfl; kernel_rfl; (apply Ok1.fieldAddr; (iterate 5 exact rfl))) <;> (apply A.take 5; exact rfl; exact rfl; kernel_rfl; kernel_rfl; kernel_rfl; (apply Ok1.load; exact rfl; (apply Ld.own1; exact rfl; exact rfl; exact At.head; exact rfl))) <;> (apply A.take 6; exact rfl; exact rfl; kernel_rfl; kernel_rfl; kernel_rfl; (apply Ok1.build; (iterate 5 exact rfl))) <;> (apply A.one 3; kernel_rfl; exact rfl; (((apply R.callE (vs := [.agg ⟨[.int .i64 1, .int .i64 a, .slice none 0 0]⟩]); (iterate 3 exact rfl); exact Ext.none _; intro w1 hw1; exact o1 w1; rintro v Lo ⟨ova, hova, rfl, rfl⟩))); apply R.nil; refine ⟨?_, ?_⟩; (focus ((repeat' (first | exact trivial | (refine ⟨?_, ?_⟩; (focus ((repeat' (first | exact At.head | apply At.right)); done)))))))) <;> (apply A.one 7; kernel_rfl; exact rfl; (((apply R.callE (vs := [.agg ⟨[.int .i64 2, .int .i64 b, .slice none 0 0]⟩]); (iterate 3 exact rfl); exact Ext.none _; intro w1 hw1; exact o2 w1; rintro v Lo ⟨ovb, hovb, rfl, rfl⟩; rw [slV_eq hovb]))); apply R.nil; refine ⟨?_, ?_⟩; (focus ((repeat' (first | exact trivial | (refine ⟨?_, ?_⟩; (focus ((repeat' (first | exact At.head | apply At.right)); done)))))))) <;> (apply A.one 8; kernel_rfl; exact rfl; (((apply R.appendRd (xs := NB) (v := u8V) (sz := 1) (ov := ova) (n := 2 ^ 1) (m := 2 ^ 2) (old := u8s NA); (iterate 12 exact rfl); exact hova; (focus ((repeat' (first | exact Ext.here _ _ | apply Ext.app)); done)); exact l2.symm; exact u8V_len; exact rfl; (intro w1 hw1; exact RdSl.own' hw1 (Ext.mem (by rw [fl_u8]; (focus ((repeat' (exact Ext.here _ _)); done)))) (by rw [fl_u8, l2]; exact hovb) u8V_len); (focus (rw [fl_u8]; exact u8s_one _)); exact Nat.le_of_ble_eq_true rfl; intro ov1 hov1 hsome; rw [fl_u8, ← u8s_app]; rw [fl_u8, ← u8s_app] at hov1))); apply R.nil; refine ⟨?_, ?_⟩; (focus ((repeat' (first | exact trivial | (refine ⟨?_, ?_⟩; (focus ((repeat' (first | exact At.head | apply At.right)); done)))))))) <;> (apply A.take 9; exact rfl; exact rfl; kernel_rfl; kernel_rfl; kernel_rfl; (apply Ok1.assign; exact rfl)) <;> (apply A.done; kernel_rfl))) | apply T.seq | apply T.region | apply T.ret))
  all_goals (apply RetOk.t; exact rfl)
  all_goals exact ⟨_, by (focus ((repeat' (first | exact Ext.here _ _ | apply Keep.last)); done)), ov1, hov1, rfl, rfl⟩
end Go.Proofs.YtidjnjlejhoalaaGreat
set_option linter.unusedSimpArgs false
set_option linter.unusedVariables false
namespace Go.Proofs.YtidjnjlejhoalaaGreat
open Go.RowKit Go.Shelf
set_option maxRecDepth 100000
theorem vgrant16_ok (p : Option Addr) (m cap : Nat) (key : List Int) (hm : m = key.length) (hkl : m ≤ 999999000) (hkb : Byt key) (c : Cl) (hr : c.right) (a b : Int) (hn : NR a b) (pk : Option Addr) (ck : Nat) (k2 : List Int) (h32 : k2.length = 32) (hk2b : Byt k2) (w : World) (hp : RdSl w p u8V key) (hpk : RdSl w pk u8V k2) :
    CallM Tryz.prog 26 [.agg ⟨tabV⟩, .slice p m cap, .agg ⟨[.int .i64 a, .int .i64 b]⟩, kvC c, .slice pk 32 ck] [] w fun v L => ∃ ov, OvOk 1 ov 73 (u8s (grI key k2 c a b)) ∧ v = slV ov 73 ∧ L = blkL 5 ov (u8s (grI key k2 c a b)) := by
  have hcb := fun w1 => vcbytes_ok c hr w1
  have hnb := fun w1 => vnonce_ok a b hn w1
  have hse := fun pn cn pb cb w1 (hc : Chg [] w w1) h1 h2 => vsseal_ok p m cap key hm hkl hkb pn 6 cn (nbI a b) rfl (by decide) (nbI_byt a b) pb 9 cb (clI c) rfl (by decide) (clI_byt c) pk 32 ck k2 h32.symm (by decide) hk2b w1 (hp.chg' hc (fun _ => Off.nil _)) h1 h2 (hpk.chg' hc (fun _ => Off.nil _))
  have hsl : (sealI key (nbI a b) (clI c) k2).length = 64 := by rw [sealI_len, h32]
  have hg : grI key k2 c a b = clI c ++ sealI key (nbI a b) (clI c) k2 := rfl
  rw [hg]
  generalize sealI key (nbI a b) (clI c) k2 = SL at *
  have hcl : (clI c).length = 9 := rfl
  have hnl : (nbI a b).length = 6 := rfl
  generalize clI c = CL at *
  generalize nbI a b = NB at *
  clear hg
  have htl := tab_len
  generalize tabV = tbl at *
  refine enterK (tb := tb) Tryz.func26 rfl Tryz.ntmps26 rfl ?_
  simp only [kvC] at hcb ⊢
  repeat' (first | (apply R.is1; first | (apply R.isCall; (apply R.callE (vs := [.agg ⟨[.int .i64 c.id, .int .i64 c.roles, .int .i64 c.exp, .int .i64 c.ser]⟩]); (iterate 3 exact rfl); exact Ext.none _; intro w1 hw1; exact hcb w1; rintro v Lo ⟨ovcl, hovcl, rfl, rfl⟩; rw [slV_eq hovcl])) | (apply R.pure; exact rfl; first | (apply Ok1.load; exact rfl; (apply Ld.ownk; exact rfl; exact rfl; exact At.head; exact rfl)) | (apply Ok1.assign; exact rfl)) | (apply R.box; (iterate 3 exact rfl); intro)) | apply R.nil | (apply T.is; first | apply T.seq | apply T.region))
  rename_i b5 b7 b8
  refine T.weakK (σ' := [(1, .slice p m cap), (4, .slice pk 32 ck), (5, .pointer (some ⟨b5, 0, none⟩)), (7, .pointer (some ⟨b7, 0, none⟩)), (11, .slice (ovp ovcl) 9 (ovc ovcl 9))]) (L' := (b5, .cells ⟨tbl⟩ 31 (0, 0)) :: (b7, .cells ⟨[.int .i64 a, .int .i64 b]⟩ 24 (0, 0)) :: blkL 5 ovcl (u8s CL)) ?_ (by (focus ((repeat' (first | exact Ext.one _ _ | exact Ext.here _ _ | apply Keep.cons | apply Keep.last | apply Ext.cons | apply Ext.app)); done))) ⟨rfl, rfl, rfl, rfl, rfl, trivial⟩
  repeat' ((apply T.is; first | (apply T.drawC (id := 2) [0,1] (by decide); ((apply A.take 1; exact rfl; exact rfl; kernel_rfl; kernel_rfl; kernel_rfl; (apply Ok1.move; exact rfl)) <;> (apply A.take 3; exact rfl; exact rfl; kernel_rfl; kernel_rfl; kernel_rfl; (apply Ok1.load; exact rfl; (apply Ld.ownk; exact rfl; exact rfl; exact At.head; exact subE_all htl))) <;> (apply A.take 4; exact rfl; exact rfl; kernel_rfl; kernel_rfl; kernel_rfl; (apply Ok1.move; exact rfl)) <;> (apply A.take 5; exact rfl; exact rfl; kernel_rfl; kernel_rfl; kernel_rfl; (apply Ok1.load; exact rfl; (apply Ld.ownk; exact rfl; exact rfl; (focus ((repeat' (first | exact At.head | apply At.tail)); done)); exact rfl))) <;> (apply A.take 7; exact rfl; exact rfl; kernel_rfl; kernel_rfl; kernel_rfl; (apply Ok1.move; exact rfl)) <;> (apply A.take 8; exact rfl; exact rfl; kernel_rfl; kernel_rfl; kernel_rfl; (apply Ok1.move; exact rfl)) <;> (apply A.one 0; kernel_rfl; exact rfl; (((apply R.buildSlice0; (iterate 4 exact rfl); intro b0))); apply R.nil; refine ⟨?_, ?_⟩; (focus ((repeat' (first | exact trivial | (refine ⟨?_, ?_⟩; (focus ((repeat' (first | exact At.head | apply At.tail)); done)))))))) <;> (apply A.one 2; kernel_rfl; exact rfl; (((apply R.appendRd (xs := CL) (v := u8V) (sz := 1) (ov := some (b0, 0, [])) (n := 0) (m := 9) (old := []); (iterate 12 exact rfl); exact ⟨rfl, rfl⟩; (focus ((repeat' (exact Ext.one _ _)); done)); exact hcl.symm; exact u8V_len; exact rfl; (intro w1 hw1; exact RdSl.own' hw1 (Ext.mem (by rw [fl_u8]; (focus ((repeat' (first | exact Ext.all _ | apply Ext.cons)); done)))) (by rw [fl_u8, hcl]; exact hovcl) u8V_len); (focus (rw [fl_u8]; exact u8s_one _)); exact Nat.le_of_ble_eq_true rfl; intro ov1 hov1 hsome1; rw [fl_u8, List.nil_append]; rw [fl_u8, List.nil_append] at hov1))); apply R.nil; refine ⟨?_, ?_⟩; (focus ((repeat' (first | exact trivial | (refine ⟨?_, ?_⟩; (focus ((repeat' (first | exact At.head | apply At.tail | apply At.right)); done)))))))) <;> (apply A.one 6; kernel_rfl; exact rfl; (((apply R.callE (vs := [.agg ⟨[.int .i64 a, .int .i64 b]⟩]); (iterate 3 exact rfl); exact Ext.none _; intro w1 hw1; exact hnb w1; rintro v Lo ⟨ovn, hovn, rfl, rfl⟩; rw [slV_eq hovn]))); apply R.nil; refine ⟨?_, ?_⟩; (focus ((repeat' (first | exact trivial | (refine ⟨?_, ?_⟩; (focus ((repeat' (first | exact At.head | apply At.tail | apply At.right)); done)))))))) <;> (apply A.one 9; kernel_rfl; exact rfl; (((apply R.callE (vs := [.agg ⟨tbl⟩, .slice p m cap, .slice (ovp ovn) 6 (ovc ovn 6), .slice (ovp ovcl) 9 (ovc ovcl 9), .slice pk 32 ck]); (iterate 3 exact rfl); exact Ext.none _; intro w1 hw1; exact hse _ _ _ _ w1 hw1.chg (RdSl.own' hw1 (Ext.mem (by rw [fl_u8]; (focus ((repeat' (exact Ext.here _ _)); done)))) (by rw [fl_u8, hnl]; exact hovn) u8V_len) (RdSl.own' hw1 (Ext.mem (by rw [fl_u8]; (focus ((repeat' (first | exact Ext.all _ | apply Ext.cons | apply Ext.app)); done)))) (by rw [fl_u8, hcl]; exact hovcl) u8V_len); rintro v Lo ⟨ovs, hovs, rfl, rfl⟩; rw [slV_eq hovs]))); apply R.nil; refine ⟨?_, ?_⟩; (focus ((repeat' (first | exact trivial | (refine ⟨?_, ?_⟩; (focus ((repeat' (first | exact At.head | apply At.tail | apply At.right)); done)))))))) <;> (apply A.one 10; kernel_rfl; exact rfl; (((apply R.appendRd (xs := SL) (v := u8V) (sz := 1) (ov := ov1) (n := 0 + 9) (m := 32 + 32) (old := u8s CL); (iterate 12 exact rfl); exact hov1; (focus ((repeat' (first | exact Ext.here _ _ | apply Ext.app)); done)); exact hsl.symm; exact u8V_len; exact rfl; (intro w1 hw1; exact RdSl.own' hw1 (Ext.mem (by rw [fl_u8]; (focus ((repeat' (exact Ext.here _ _)); done)))) (by rw [fl_u8, hsl]; exact hovs) u8V_len); (focus (rw [fl_u8]; exact u8s_one _)); exact Nat.le_of_ble_eq_true rfl; intro ov2 hov2 hsome2; rw [fl_u8, ← u8s_app]; rw [fl_u8, ← u8s_app] at hov2))); apply R.nil; refine ⟨?_, ?_⟩; (focus ((repeat' (first | exact trivial | (refine ⟨?_, ?_⟩; (focus ((repeat' (first | exact At.head | apply At.tail | apply At.right)); done)))))))) <;> (apply A.take 11; exact rfl; exact rfl; kernel_rfl; kernel_rfl; kernel_rfl; (apply Ok1.assign; exact rfl)) <;> (apply A.done; kernel_rfl))) | apply T.ret))
  all_goals (apply RetOk.t; exact rfl)
  all_goals exact ⟨_, by (focus ((repeat' (first | exact Ext.here _ _ | apply Keep.last)); done)), ov2, hov2, rfl, rfl⟩
end Go.Proofs.YtidjnjlejhoalaaGreat
set_option linter.unusedSimpArgs false
set_option linter.unusedVariables false
namespace Go.Proofs.YtidjnjlejhoalaaGreat
open Go.RowKit Go.Shelf
set_option maxRecDepth 100000
/-- What is wrong with what a body grants. -/
def vgdE (key : List Int) (a b : Int) (bs : List Int) : Int := if bs.length < 73 then 4 else if 73 < bs.length then 3 else if ¬ (c9 (bs.take 9)).right then 3 else if ¬ NR a b then 10 else sopE key (nbI a b) (bs.take 9) (bs.drop 9)
def vgdK (key : List Int) (a b : Int) (bs : List Int) : List Int := if vgdE key a b bs = 0 then sopI key (nbI a b) (bs.drop 9) else []
def vgdC (key : List Int) (a b : Int) (bs : List Int) : Cl := if vgdE key a b bs = 0 then c9 (bs.take 9) else cl0
theorem vgranted16_ok (pt : Option Addr) (m ct : Nat) (key : List Int) (hm : m = key.length) (hkl : m ≤ 999999000) (hkb : Byt key) (a b : Int) (p : Option Addr) (n cap : Nat) (bs : List Int) (hn : n = bs.length) (hcap : n ≤ cap) (hbig : n ≤ 1000) (hbb : Byt bs) (w : World) (hk : RdSl w pt u8V key) (hp : RdSl w p u8V bs) :
    CallM Tryz.prog 19 [.agg ⟨tabV⟩, .slice pt m ct, .agg ⟨[.int .i64 a, .int .i64 b]⟩, .slice p n cap] [] w fun v L => ∃ ov, OvOk 1 ov (vgdK key a b bs).length (u8s (vgdK key a b bs)) ∧ v = .tuple #[kvC (vgdC key a b bs), .slice (ovp ov) (vgdK key a b bs).length (ovc ov (vgdK key a b bs).length), .int .i64 (vgdE key a b bs)] ∧ L = blkL 5 ov (u8s (vgdK key a b bs)) := by
  have htl := tab_len
  have hbad : vgdE key a b bs ≠ 0 → vgdK key a b bs = [] ∧ vgdC key a b bs = cl0 := fun h => ⟨by unfold vgdK; rw [if_neg h], by unfold vgdC; rw [if_neg h]⟩
  by_cases h1 : n < 73
  · have hE : vgdE key a b bs = 4 := by unfold vgdE; rw [if_pos (by omega)]
    obtain ⟨hK, hC⟩ := hbad (by rw [hE]; decide)
    rw [hE, hK, hC]
    generalize tabV = tbl at *
    refine enterK (tb := tb) Tryz.func19 rfl Tryz.ntmps19 rfl ?_
    repeat' (first | (apply R.is1; first | (apply R.isBin; (apply R.pure; exact rfl; (apply Ok1.lss_t; exact rfl; exact rfl; omega))) | (apply R.isCall; (apply R.pure; exact rfl; (apply Ok1.lenS; (iterate 3 exact rfl)))) | (apply R.pure; exact rfl; first | (apply Ok1.move; exact rfl) | (apply Ok1.assign; exact rfl) | (apply Ok1.build; (iterate 5 exact rfl))) | (apply R.box; (iterate 3 exact rfl); intro) | (apply R.alloc; (iterate 3 exact rfl); intro)) | (apply R.is0; (apply R.store; (iterate 6 exact rfl); exact Upd.head; exact rfl)) | apply R.nil | (apply T.is; first | apply T.seq | apply T.region | apply T.ret | (apply T.cond_t; exact rfl)))
    (apply RetOk.ctt; exact rfl; (apply Ld.ownk; exact rfl; exact rfl; exact At.head; exact rfl); exact rfl; exact rfl)
    exact ⟨_, by (focus ((repeat' (exact Keep.nil _)); done)), none, OvOk.start 1, rfl, rfl⟩
  have ht9 : (bs.take 9).length = 9 := by rw [List.length_take]; omega
  have hcp := fun w1 (hc : Chg [] w w1) => vparse5_ok p cap (bs.take 9) ht9 (by omega) (fun y hy => hbb y (List.mem_of_mem_take hy)) w1 ((hp.pre u8V_len 9).chg' hc (fun _ => Off.nil _))
  by_cases h2 : 73 < n ∨ ¬ (c9 (bs.take 9)).right
  · have hE : vgdE key a b bs = 3 := by
      unfold vgdE
      rw [if_neg (by omega)]
      by_cases h3 : 73 < n
      · rw [if_pos (by omega)]
      · rw [if_neg (by omega), if_pos (h2.resolve_left h3)]
    obtain ⟨hK, hC⟩ := hbad (by rw [hE]; decide)
    rw [hE, hK, hC]
    obtain ⟨cc, ec, hcp2, hec⟩ : ∃ cc ec, (∀ w1, Chg [] w w1 → CallM Tryz.prog 97 [.slice p 9 cap] [] w1 fun v L => v = .tuple #[kvC cc, .int .i64 ec] ∧ L = []) ∧ (73 < n ∨ ec ≠ 0) := ⟨_, _, hcp, by
      rcases h2 with h | h
      · exact .inl h
      · exact .inr (by rw [if_neg h]; decide)⟩
    clear hcp
    simp only [kvC] at hcp2
    generalize tabV = tbl at *
    by_cases h3 : 73 < n
    · refine enterK (tb := tb) Tryz.func19 rfl Tryz.ntmps19 rfl ?_
      repeat' (first | (apply R.is1; first | (apply R.isBin; (apply R.pure; exact rfl; first | (apply Ok1.lss_f; exact rfl; exact rfl; omega) | (apply Ok1.gtr_t; exact rfl; exact rfl; omega))) | (apply R.isCall; first | (apply R.callE (vs := [.slice p 9 cap]); (iterate 3 exact rfl); exact Ext.none _; intro w1 hw1; exact hcp2 w1 hw1.chg; rintro v Lo ⟨rfl, rfl⟩) | (apply R.pure; exact rfl; (apply Ok1.lenS; (iterate 3 exact rfl)))) | (apply R.pure; exact rfl; first | (apply Ok1.preR (i := 9); (iterate 5 exact rfl); omega) | (apply Ok1.move; exact rfl) | (apply Ok1.assign; exact rfl) | (apply Ok1.build; (iterate 5 exact rfl)) | (apply Ok1.extract; exact rfl; exact rfl) | (apply Ok1.pick_t; exact rfl; exact rfl)) | (apply R.box; (iterate 3 exact rfl); intro) | (apply R.alloc; (iterate 3 exact rfl); intro)) | (apply R.is0; (apply R.store; (iterate 6 exact rfl); (focus ((repeat' (first | exact Upd.head | apply Upd.tail)); done)); exact rfl)) | (apply R.isG; (apply R.guard_not; (iterate 3 exact rfl))) | apply R.nil | (apply T.is; first | apply T.seq | apply T.region | apply T.skip | apply T.ret | (apply T.cond_t; exact rfl) | (apply T.cond_f; exact rfl)))
      (apply RetOk.ctt; exact rfl; (apply Ld.ownk; exact rfl; exact rfl; (focus ((repeat' (first | exact At.head | apply At.tail)); done)); exact rfl); exact rfl; exact rfl)
      exact ⟨_, by (focus ((repeat' (exact Keep.nil _)); done)), none, OvOk.start 1, rfl, rfl⟩
    · have h4 := hec.resolve_left h3
      refine enterK (tb := tb) Tryz.func19 rfl Tryz.ntmps19 rfl ?_
      repeat' (first | (apply R.is1; first | (apply R.isBin; (apply R.pure; exact rfl; first | (apply Ok1.lss_f; exact rfl; exact rfl; omega) | (apply Ok1.gtr_f; exact rfl; exact rfl; omega) | (apply Ok1.neq_t; exact rfl; exact rfl; omega))) | (apply R.isCall; first | (apply R.callE (vs := [.slice p 9 cap]); (iterate 3 exact rfl); exact Ext.none _; intro w1 hw1; exact hcp2 w1 hw1.chg; rintro v Lo ⟨rfl, rfl⟩) | (apply R.pure; exact rfl; (apply Ok1.lenS; (iterate 3 exact rfl)))) | (apply R.pure; exact rfl; first | (apply Ok1.preR (i := 9); (iterate 5 exact rfl); omega) | (apply Ok1.move; exact rfl) | (apply Ok1.assign; exact rfl) | (apply Ok1.build; (iterate 5 exact rfl)) | (apply Ok1.extract; exact rfl; exact rfl) | (apply Ok1.pick_f; exact rfl; exact rfl)) | (apply R.box; (iterate 3 exact rfl); intro) | (apply R.alloc; (iterate 3 exact rfl); intro)) | (apply R.is0; (apply R.store; (iterate 6 exact rfl); (focus ((repeat' (first | exact Upd.head | apply Upd.tail)); done)); exact rfl)) | (apply R.isG; (apply R.guard_run; exact rfl; exact rfl)) | apply R.nil | (apply T.is; first | apply T.seq | apply T.region | apply T.skip | apply T.ret | (apply T.cond_t; exact rfl) | (apply T.cond_f; exact rfl)))
      (apply RetOk.ctt; exact rfl; (apply Ld.ownk; exact rfl; exact rfl; (focus ((repeat' (first | exact At.head | apply At.tail)); done)); exact rfl); exact rfl; exact rfl)
      exact ⟨_, by (focus ((repeat' (exact Keep.nil _)); done)), none, OvOk.start 1, rfl, rfl⟩
  have h73 : n = 73 := by omega
  have hr : (c9 (bs.take 9)).right := Classical.byContradiction fun g => h2 (.inr g)
  rw [if_pos hr, if_pos hr] at hcp
  have hri := nright_ok a b
  by_cases h5 : NR a b
  case neg =>
    have hE : vgdE key a b bs = 10 := by unfold vgdE; rw [if_neg (by omega), if_neg (by omega), if_neg (fun g => g hr), if_pos h5]
    obtain ⟨hK, hC⟩ := hbad (by rw [hE]; decide)
    rw [hE, hK, hC]
    rw [decide_eq_false h5] at hri
    generalize c9 (bs.take 9) = c at *
    simp only [kvC] at hcp
    generalize tabV = tbl at *
    refine enterK (tb := tb) Tryz.func19 rfl Tryz.ntmps19 rfl ?_
    repeat' (first | (apply R.is1; first | (apply R.isBin; (apply R.pure; exact rfl; first | (apply Ok1.lss_f; exact rfl; exact rfl; omega) | (apply Ok1.gtr_f; exact rfl; exact rfl; omega) | (apply Ok1.neq_f; exact rfl; exact rfl; omega))) | (apply R.isCall; first | (apply R.callE (vs := [.slice p 9 cap]); (iterate 3 exact rfl); exact Ext.none _; intro w1 hw1; exact hcp w1 hw1.chg; rintro v Lo ⟨rfl, rfl⟩) | apply R.callP rfl rfl rfl hri | (apply R.pure; exact rfl; (apply Ok1.lenS; (iterate 3 exact rfl)))) | (apply R.pure; exact rfl; first | (apply Ok1.preR (i := 9); (iterate 5 exact rfl); omega) | (apply Ok1.move; exact rfl) | (apply Ok1.load; exact rfl; (apply Ld.ownk; exact rfl; exact rfl; (focus ((repeat' (first | exact At.head | apply At.tail)); done)); exact rfl)) | (apply Ok1.assign; exact rfl) | (apply Ok1.build; (iterate 5 exact rfl)) | (apply Ok1.extract; exact rfl; exact rfl) | (apply Ok1.pick_f; exact rfl; exact rfl) | (apply Ok1.not_f; exact rfl)) | (apply R.box; (iterate 3 exact rfl); intro) | (apply R.alloc; (iterate 3 exact rfl); intro)) | (apply R.is0; (apply R.store; (iterate 6 exact rfl); (focus ((repeat' (first | exact Upd.head | apply Upd.tail)); done)); exact rfl)) | (apply R.isG; (apply R.guard_run; exact rfl; exact rfl)) | apply R.nil | (apply T.is; first | apply T.seq | apply T.region | apply T.skip | apply T.ret | (apply T.cond_t; exact rfl) | (apply T.cond_f; exact rfl)))
    (apply RetOk.ctt; exact rfl; (apply Ld.ownk; exact rfl; exact rfl; (focus ((repeat' (first | exact At.head | apply At.tail)); done)); exact rfl); exact rfl; exact rfl)
    exact ⟨_, by (focus ((repeat' (exact Keep.nil _)); done)), none, OvOk.start 1, rfl, rfl⟩
  have hE : vgdE key a b bs = sopE key (nbI a b) (bs.take 9) (bs.drop 9) := by unfold vgdE; rw [if_neg (by omega), if_neg (by omega), if_neg (fun g => g hr), if_neg (fun g => g h5)]
  have hd9 : (bs.drop 9).length = 64 := by rw [List.length_drop]; omega
  have hop := fun pn cn w1 (hc : Chg [] w w1) h1 => vsopen_ok pt m ct key hm hkl hkb pn 6 cn (nbI a b) rfl (by decide) (nbI_byt a b) p 9 cap (bs.take 9) ht9.symm (by decide) (fun y hy => hbb y (List.mem_of_mem_take hy)) (sufP p cap 9 1) (n - 9) (cap - 9) (bs.drop 9) (by omega) (by omega) (by omega) (fun y hy => hbb y (List.mem_of_mem_drop hy)) w1 (hk.chg' hc (fun _ => Off.nil _)) h1 ((hp.pre u8V_len 9).chg' hc (fun _ => Off.nil _)) ((hp.suf u8V_len (by omega) (by omega)).chg' hc (fun _ => Off.nil _))
  have hnb := fun w1 => vnonce_ok a b h5 w1
  have hnl : (nbI a b).length = 6 := rfl
  have hK : vgdK key a b bs = sopN key (nbI a b) (bs.take 9) (bs.drop 9) := by unfold vgdK; rw [hE]; rfl
  have hC : vgdC key a b bs = if sopE key (nbI a b) (bs.take 9) (bs.drop 9) = 0 then c9 (bs.take 9) else cl0 := by unfold vgdC; rw [hE]
  have hN : sopE key (nbI a b) (bs.take 9) (bs.drop 9) ≠ 0 → sopN key (nbI a b) (bs.take 9) (bs.drop 9) = [] := fun h => by unfold sopN; rw [if_neg h]
  rw [hE, hK, hC]
  clear hE hK hC hbad
  rw [decide_eq_true h5] at hri
  generalize sopE key (nbI a b) (bs.take 9) (bs.drop 9) = E at *
  generalize sopN key (nbI a b) (bs.take 9) (bs.drop 9) = SN at *
  generalize nbI a b = NB at *
  generalize c9 (bs.take 9) = c at *
  simp only [kvC] at hcp
  generalize tabV = tbl at *
  refine enterK (tb := tb) Tryz.func19 rfl Tryz.ntmps19 rfl ?_
  repeat' (first | (apply R.is1; first | (apply R.isBin; (apply R.pure; exact rfl; first | (apply Ok1.lss_f; exact rfl; exact rfl; omega) | (apply Ok1.gtr_f; exact rfl; exact rfl; omega) | (apply Ok1.neq_f; exact rfl; exact rfl; omega))) | (apply R.isCall; first | (apply R.callE (vs := [.slice p 9 cap]); (iterate 3 exact rfl); exact Ext.none _; intro w1 hw1; exact hcp w1 hw1.chg; rintro v Lo ⟨rfl, rfl⟩) | apply R.callP rfl rfl rfl hri | (apply R.pure; exact rfl; (apply Ok1.lenS; (iterate 3 exact rfl)))) | (apply R.pure; exact rfl; first | (apply Ok1.preR (i := 9); (iterate 5 exact rfl); omega) | (apply Ok1.move; exact rfl) | (apply Ok1.load; exact rfl; (apply Ld.ownk; exact rfl; exact rfl; (focus ((repeat' (first | exact At.head | apply At.tail)); done)); exact rfl)) | (apply Ok1.assign; exact rfl) | (apply Ok1.extract; exact rfl; exact rfl) | (apply Ok1.pick_f; exact rfl; exact rfl) | (apply Ok1.not_t; exact rfl)) | (apply R.box; (iterate 3 exact rfl); intro) | (apply R.alloc; (iterate 3 exact rfl); intro)) | (apply R.is0; (apply R.store; (iterate 6 exact rfl); exact Upd.head; exact rfl)) | (apply R.isG; (apply R.guard_run; exact rfl; exact rfl)) | apply R.nil | (apply T.is; first | (apply T.stop1 8) | apply T.seq | apply T.region | apply T.skip | (apply T.cond_f; exact rfl)))
  rename_i b4 b6 b8 b11
  refine ⟨?_⟩
  refine T.weakK (σ' := [(1, .slice pt m ct), (3, .slice p n cap), (4, .pointer (some ⟨b4, 0, none⟩)), (6, .pointer (some ⟨b6, 0, none⟩)), (8, .pointer (some ⟨b8, 0, none⟩)), (11, .pointer (some ⟨b11, 0, none⟩))]) (L' := (b4, .cells ⟨tbl⟩ 31 (0, 0)) :: (b6, .cells ⟨[.int .i64 a, .int .i64 b]⟩ 24 (0, 0)) :: (b8, .cells ⟨clC cl0⟩ 26 (0, 0)) :: [(b11, .cells ⟨clC c⟩ 26 (0, 0))]) ?_ (by (focus ((repeat' (first | exact Keep.nil _ | exact Ext.one _ _ | apply Keep.cons | apply Ext.cons)); done))) ⟨rfl, rfl, rfl, rfl, rfl, rfl, trivial⟩
  simp only [clC]
  by_cases h6 : E = 0
  · rw [if_pos h6]
    subst h6
    repeat' (first | (apply R.is1; first | (apply R.isBin; (apply R.pure; exact rfl; (apply Ok1.neq_f; exact rfl; exact rfl; omega))) | (apply R.pure; exact rfl; first | (apply Ok1.load; exact rfl; (apply Ld.ownk; exact rfl; exact rfl; (focus ((repeat' (first | exact At.head | apply At.tail | apply At.right)); done)); exact rfl)) | (apply Ok1.move; exact rfl) | (apply Ok1.assign; exact rfl))) | (apply R.is0; (apply R.store; (iterate 6 exact rfl); (focus ((repeat' (first | exact Upd.head | apply Upd.tail | apply Upd.right)); done)); exact rfl)) | apply R.nil | (apply T.is; first | (apply T.drawC (id := 8) [0,1] (by decide); ((apply A.take 0; exact rfl; exact rfl; kernel_rfl; kernel_rfl; kernel_rfl; (apply Ok1.load; exact rfl; (apply Ld.ownk; exact rfl; exact rfl; exact At.head; exact subE_all htl))) <;> (apply A.take 1; exact rfl; exact rfl; kernel_rfl; kernel_rfl; kernel_rfl; (apply Ok1.move; exact rfl)) <;> (apply A.take 2; exact rfl; exact rfl; kernel_rfl; kernel_rfl; kernel_rfl; (apply Ok1.load; exact rfl; (apply Ld.ownk; exact rfl; exact rfl; (focus ((repeat' (first | exact At.head | apply At.tail)); done)); exact rfl))) <;> (apply A.take 4; exact rfl; exact rfl; kernel_rfl; kernel_rfl; kernel_rfl; (apply Ok1.move; exact rfl)) <;> (apply A.take 5; exact rfl; exact rfl; kernel_rfl; kernel_rfl; kernel_rfl; (apply Ok1.preR (i := 9); (iterate 5 exact rfl); omega)) <;> (apply A.take 6; exact rfl; exact rfl; kernel_rfl; kernel_rfl; kernel_rfl; (apply Ok1.move; exact rfl)) <;> (apply A.take 7; exact rfl; exact rfl; kernel_rfl; kernel_rfl; kernel_rfl; (apply Ok1.sufR (i := 9) (sz := 1); (iterate 6 exact rfl); omega; exact hcap)) <;> (apply A.one 3; kernel_rfl; exact rfl; (((apply R.callE (vs := [.agg ⟨[.int .i64 a, .int .i64 b]⟩]); (iterate 3 exact rfl); exact Ext.none _; intro w1 hw1; exact hnb w1; rintro v Lo ⟨ovn, hovn, rfl, rfl⟩; rw [slV_eq hovn]))); apply R.nil; refine ⟨?_, ?_⟩; (focus ((repeat' (first | exact trivial | (refine ⟨?_, ?_⟩; (focus ((repeat' (first | exact At.head | apply At.tail | apply At.right)); done)))))))) <;> (apply A.one 8; kernel_rfl; exact rfl; (((apply R.callE (vs := [.agg ⟨tbl⟩, .slice pt m ct, .slice (ovp ovn) 6 (ovc ovn 6), .slice p 9 cap, .slice (sufP p cap 9 1) (n - 9) (cap - 9)]); (iterate 3 exact rfl); exact Ext.none _; intro w1 hw1; exact hop _ _ w1 hw1.chg (RdSl.own' hw1 (Ext.mem (by rw [fl_u8]; (focus ((repeat' (exact Ext.here _ _)); done)))) (by rw [fl_u8, hnl]; exact hovn) u8V_len); rintro v Lo ⟨ovo, hovo, rfl, rfl⟩; rw [slV_eq hovo]))); apply R.nil; refine ⟨?_, ?_⟩; (focus ((repeat' (first | exact trivial | (refine ⟨?_, ?_⟩; (focus ((repeat' (first | exact At.head | apply At.tail | apply At.right)); done)))))))) <;> (apply A.take 9; exact rfl; exact rfl; kernel_rfl; kernel_rfl; kernel_rfl; (apply Ok1.move; exact rfl)) <;> (apply A.take 10; exact rfl; exact rfl; kernel_rfl; kernel_rfl; kernel_rfl; (apply Ok1.extract; exact rfl; exact rfl)) <;> (apply A.take 11; exact rfl; exact rfl; kernel_rfl; kernel_rfl; kernel_rfl; (apply Ok1.extract; exact rfl; exact rfl)) <;> (apply A.take 12; exact rfl; exact rfl; kernel_rfl; kernel_rfl; kernel_rfl; (apply Ok1.assign; exact rfl)) <;> (apply A.take 13; exact rfl; exact rfl; kernel_rfl; kernel_rfl; kernel_rfl; (apply Ok1.assign; exact rfl)) <;> (apply A.done; kernel_rfl))) | apply T.seq | apply T.region | apply T.skip | apply T.ret | (apply T.cond_f; exact rfl)))
    all_goals (apply RetOk.ctt; exact rfl; (apply Ld.ownk; exact rfl; exact rfl; (focus ((repeat' (first | exact At.head | apply At.tail | apply At.right)); done)); exact rfl); exact rfl; exact rfl)
    all_goals exact ⟨_, by (focus ((repeat' (first | exact Ext.here _ _ | apply Keep.last)); done)), ovo, hovo, rfl, rfl⟩
  · rw [if_neg h6]
    have hN2 := hN h6
    repeat' (first | (apply R.is1; first | (apply R.isBin; (apply R.pure; exact rfl; (apply Ok1.neq_t; exact rfl; exact rfl; omega))) | (apply R.pure; exact rfl; first | (apply Ok1.move; exact rfl) | (apply Ok1.assign; exact rfl) | (apply Ok1.build; (iterate 5 exact rfl)))) | (apply R.is0; (apply R.store; (iterate 6 exact rfl); (focus ((repeat' (first | exact Upd.head | apply Upd.tail | apply Upd.right)); done)); exact rfl)) | apply R.nil | (apply T.is; first | (apply T.drawC (id := 8) [0,1] (by decide); ((apply A.take 0; exact rfl; exact rfl; kernel_rfl; kernel_rfl; kernel_rfl; (apply Ok1.load; exact rfl; (apply Ld.ownk; exact rfl; exact rfl; exact At.head; exact subE_all htl))) <;> (apply A.take 1; exact rfl; exact rfl; kernel_rfl; kernel_rfl; kernel_rfl; (apply Ok1.move; exact rfl)) <;> (apply A.take 2; exact rfl; exact rfl; kernel_rfl; kernel_rfl; kernel_rfl; (apply Ok1.load; exact rfl; (apply Ld.ownk; exact rfl; exact rfl; (focus ((repeat' (first | exact At.head | apply At.tail)); done)); exact rfl))) <;> (apply A.take 4; exact rfl; exact rfl; kernel_rfl; kernel_rfl; kernel_rfl; (apply Ok1.move; exact rfl)) <;> (apply A.take 5; exact rfl; exact rfl; kernel_rfl; kernel_rfl; kernel_rfl; (apply Ok1.preR (i := 9); (iterate 5 exact rfl); omega)) <;> (apply A.take 6; exact rfl; exact rfl; kernel_rfl; kernel_rfl; kernel_rfl; (apply Ok1.move; exact rfl)) <;> (apply A.take 7; exact rfl; exact rfl; kernel_rfl; kernel_rfl; kernel_rfl; (apply Ok1.sufR (i := 9) (sz := 1); (iterate 6 exact rfl); omega; exact hcap)) <;> (apply A.one 3; kernel_rfl; exact rfl; (((apply R.callE (vs := [.agg ⟨[.int .i64 a, .int .i64 b]⟩]); (iterate 3 exact rfl); exact Ext.none _; intro w1 hw1; exact hnb w1; rintro v Lo ⟨ovn, hovn, rfl, rfl⟩; rw [slV_eq hovn]))); apply R.nil; refine ⟨?_, ?_⟩; (focus ((repeat' (first | exact trivial | (refine ⟨?_, ?_⟩; (focus ((repeat' (first | exact At.head | apply At.tail | apply At.right)); done)))))))) <;> (apply A.one 8; kernel_rfl; exact rfl; (((apply R.callE (vs := [.agg ⟨tbl⟩, .slice pt m ct, .slice (ovp ovn) 6 (ovc ovn 6), .slice p 9 cap, .slice (sufP p cap 9 1) (n - 9) (cap - 9)]); (iterate 3 exact rfl); exact Ext.none _; intro w1 hw1; exact hop _ _ w1 hw1.chg (RdSl.own' hw1 (Ext.mem (by rw [fl_u8]; (focus ((repeat' (exact Ext.here _ _)); done)))) (by rw [fl_u8, hnl]; exact hovn) u8V_len); rintro v Lo ⟨ovo, hovo, rfl, rfl⟩; rw [slV_eq hovo]))); apply R.nil; refine ⟨?_, ?_⟩; (focus ((repeat' (first | exact trivial | (refine ⟨?_, ?_⟩; (focus ((repeat' (first | exact At.head | apply At.tail | apply At.right)); done)))))))) <;> (apply A.take 9; exact rfl; exact rfl; kernel_rfl; kernel_rfl; kernel_rfl; (apply Ok1.move; exact rfl)) <;> (apply A.take 10; exact rfl; exact rfl; kernel_rfl; kernel_rfl; kernel_rfl; (apply Ok1.extract; exact rfl; exact rfl)) <;> (apply A.take 11; exact rfl; exact rfl; kernel_rfl; kernel_rfl; kernel_rfl; (apply Ok1.extract; exact rfl; exact rfl)) <;> (apply A.take 12; exact rfl; exact rfl; kernel_rfl; kernel_rfl; kernel_rfl; (apply Ok1.assign; exact rfl)) <;> (apply A.take 13; exact rfl; exact rfl; kernel_rfl; kernel_rfl; kernel_rfl; (apply Ok1.assign; exact rfl)) <;> (apply A.done; kernel_rfl))) | apply T.seq | apply T.region | apply T.ret | (apply T.cond_t; exact rfl)))
    all_goals (apply RetOk.ctt; exact rfl; (apply Ld.ownk; exact rfl; exact rfl; (focus ((repeat' (first | exact At.head | apply At.tail | apply At.right)); done)); exact rfl); exact rfl; exact rfl)
    all_goals rw [hN2]
    all_goals exact ⟨_, by (focus ((repeat' (exact Keep.nil _)); done)), none, OvOk.start 1, rfl, rfl⟩
end Go.Proofs.YtidjnjlejhoalaaGreat
set_option linter.unusedSimpArgs false
set_option linter.unusedVariables false
namespace Go.Proofs.YtidjnjlejhoalaaGreat
open Go.RowKit Go.Shelf
set_option maxRecDepth 100000
theorem Rs.num_at {s : Rs} {k : Nat} {bs : List Int} (hk : k ≤ 4) (hs : s.xs = bs) (he : s.e = 0) (hl : k ≤ bs.length) (hb : Byt bs) : (s.num k).1 = beN (bs.take k) ∧ (s.num k).2.2.xs = bs.drop k ∧ (s.num k).2.2.e = 0 := by
  subst hs
  have hbe := be_range k (s.xs.take k) (by rw [List.length_take]; omega) fun y hy => hb y (List.mem_of_mem_take hy)
  have hpw : (256 : Int) ^ k ≤ 4294967296 := by
    have : k = 0 ∨ k = 1 ∨ k = 2 ∨ k = 3 ∨ k = 4 := by omega
    rcases this with rfl | rfl | rfl | rfl | rfl <;> decide
  rw [Rs.num_many he hl (by omega)]
  exact ⟨rfl, rfl, he⟩
theorem prC_c9 {s : Rs} {bs : List Int} (h9 : bs.length = 9) (hb : Byt bs) (hs : s.xs = bs) (he : s.e = 0) : prC s = if (c9 bs).right then (c9 bs, 0) else (cl0, 3) := by
  have hbd : ∀ i, Byt (bs.drop i) := fun i y hy => hb y (List.mem_of_mem_drop hy)
  obtain ⟨a1, a2, a3⟩ := Rs.num_at (s := s) (k := 2) (by decide) hs he (by omega) hb
  obtain ⟨b1, b2, b3⟩ := Rs.num_at (s := s.cA) (k := 1) (by decide) a2 a3 (by rw [List.length_drop]; omega) (hbd 2)
  rw [List.drop_drop] at b2
  obtain ⟨d1, d2, d3⟩ := Rs.num_at (s := s.cB) (k := 4) (by decide) b2 b3 (by rw [List.length_drop]; omega) (hbd _)
  rw [List.drop_drop] at d2
  obtain ⟨e1, e2, e3⟩ := Rs.num_at (s := s.cD) (k := 2) (by decide) d2 d3 (by rw [List.length_drop]; omega) (hbd _)
  rw [List.drop_drop] at e2
  have e2' : s.c4.xs = [] := by rw [show s.c4.xs = _ from e2]; exact List.drop_of_length_le (by omega)
  have e3' : s.c4.e = 0 := e3
  have hcv : s.cv = c9 bs := by simp only [Rs.cv, c9, a1, b1, d1, e1]
  have hf : s.c4.fin = 0 := by unfold Rs.fin; rw [if_neg (fun h => h e3'), e2', if_neg (by decide)]
  have hrd : rdC s = if (c9 bs).right then (c9 bs, 0) else (cl0, 3) := by
    unfold rdC
    rw [if_neg (fun h => h e3'), hcv]
  unfold prC
  rw [hrd, hf]
  by_cases hr : (c9 bs).right
  · rw [if_pos hr]; rfl
  · rw [if_neg hr]; rfl
/-- What both say of a body. -/
theorem gd_same {key : List Int} {a b : Int} {bs : List Int} {sc : Rs} (hb : Byt bs) (h : bs.length = 73 → sc.xs = bs.take 9 ∧ sc.e = 0) : gdE key a b bs sc = vgdE key a b bs ∧ (vgdE key a b bs = 0 → (prC sc).1 = c9 (bs.take 9)) := by
  unfold gdE vgdE
  by_cases h1 : bs.length < 73
  · rw [if_pos h1, if_pos h1]; exact ⟨rfl, fun g => absurd g (by decide)⟩
  rw [if_neg h1, if_neg h1]
  by_cases h2 : 73 < bs.length
  · rw [if_pos h2, if_pos h2]; exact ⟨rfl, fun g => absurd g (by decide)⟩
  rw [if_neg h2, if_neg h2]
  obtain ⟨g1, g2⟩ := h (by omega)
  have hp := prC_c9 (by rw [List.length_take]; omega) (fun y hy => hb y (List.mem_of_mem_take hy)) g1 g2
  by_cases h3 : (c9 (bs.take 9)).right
  · rw [if_pos h3] at hp
    rw [hp, if_neg (c := ¬ (c9 (bs.take 9)).right) (fun g => g h3)]
    exact ⟨if_neg (fun g => g rfl), fun _ => rfl⟩
  · rw [if_neg h3] at hp
    rw [hp, if_pos h3]
    exact ⟨if_pos (show (3 : Int) ≠ 0 by decide), fun g => absurd g (by decide)⟩
end Go.Proofs.YtidjnjlejhoalaaGreat
set_option linter.unusedSimpArgs false
set_option linter.unusedVariables false
namespace Go.Proofs.YtidjnjlejhoalaaGreat
open Go.RowKit Go.Shelf
set_option maxRecDepth 100000
theorem chx_xor {x y : Int} (hx : 0 ≤ x ∧ x ≤ 255) : xorI .u8 (xorI .u8 x y) y = x := by
  have e : ∀ a b, xorI .u8 a b = ((BitVec.ofInt 8 a ^^^ BitVec.ofInt 8 b).toNat : Int) := fun _ _ => bv8_nat _
  rw [e, e]
  have h : BitVec.ofInt 8 ((BitVec.ofInt 8 x ^^^ BitVec.ofInt 8 y).toNat : Int) = BitVec.ofInt 8 x ^^^ BitVec.ofInt 8 y := by
    rw [BitVec.ofInt_natCast, BitVec.ofNat_toNat, BitVec.setWidth_eq]
  rw [h, BitVec.xor_assoc, BitVec.xor_self, BitVec.xor_zero, bv8_eq hx]
theorem chx_turn : ∀ {b s : List Int}, b.length = s.length → Byt b → turnI (turnI b s) s = b
  | [], [], _, _ => rfl
  | x :: b, y :: s, h, hb => by
    have ih := chx_turn (b := b) (s := s) (by simpa using h) (fun z hz => hb z (List.mem_cons_of_mem _ hz))
    unfold turnI at ih ⊢
    rw [List.zipWith_cons_cons, List.zipWith_cons_cons, chx_xor (hb x List.mem_cons_self), ih]
theorem chx_seal (k nonce bound b : List Int) (hb : Byt b) : sopE k nonce bound (sealI k nonce bound b) = 0 ∧ sopI k nonce (sealI k nonce bound b) = b := by
  have hl := sealI_len k nonce bound b
  have hn : (sealI k nonce bound b).length - 32 = b.length := by omega
  have htl : (turnI b (strmI k nonce b.length)).length = b.length := turnI_len (by rw [strmI_len])
  have ht : (sealI k nonce bound b).take b.length = turnI b (strmI k nonce b.length) := List.take_left' htl
  have hd : (sealI k nonce bound b).drop b.length = stagI k nonce bound (turnI b (strmI k nonce b.length)) := List.drop_left' htl
  constructor
  · unfold sopE
    rw [if_neg (by omega), hn, ht, hd, if_pos rfl]
  · unfold sopI
    rw [hn, ht, chx_turn (by rw [strmI_len]) hb]
theorem c9_fwd {c : Cl} (hr : c.right) : c9 (clI c) = c := by
  unfold Cl.right at hr
  have e1 : (clI c).take 2 = numI 1 c.id := rfl
  have e2 : ((clI c).drop 2).take 1 = numI 0 c.roles := rfl
  have e3 : ((clI c).drop 3).take 4 = numI 2 c.exp := rfl
  have e4 : ((clI c).drop 7).take 2 = numI 1 c.ser := rfl
  unfold c9
  rw [e1, e2, e3, e4, (be_numI (z := 1) (k := 2) (.inr (.inl ⟨rfl, rfl⟩)) (by omega) (by omega) (by omega) (by omega)).1, (be_numI (z := 0) (k := 1) (.inl ⟨rfl, rfl⟩) (by omega) (by omega) (by omega) (by omega)).1, (be_numI (z := 2) (k := 4) (.inr (.inr ⟨rfl, rfl⟩)) (by omega) (by omega) (by omega) (by omega)).1, (be_numI (z := 1) (k := 2) (.inr (.inl ⟨rfl, rfl⟩)) (by omega) (by omega) (by omega) (by omega)).1]
/-- What was granted is read again. -/
theorem gr_open (key : List Int) {k2 : List Int} {c : Cl} {a b : Int} (h32 : k2.length = 32) (hb : Byt k2) (hr : c.right) (hn : NR a b) : vgdE key a b (grI key k2 c a b) = 0 ∧ sopI key (nbI a b) ((grI key k2 c a b).drop 9) = k2 ∧ c9 ((grI key k2 c a b).take 9) = c := by
  have hl := grI_len key c a b h32
  have ht : (grI key k2 c a b).take 9 = clI c := List.take_left' rfl
  have hd : (grI key k2 c a b).drop 9 = sealI key (nbI a b) (clI c) k2 := List.drop_left' rfl
  obtain ⟨s1, s2⟩ := chx_seal key (nbI a b) (clI c) k2 hb
  have hc := c9_fwd hr
  refine ⟨?_, by rw [hd]; exact s2, by rw [ht]; exact hc⟩
  unfold vgdE
  rw [if_neg (by omega), if_neg (by omega), ht, hc, if_neg (fun g => g hr), if_neg (fun g => g hn), hd]
  exact s1
theorem kbytes_nil : CallP Tryz.prog 22 [.pointer none] (.slice none 0 0) := by
  refine enterP (tb := tb) Tryz.func22 rfl Tryz.ntmps22 rfl fun w => ?_
  repeat' (first | (apply R.is1; first | (apply R.isBin; (apply R.pure; exact rfl; (apply Ok1.eqlP; (iterate 5 exact rfl)))) | (apply R.pure; exact rfl; first | (apply Ok1.move; exact rfl) | (apply Ok1.assign; exact rfl))) | apply R.nil | (apply T.is; first | apply T.seq | apply T.region | apply T.ret | (apply T.cond_t; exact rfl)))
  (apply RetOk.t; exact rfl)
  rfl
end Go.Proofs.YtidjnjlejhoalaaGreat
set_option linter.unusedSimpArgs false
set_option linter.unusedVariables false
namespace Go.Proofs.YtidjnjlejhoalaaGreat
open Go.RowKit Go.Shelf
set_option maxRecDepth 100000
theorem granted16_same (bk : Nat) (key : List Int) (hkl : key.length ≤ 999999000) (hkb : Byt key) (a b : Int) (p : Option Addr) (n cap : Nat) (bs : List Int) (hn : n = bs.length) (hcap : n ≤ cap) (hbb : Byt bs) (w : World) (hk : KeyR w bk key) (hp : RdSl w p u8V bs) : CallM Tryz.prog 18 [.pointer (some ⟨bk, 0, none⟩), .agg ⟨[.int .i64 a, .int .i64 b]⟩, .slice p n cap] [] w fun v L => (vgdE key a b bs ≠ 0 ∧ v = .tuple #[kvC (vgdC key a b bs), .pointer none, .int .i64 (vgdE key a b bs)] ∧ vgdK key a b bs = [] ∧ L = []) ∨ (vgdE key a b bs = 0 ∧ ∃ bk2 ov, OvOk 1 ov (vgdK key a b bs).length (u8s (vgdK key a b bs)) ∧ v = .tuple #[kvC (vgdC key a b bs), .pointer (some ⟨bk2, 0, none⟩), .int .i64 (vgdE key a b bs)] ∧ L = KL bk2 ov (vgdK key a b bs)) := by
  have hG : CallM Tryz.prog 18 [.pointer (some ⟨bk, 0, none⟩), .agg ⟨[.int .i64 a, .int .i64 b]⟩, .slice p n cap] [] w (GdPost key a b bs) := by
    by_cases h : n = 73
    · exact granted16_ok bk key hkl hkb a b p n cap bs hn h hcap hbb w hk hp
    · exact granted16_len bk key a b p n cap bs hn h w
  refine hG.imp ?_
  rintro v L ⟨sc, h1, h2⟩
  obtain ⟨g1, g2⟩ := gd_same (key := key) (a := a) (b := b) hbb h1
  rw [g1] at h2
  rcases h2 with ⟨e, rfl, rfl⟩ | ⟨e, bk2, ov, hov, rfl, rfl⟩
  · have hC : vgdC key a b bs = cl0 := by unfold vgdC; rw [if_neg e]
    have hK : vgdK key a b bs = [] := by unfold vgdK; rw [if_neg e]
    exact .inl ⟨e, by rw [hC], hK, rfl⟩
  · have hC : vgdC key a b bs = c9 (bs.take 9) := by unfold vgdC; rw [if_pos e]
    have hK : vgdK key a b bs = sopI key (nbI a b) (bs.drop 9) := by unfold vgdK; rw [if_pos e]
    have hl := hov.1
    rw [u8s_len] at hl
    refine .inr ⟨e, bk2, ov, ?_, ?_, by rw [hK]⟩
    · rw [hK, hl]; exact hov
    · rw [hC, g2 e, e]
/-- A key's bytes, or none's. -/
def KBy (VK : List Int) (v : Value) (L : Lst) : Prop := ∃ ov, OvOk 1 ov VK.length (u8s VK) ∧ v = .slice (ovp ov) VK.length (ovc ov VK.length) ∧ L = blkL 5 ov (u8s VK)
theorem vgdK_len (key : List Int) (a b : Int) (bs : List Int) : (vgdK key a b bs).length ≤ 1000 := by
  by_cases h : vgdE key a b bs = 0
  · have hn : bs.length = 73 := by
      unfold vgdE at h
      by_cases h1 : bs.length < 73
      · rw [if_pos h1] at h; exact absurd h (by decide)
      by_cases h2 : 73 < bs.length
      · rw [if_neg h1, if_pos h2] at h; exact absurd h (by decide)
      omega
    unfold vgdK
    rw [if_pos h]
    unfold sopI turnI
    rw [List.length_zipWith, List.length_take, List.length_drop]
    omega
  · unfold vgdK
    rw [if_neg h]
    exact Nat.zero_le _
theorem granted16_u (bk : Nat) (key : List Int) (hkl : key.length ≤ 999999000) (hkb : Byt key) (a b : Int) (p : Option Addr) (n cap : Nat) (bs : List Int) (hn : n = bs.length) (hcap : n ≤ cap) (hbb : Byt bs) (w : World) (hk : KeyR w bk key) (hp : RdSl w p u8V bs) : CallM Tryz.prog 18 [.pointer (some ⟨bk, 0, none⟩), .agg ⟨[.int .i64 a, .int .i64 b]⟩, .slice p n cap] [] w fun v L => ∃ q, v = .tuple #[kvC (vgdC key a b bs), .pointer q, .int .i64 (vgdE key a b bs)] ∧ ∀ (w0 w1 : World) (S : List Nat) (L1 : Lst), Hp w0 S L1 w1 → (∀ z ∈ L, z ∈ L1) → CallM Tryz.prog 22 [.pointer q] [] w1 (KBy (vgdK key a b bs)) := by
  have hKl := vgdK_len key a b bs
  refine (granted16_same bk key hkl hkb a b p n cap bs hn hcap hbb w hk hp).imp ?_
  rintro v L (⟨h1, rfl, h2, rfl⟩ | ⟨h1, bk2, ov, hov, rfl, rfl⟩)
  · refine ⟨none, rfl, fun w0 w1 S L1 hw _ => ?_⟩
    rw [h2]
    refine (CallW.toM (v := .slice none 0 0) (kbytes_nil.at w1)).imp ?_
    rintro v L ⟨rfl, rfl⟩
    exact ⟨none, OvOk.start 1, rfl, rfl⟩
  · refine ⟨_, rfl, fun w0 w1 S L1 hw hz => ?_⟩
    refine (bytes_ok bk2 _ (by omega) w1 (KeyR.of hov hw hz)).imp ?_
    rintro v L ⟨ov2, hov2, rfl, rfl⟩
    exact ⟨ov2, hov2, by rw [slV_eq hov2], rfl⟩
end Go.Proofs.YtidjnjlejhoalaaGreat
