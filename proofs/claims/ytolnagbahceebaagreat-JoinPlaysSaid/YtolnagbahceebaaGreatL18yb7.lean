/- Texts of the proof: Jn5, Jn6, Jp4, Jn7, Jn8, Jp5, Jn9, Ljn. -/
import Derived.Test.YtolnagbahceebaaGreatL18yb6
set_option linter.unusedSimpArgs false
set_option linter.unusedVariables false
namespace Go.Proofs.YtolnagbahceebaaGreat
open Go.RowKit Go.Shelf
set_option maxRecDepth 100000
/-- What comes of a packet of a kind: the answer's error, or the next state. -/
def jtkE (st sd k to : Int) (body : List Int) : Int := if k = 2 then (if st ≠ 1 ∨ to ≠ sd then 11 else if body.length ≠ 16 then 3 else 0) else if k = 4 then (if st ≠ 2 ∨ to ≠ sd then 11 else if (rdJ (R0 body)).2 ≠ 0 then 3 else 0) else 13
/-- The program's answer. -/
def JTake (bj bc bn : Nat) (c : Cl) (s : List Int) (S st sd la : Int) (q : Option Addr) (m cap : Nat) (boot cnt k to tick : Int) (body : List Int) (v : Value) (L : Lst) : Prop :=
  (jtkE st sd k to body ≠ 0 ∧ v = .tuple #[.slice none 0 0, .int .i64 (jtkE st sd k to body)] ∧ L = [JN bj bc S st sd la q m cap, CN bn boot cnt]) ∨
  (jtkE st sd k to body = 0 ∧ k = 2 ∧ ∃ Lo, Wrote c s 3 sd boot (cnt + 1) body v (.int .i64 0) Lo ∧ L = JN bj bc S 2 sd tick q m cap :: CN bn boot (cnt + 1) :: Lo) ∨
  (jtkE st sd k to body = 0 ∧ k = 4 ∧ v = .tuple #[.slice none 0 0, .int .i64 0] ∧ ∃ ov, OvOk 4 ov (rdJ (R0 body)).1.length (fl Cl.v (rdJ (R0 body)).1) ∧ L = JN bj bc S 3 sd tick (ovp ov) (rdJ (R0 body)).1.length (ovc ov (rdJ (R0 body)).1.length) :: CN bn boot cnt :: blkL 97 ov (fl Cl.v (rdJ (R0 body)).1))
section
variable {X : Cx} {σ : Env} {L L' : Lst} {ty t kt et : TypeId} {pos : String} {af : Array Edge} {x y z : Operand} {r : TRow} {K : Env → Lst → Prop} {all : Array Oper} {rest : List Oper} {κ α : Type} [DecidableEq κ] {kv : κ → Value} {vv : α → Value} {ms : Ms κ α} {clk b : Nat} {vk va : Value}
theorem R.mapIns_new {a : α} (k : κ) (hkt : KeyT X.P kt kv) (ht : X.tb.row t = some r) (hk : r.k = .map kt et) (hx : ev σ x = some (.map (some b))) (hy : ev σ y = some vk) (hv : vk = kv k) (hz : ev σ z = some va) (hva : va = vv a)
    (hu : Upd L b (mobj kv vv ms clk) (mobj kv vv (ms ++ [(k, a, clk)]) (clk + 1)) L') (hm : mget k ms = none) (h : R X all rest K σ L') : R X all (⟨none, .insert t x y z, ty, pos, af, none⟩ :: rest) K σ L :=
  R.skip rfl rfl fun a' w ha hw => by
    obtain ⟨w', h1, h2, h3⟩ := update_run hkt (TB.map X.tb ht hk) (hw.get _ _ hu.mem) k a
    rw [hm] at h3
    exact ⟨w', L', by simp [execOp, ha.ev hx, ha.ev hy, ha.ev hz, hv, hva, h1], hw.upd hu h2 h3, h⟩
end
def vvF (f : Nat) : Value := .func (.func f) #[] #[]
def kvI (n : Int) : Value := .int .i64 n
theorem deeds_ok (w : World) : CallM Tryz.prog 139 [] [] w fun v L => ∃ bm clk, v = .map (some bm) ∧ L = [(bm, mobj kvI vvF [((2 : Int), 196, 0), (4, 197, 1)] clk)] := by
  have ki := KeyT.intK (P := Tryz.prog) tb (t := 3) rfl rfl
  refine enterK (tb := tb) Tryz.func139 rfl Tryz.ntmps139 rfl ?_
  repeat' (first | (apply R.is1; first | (apply R.makeMap kvI vvF; exact rfl; intro bm) | (apply R.pure; exact rfl; first | (apply Ok1.move; exact rfl) | (apply Ok1.assign; exact rfl))) | (apply R.is0; first | (apply R.mapIns_new (kv := kvI) (vv := vvF) (2 : Int) ki; (iterate 7 exact rfl); exact Upd.head; exact rfl) | (apply R.mapIns_new (kv := kvI) (vv := vvF) (4 : Int) ki; (iterate 7 exact rfl); exact Upd.head; exact rfl)) | apply R.nil | (apply T.is; first | apply T.seq | apply T.region | apply T.ret))
  (apply RetOk.t; exact rfl)
  exact ⟨_, by (focus (repeat' first | exact Keep.nil _ | exact Ext.one _ _ | apply Keep.cons); done), bm, _, rfl, rfl⟩
theorem jtake_ok (bj bc bn br bb bd : Nat) (sd0 : List Value) (e1 : TypeId) (f1 : Nat × Nat) (c : Cl) (hr : c.right) (s : List Int) (hs : s.length = 32) (hsb : Byt s) (m1 m2 : Nat) (e : TypeId) (S st sd la : Int) (hd0 : 0 ≤ sd) (hd1 : sd ≤ 3) (q : Option Addr) (m cap : Nat) (boot cnt : Int) (hnr : NR boot (cnt + 1)) (h0 : 0 ≤ cnt) (k : Int) (c2 : Cl) (to a b : Int) (p : Option Addr) (n pc : Nat) (t body : List Int) (ht : t.length = 32) (hn : n = body.length) (hn5 : n ≤ 1024) (hbb : Byt body) (tick : Int) (w : World) (hp : RdSl w p u8V body) (hq : body ≠ [] → Off p [bj, bn]) (hc : w.heap[bc]? = some (.cells ⟨chC bn br bb bd sd0⟩ e1 f1)) (hb : w.heap[br]? = some (.cells ⟨ringC c s m1 m2⟩ e (0, 0))) (hne1 : bc ∉ [bj, bn]) (hne2 : br ∉ [bj, bn]) :
    CallM Tryz.prog 55 [.pointer (some ⟨bj, 0, none⟩), .agg ⟨pkC k c2 to a b p n pc t⟩, .int .i64 tick] [JN bj bc S st sd la q m cap, CN bn boot cnt] w (JTake bj bc bn c s S st sd la q m cap boot cnt k to tick body) := by
  have ki := KeyT.intK (P := Tryz.prog) tb (t := 3) rfl rfl
  have hde := fun w1 => deeds_ok w1
  have hpl := pk_len k c2 to a b p n pc ht
  by_cases h2 : k = 2
  · subst h2
    have hck := fun w1 (h : Chg (blks [JN bj bc S st sd la q m cap, CN bn boot cnt]) w w1) => jcookie_ok bj bc bn br bb bd sd0 e1 f1 c hr s hs hsb m1 m2 e S st sd la hd0 hd1 q m cap boot cnt hnr h0 2 c2 to a b p n pc t body ht hn hbb tick w1 (hp.chg' h hq) hq (h.heap hc hne1) (h.heap hb hne2) hne1 hne2
    have hck2 := fun w1 h => (hck w1 h).wk (R' := fun v L => ∃ x y, v = .tuple #[x, y] ∧ JTake bj bc bn c s S st sd la q m cap boot cnt 2 to tick body (.tuple #[x, y]) L) (by
      unfold JTake
      rintro v L (⟨g, rfl, rfl⟩ | ⟨g, g2, rfl, rfl⟩ | ⟨g, g2, Lo, ⟨ovw, w1, rfl, rfl⟩, rfl⟩)
      · have hE : jtkE st sd 2 to body = 11 := by unfold jtkE; rw [if_pos rfl, if_pos g]
        rw [hE]
        exact ⟨_, _, rfl, .inl ⟨by decide, rfl, rfl⟩⟩
      · have hE : jtkE st sd 2 to body = 3 := by unfold jtkE; rw [if_pos rfl, if_neg (by omega), if_pos (by omega)]
        rw [hE]
        exact ⟨_, _, rfl, .inl ⟨by decide, rfl, rfl⟩⟩
      · have hE : jtkE st sd 2 to body = 0 := by unfold jtkE; rw [if_pos rfl, if_neg (by omega), if_neg (by omega)]
        exact ⟨_, _, rfl, .inr (.inl ⟨hE, rfl, _, ⟨ovw, w1, rfl, rfl⟩, rfl⟩)⟩)
    clear hck
    generalize JTake bj bc bn c s S st sd la q m cap boot cnt 2 to tick body = PP at *
    unfold pkC at *
    generalize JN bj bc S st sd la q m cap = JO at *
    generalize CN bn boot cnt = CO at *
    refine enterK (tb := tb) Tryz.func55 rfl Tryz.ntmps55 rfl ?_
    repeat' (first | (apply R.is1; first | (apply R.isBin; (apply R.pure; exact rfl; first | (apply Ok1.eqlP; (iterate 5 exact rfl)) | (apply Ok1.eqlFn0; (iterate 4 exact rfl)))) | (apply R.isCall; (apply R.callFE (f := 196) (fa := []) (cb := []) (Li := [JO, CO]) (vs := [.pointer (some ⟨bj, 0, none⟩), .agg _, .int .i64 tick]); (iterate 4 exact rfl); exact Ext.two _ (by (focus (repeat' first | exact Ext.one _ _ | apply Ext.cons); done)) (by (focus (repeat' first | exact Ext.one _ _ | apply Ext.cons); done)); intro w1 hw1; exact hck2 w1 hw1.chg; rintro v Lo ⟨vx, vy, rfl, hPP⟩)) | (apply R.pure; exact rfl; first | (apply Ok1.load; exact rfl; (apply Ld.ownk; exact rfl; exact rfl; (focus (repeat' first | exact At.head | apply At.tail); done); exact subE_all hpl)) | (apply Ok1.move; exact rfl) | (apply Ok1.assign; exact rfl) | (apply Ok1.extract; exact rfl; exact rfl)) | (apply R.box; (iterate 3 exact rfl); intro)) | apply R.nil | (apply T.is; first | (apply T.drawC (id := 3) [0] (by decide); ((apply A.tk 1; exact rfl; kernel_rfl; (apply Ok1.fieldAddr; (iterate 5 exact rfl))) <;> (apply A.tk 2; exact rfl; kernel_rfl; (apply Ok1.load; exact rfl; (apply Ld.own1; exact rfl; exact rfl; exact At.head; exact rfl))) <;> (apply A.one 0; kernel_rfl; exact rfl; (((apply R.callE (vs := []); (iterate 3 exact rfl); exact Ext.none _; intro w1 hw1; exact hde w1; rintro v Lo ⟨bmap, clk, rfl, rfl⟩; rw [List.singleton_append]))); apply R.nil; refine ⟨?_, ?_⟩; (focus (repeat' first | exact trivial | exact At.head | apply At.tail | refine ⟨?_, ?_⟩)); (apply A.clsH; (focus ((repeat' (first | exact trivial | (refine ⟨?_, ?_⟩; exact At.head))))))) <;> (apply A.tk 3; exact rfl; kernel_rfl; (apply Ok1.lookup_some (kv := kvI) (vv := vvF) (2 : Int) ki; (iterate 6 exact rfl); exact At.head; exact rfl; exact (if_neg Bool.false_ne_true).symm)) <;> (apply A.tk 4; exact rfl; kernel_rfl; (apply Ok1.assign; exact rfl)) <;> (apply A.done; kernel_rfl))) | apply T.seq | apply T.region | apply T.skip | apply T.ret | (apply T.cond_f; exact rfl)))
    all_goals (apply RetOk.tt; exact rfl; exact rfl)
    all_goals exact ⟨_, by (focus (repeat' first | exact Ext.here _ _ | apply Keep.last); done), hPP⟩
  by_cases h4 : k = 4
  · subst h4
    have hck := fun w1 (h : Chg (blks [JN bj bc S st sd la q m cap, CN bn boot cnt]) w w1) => jadmit_ok bj bc S st sd la q m cap 4 c2 to a b p n pc t body ht hn hn5 hbb tick w1 (hp.chg' h hq) (fun g a ha => by have := hq g a ha; simp only [List.mem_cons, List.not_mem_nil, or_false, not_or] at this ⊢; exact this.1)
    have hck2 := fun w1 h => (hck w1 h).wk (R' := fun v L => ∃ x y, v = .tuple #[x, y] ∧ ∃ J1 Lo, L = J1 :: Lo ∧ JTake bj bc bn c s S st sd la q m cap boot cnt 4 to tick body (.tuple #[x, y]) (J1 :: CN bn boot cnt :: Lo)) (by
      unfold JTake
      rintro v L (⟨g, rfl, rfl⟩ | ⟨g, g2, rfl, rfl⟩ | ⟨g, g2, rfl, ov, hov, rfl⟩)
      · have hE : jtkE st sd 4 to body = 11 := by unfold jtkE; rw [if_neg (by decide), if_pos rfl, if_pos g]
        rw [hE]
        exact ⟨_, _, rfl, _, _, rfl, .inl ⟨by decide, rfl, rfl⟩⟩
      · have hE : jtkE st sd 4 to body = 3 := by unfold jtkE; rw [if_neg (by decide), if_pos rfl, if_neg (by omega), if_pos g2]
        rw [hE]
        exact ⟨_, _, rfl, _, _, rfl, .inl ⟨by decide, rfl, rfl⟩⟩
      · have hE : jtkE st sd 4 to body = 0 := by unfold jtkE; rw [if_neg (by decide), if_pos rfl, if_neg (by omega), if_neg (fun h => h g2)]
        exact ⟨_, _, rfl, _, _, rfl, .inr (.inr ⟨hE, rfl, rfl, ov, hov, rfl⟩)⟩)
    clear hck
    generalize JTake bj bc bn c s S st sd la q m cap boot cnt 4 to tick body = PP at *
    unfold pkC at *
    generalize JN bj bc S st sd la q m cap = JO at *
    generalize CN bn boot cnt = CO at *
    refine enterK (tb := tb) Tryz.func55 rfl Tryz.ntmps55 rfl ?_
    repeat' (first | (apply R.is1; first | (apply R.isBin; (apply R.pure; exact rfl; first | (apply Ok1.eqlP; (iterate 5 exact rfl)) | (apply Ok1.eqlFn0; (iterate 4 exact rfl)))) | (apply R.isCall; (apply R.callFE (f := 197) (fa := []) (cb := []) (Li := [JO]) (vs := [.pointer (some ⟨bj, 0, none⟩), .agg _, .int .i64 tick]); (iterate 4 exact rfl); (focus (repeat' first | exact Ext.one _ _ | apply Ext.cons); done); intro w1 hw1; exact hck2 w1 hw1.chg; rintro v Lo ⟨vx, vy, rfl, J1, Lo1, rfl, hPP⟩)) | (apply R.pure; exact rfl; first | (apply Ok1.load; exact rfl; (apply Ld.ownk; exact rfl; exact rfl; (focus (repeat' first | exact At.head | apply At.tail); done); exact subE_all hpl)) | (apply Ok1.move; exact rfl) | (apply Ok1.assign; exact rfl) | (apply Ok1.extract; exact rfl; exact rfl)) | (apply R.box; (iterate 3 exact rfl); intro)) | apply R.nil | (apply T.is; first | (apply T.drawC (id := 3) [0] (by decide); ((apply A.tk 1; exact rfl; kernel_rfl; (apply Ok1.fieldAddr; (iterate 5 exact rfl))) <;> (apply A.tk 2; exact rfl; kernel_rfl; (apply Ok1.load; exact rfl; (apply Ld.own1; exact rfl; exact rfl; exact At.head; exact rfl))) <;> (apply A.one 0; kernel_rfl; exact rfl; (((apply R.callE (vs := []); (iterate 3 exact rfl); exact Ext.none _; intro w1 hw1; exact hde w1; rintro v Lo ⟨bmap, clk, rfl, rfl⟩; rw [List.singleton_append]))); apply R.nil; refine ⟨?_, ?_⟩; (focus (repeat' first | exact trivial | exact At.head | apply At.tail | refine ⟨?_, ?_⟩)); (apply A.clsH; (focus ((repeat' (first | exact trivial | (refine ⟨?_, ?_⟩; exact At.head))))))) <;> (apply A.tk 3; exact rfl; kernel_rfl; (apply Ok1.lookup_some (kv := kvI) (vv := vvF) (4 : Int) ki; (iterate 6 exact rfl); exact At.head; exact rfl; exact (if_neg Bool.false_ne_true).symm)) <;> (apply A.tk 4; exact rfl; kernel_rfl; (apply Ok1.assign; exact rfl)) <;> (apply A.done; kernel_rfl))) | apply T.seq | apply T.region | apply T.skip | apply T.ret | (apply T.cond_f; exact rfl)))
    all_goals (apply RetOk.tt; exact rfl; exact rfl)
    all_goals exact ⟨_, by (focus (repeat' first | exact Ext.one _ _ | exact Ext.here _ _ | apply Keep.cons | apply Keep.last | apply Ext.cons | apply Ext.app); done), hPP⟩
  have hE : jtkE st sd k to body = 13 := by unfold jtkE; rw [if_neg h2, if_neg h4]
  have hmg : mget k [((2 : Int), 196, 0), (4, 197, 1)] = none := by
    simp only [mget]
    rw [if_neg (fun h => h2 h.symm), if_neg (fun h => h4 h.symm)]
  unfold JTake
  rw [hE]
  unfold pkC at *
  generalize JN bj bc S st sd la q m cap = JO at *
  generalize CN bn boot cnt = CO at *
  refine enterK (tb := tb) Tryz.func55 rfl Tryz.ntmps55 rfl ?_
  repeat' (first | (apply R.is1; first | (apply R.isBin; (apply R.pure; exact rfl; first | (apply Ok1.eqlP; (iterate 5 exact rfl)) | (apply Ok1.eqlFn1; (iterate 4 exact rfl)))) | (apply R.pure; exact rfl; first | (apply Ok1.move; exact rfl) | (apply Ok1.assign; exact rfl)) | (apply R.box; (iterate 3 exact rfl); intro)) | apply R.nil | (apply T.is; first | (apply T.drawC (id := 3) [0] (by decide); ((apply A.tk 1; exact rfl; kernel_rfl; (apply Ok1.fieldAddr; (iterate 5 exact rfl))) <;> (apply A.tk 2; exact rfl; kernel_rfl; (apply Ok1.load; exact rfl; (apply Ld.own1; exact rfl; exact rfl; exact At.head; exact rfl))) <;> (apply A.one 0; kernel_rfl; exact rfl; (((apply R.callE (vs := []); (iterate 3 exact rfl); exact Ext.none _; intro w1 hw1; exact hde w1; rintro v Lo ⟨bmap, clk, rfl, rfl⟩; rw [List.singleton_append]))); apply R.nil; refine ⟨?_, ?_⟩; (focus (repeat' first | exact trivial | exact At.head | apply At.tail | refine ⟨?_, ?_⟩)); (apply A.clsH; (focus ((repeat' (first | exact trivial | (refine ⟨?_, ?_⟩; exact At.head))))))) <;> (apply A.tk 3; exact rfl; kernel_rfl; (apply Ok1.lookup_none (kv := kvI) (vv := vvF) k ki; (iterate 6 exact rfl); exact At.head; exact hmg; exact (if_neg Bool.false_ne_true).symm)) <;> (apply A.tk 4; exact rfl; kernel_rfl; (apply Ok1.assign; exact rfl)) <;> (apply A.done; kernel_rfl))) | apply T.seq | apply T.region | apply T.skip | apply T.ret | (apply T.cond_t; exact rfl) | (apply T.cond_f; exact rfl)))
  all_goals (apply RetOk.tt; exact rfl; exact rfl)
  all_goals exact ⟨_, by (focus (repeat' first | exact Keep.nil _ | exact Ext.one _ _ | apply Keep.cons | apply Ext.cons); done), .inl ⟨by decide, rfl, rfl⟩⟩
/-- The document's answer. -/
def DTake (bd bM : Nat) (c : Cl) (s : List Int) (S st sd la : Int) (q : Option Addr) (m cap : Nat) (boot cnt : Int) (RR : List Value) (k to tick : Int) (body : List Int) (v : Value) (L : Lst) : Prop :=
  (jtkE st sd k to body ≠ 0 ∧ v = .tuple #[.slice none 0 0, .int .i64 (jtkE st sd k to body)] ∧ L = [DN bd bM S st sd la q m cap, MB bM c s boot cnt RR]) ∨
  (jtkE st sd k to body = 0 ∧ k = 2 ∧ ∃ Lo, Wrote c s 3 sd boot (cnt + 1) body v (.int .i64 0) Lo ∧ L = DN bd bM S 2 sd tick q m cap :: MB bM c s boot (cnt + 1) RR :: Lo) ∨
  (jtkE st sd k to body = 0 ∧ k = 4 ∧ v = .tuple #[.slice none 0 0, .int .i64 0] ∧ ∃ ov, OvOk 4 ov (rdJ (R0 body)).1.length (fl Cl.v (rdJ (R0 body)).1) ∧ L = DN bd bM S 3 sd tick (ovp ov) (rdJ (R0 body)).1.length (ovc ov (rdJ (R0 body)).1.length) :: MB bM c s boot cnt RR :: blkL 127 ov (fl Cl.v (rdJ (R0 body)).1))
theorem dtake_ok (bd bM : Nat) (c : Cl) (hr : c.right) (s : List Int) (hs : s.length = 32) (hsb : Byt s) (S st sd la : Int) (hd0 : 0 ≤ sd) (hd1 : sd ≤ 3) (q : Option Addr) (m cap : Nat) (boot cnt : Int) (hnr : NR boot (cnt + 1)) (h0 : 0 ≤ cnt) (RR : List Value) (k : Int) (c2 : Cl) (to a b : Int) (p : Option Addr) (n pc : Nat) (t body : List Int) (ht : t.length = 32) (hn : n = body.length) (hn5 : n ≤ 1024) (hpc : n ≤ pc) (hbb : Byt body) (tick : Int) (w : World) (hp : RdSl w p u8V body) (hq : body ≠ [] → Off p [bd, bM]) :
    CallM Tryz.prog 56 [.pointer (some ⟨bd, 0, none⟩), .agg ⟨tabV⟩, .agg ⟨pkC k c2 to a b p n pc t⟩, .int .i64 tick] [DN bd bM S st sd la q m cap, MB bM c s boot cnt RR] w (DTake bd bM c s S st sd la q m cap boot cnt RR k to tick body) := by
  have htl := tab_len
  by_cases h2 : k = 2
  · subst h2
    by_cases h1 : st = 1 ∧ to = sd
    case neg =>
      have hE : jtkE st sd 2 to body = 11 := by unfold jtkE; rw [if_pos rfl, if_pos (by omega)]
      unfold DTake
      rw [hE]
      unfold DN jnC pkC
      generalize MB bM c s boot cnt RR = MO at *
      generalize tabV = tbl at *
      refine enterK (tb := tb) Tryz.func56 rfl Tryz.ntmps56 rfl ?_
      repeat' (first | (apply R.is1; first | (apply R.isBin; (apply R.pure; exact rfl; (apply Ok1.eql_t; exact rfl; exact rfl; omega))) | (apply R.pure; exact rfl; first | (apply Ok1.fieldAddr; (iterate 5 exact rfl)) | (apply Ok1.load; exact rfl; (apply Ld.own1; exact rfl; exact rfl; exact At.head; exact rfl)) | (apply Ok1.assign; exact rfl)) | (apply R.box; (iterate 3 exact rfl); intro)) | apply R.nil | (apply T.is; first | (apply T.drawC (id := 3) [0,2] (by decide); ((apply A.tk 0; exact rfl; kernel_rfl; (apply Ok1.move; exact rfl)) <;> (apply A.tk 1; exact rfl; kernel_rfl; (apply Ok1.nilCheck; exact rfl)) <;> (apply A.tk 2; exact rfl; kernel_rfl; (apply Ok1.fieldAddr; (iterate 5 exact rfl))) <;> (apply A.tk 3; exact rfl; kernel_rfl; (apply Ok1.load; exact rfl; (apply Ld.own1; exact rfl; exact rfl; (focus (repeat' first | exact At.head | apply At.tail); done); exact rfl))) <;> ((apply A.tk 4; exact rfl; kernel_rfl; ((apply Ok1.neq; exact rfl; exact rfl)); apply A.dec (t := 22); exact rfl; all_goals intro)) <;> (apply A.tk 5; exact rfl; kernel_rfl; (apply Ok1.move; exact rfl)) <;> (first | (apply A.skG 6; (iterate 3 exact rfl); kernel_rfl) | (apply A.tkG 6; (iterate 3 exact rfl); kernel_rfl; (apply Ok1.fieldAddr; (iterate 5 exact rfl)))) <;> (first | (apply A.skG 7; (iterate 3 exact rfl); kernel_rfl) | (apply A.tkG 7; (iterate 3 exact rfl); kernel_rfl; (apply Ok1.load; exact rfl; (apply Ld.own1; exact rfl; exact rfl; exact At.head; exact rfl)))) <;> (first | (apply A.skG 8; (iterate 3 exact rfl); kernel_rfl) | (apply A.tkG 8; (iterate 3 exact rfl); kernel_rfl; (apply Ok1.move; exact rfl))) <;> (first | (apply A.skG 9; (iterate 3 exact rfl); kernel_rfl) | (apply A.tkG 9; (iterate 3 exact rfl); kernel_rfl; (apply Ok1.nilCheck; exact rfl))) <;> (first | (apply A.skG 10; (iterate 3 exact rfl); kernel_rfl) | (apply A.tkG 10; (iterate 3 exact rfl); kernel_rfl; (apply Ok1.fieldAddr; (iterate 5 exact rfl)))) <;> (first | (apply A.skG 11; (iterate 3 exact rfl); kernel_rfl) | (apply A.tkG 11; (iterate 3 exact rfl); kernel_rfl; (apply Ok1.load; exact rfl; (apply Ld.own1; exact rfl; exact rfl; (focus (repeat' first | exact At.head | apply At.tail); done); exact rfl)))) <;> (first | (apply A.skG 12; (iterate 3 exact rfl); kernel_rfl) | (apply A.tkG 12; (iterate 3 exact rfl); kernel_rfl; (apply Ok1.neq_t; exact rfl; exact rfl; omega))) <;> (apply A.tk 13; exact rfl; kernel_rfl; first | (apply Ok1.pick_t; exact rfl; exact rfl) | (apply Ok1.pick_f; exact rfl; exact rfl)) <;> (apply A.done; kernel_rfl))) | apply T.seq | apply T.region | apply T.block | apply T.ret | (apply T.cond_t; exact rfl)))
      all_goals (apply RetOk.tt; exact rfl; exact rfl)
      all_goals exact ⟨_, by (focus (repeat' first | exact Keep.nil _ | exact Ext.one _ _ | apply Keep.cons | apply Ext.cons); done), .inl ⟨by decide, rfl, rfl⟩⟩
    obtain ⟨rfl, rfl⟩ := h1
    by_cases h16 : n = 16
    case neg =>
      have hE : jtkE 1 to 2 to body = 3 := by unfold jtkE; rw [if_pos rfl, if_neg (by omega), if_pos (by omega)]
      have h16' : (n : Int) ≠ 16 := by omega
      unfold DTake
      rw [hE]
      unfold DN jnC pkC
      generalize MB bM c s boot cnt RR = MO at *
      generalize tabV = tbl at *
      refine enterK (tb := tb) Tryz.func56 rfl Tryz.ntmps56 rfl ?_
      repeat' (first | (apply R.is1; first | (apply R.isBin; (apply R.pure; exact rfl; first | (apply Ok1.eql_t; exact rfl; exact rfl; omega) | (apply Ok1.neq_t; exact rfl; exact rfl; omega))) | (apply R.isCall; (apply R.pure; exact rfl; (apply Ok1.lenS; (iterate 3 exact rfl)))) | (apply R.pure; exact rfl; first | (apply Ok1.fieldAddr; (iterate 5 exact rfl)) | (apply Ok1.load; exact rfl; (apply Ld.own1; exact rfl; exact rfl; exact At.head; exact rfl)) | (apply Ok1.assign; exact rfl)) | (apply R.box; (iterate 3 exact rfl); intro)) | apply R.nil | (apply T.is; first | (apply T.drawC (id := 3) [0,2] (by decide); ((apply A.tk 0; exact rfl; kernel_rfl; (apply Ok1.move; exact rfl)) <;> (apply A.tk 1; exact rfl; kernel_rfl; (apply Ok1.nilCheck; exact rfl)) <;> (apply A.tk 2; exact rfl; kernel_rfl; (apply Ok1.fieldAddr; (iterate 5 exact rfl))) <;> (apply A.tk 3; exact rfl; kernel_rfl; (apply Ok1.load; exact rfl; (apply Ld.own1; exact rfl; exact rfl; (focus (repeat' first | exact At.head | apply At.tail); done); exact rfl))) <;> ((apply A.tk 4; exact rfl; kernel_rfl; (apply Ok1.neq_f; exact rfl; exact rfl; omega))) <;> (apply A.tk 5; exact rfl; kernel_rfl; (apply Ok1.move; exact rfl)) <;> ((apply A.tkG 6; (iterate 3 exact rfl); kernel_rfl; (apply Ok1.fieldAddr; (iterate 5 exact rfl)))) <;> ((apply A.tkG 7; (iterate 3 exact rfl); kernel_rfl; (apply Ok1.load; exact rfl; (apply Ld.own1; exact rfl; exact rfl; exact At.head; exact rfl)))) <;> ((apply A.tkG 8; (iterate 3 exact rfl); kernel_rfl; (apply Ok1.move; exact rfl))) <;> ((apply A.tkG 9; (iterate 3 exact rfl); kernel_rfl; (apply Ok1.nilCheck; exact rfl))) <;> ((apply A.tkG 10; (iterate 3 exact rfl); kernel_rfl; (apply Ok1.fieldAddr; (iterate 5 exact rfl)))) <;> ((apply A.tkG 11; (iterate 3 exact rfl); kernel_rfl; (apply Ok1.load; exact rfl; (apply Ld.own1; exact rfl; exact rfl; (focus (repeat' first | exact At.head | apply At.tail); done); exact rfl)))) <;> ((apply A.tkG 12; (iterate 3 exact rfl); kernel_rfl; (apply Ok1.neq_f; exact rfl; exact rfl; omega))) <;> (apply A.tk 13; exact rfl; kernel_rfl; (apply Ok1.pick_f; exact rfl; exact rfl)) <;> (apply A.done; kernel_rfl))) | apply T.seq | apply T.region | apply T.block | apply T.skip | apply T.ret | (apply T.cond_t; exact rfl) | (apply T.cond_f; exact rfl)))
      all_goals (apply RetOk.tt; exact rfl; exact rfl)
      all_goals exact ⟨_, by (focus (repeat' first | exact Keep.nil _ | exact Ext.one _ _ | apply Keep.cons | apply Ext.cons); done), .inl ⟨by decide, rfl, rfl⟩⟩
    subst h16
    have hE : jtkE 1 to 2 to body = 0 := by unfold jtkE; rw [if_pos rfl, if_neg (by omega), if_neg (by omega)]
    have hwr := fun w1 (h : Chg (blks [DN bd bM S 1 to la q m cap, MB bM c s boot cnt RR]) w w1) => vwrite_up bM c hr s hs hsb boot cnt hnr h0 RR 3 to (by decide) hd0 hd1 p 16 pc body hn (by decide) hbb w1 (hp.chg' h hq) (fun g a ha => by have := hq g a ha; simp only [List.mem_cons, List.not_mem_nil, or_false, not_or] at this ⊢; exact this.2)
    unfold DTake
    rw [hE]
    unfold Wrote at hwr ⊢
    generalize wrG c s 3 to boot (cnt + 1) body = G at *
    unfold DN jnC at *
    unfold pkC
    generalize MB bM c s boot cnt RR = MO at *
    generalize MB bM c s boot (cnt + 1) RR = MO2 at *
    generalize tabV = tbl at *
    refine enterK (tb := tb) Tryz.func56 rfl Tryz.ntmps56 rfl ?_
    repeat' (first | (apply R.is1; first | (apply R.isBin; (apply R.pure; exact rfl; first | (apply Ok1.eql_t; exact rfl; exact rfl; omega) | (apply Ok1.neq_f; exact rfl; exact rfl; omega))) | (apply R.isCall; (apply R.pure; exact rfl; (apply Ok1.lenS; (iterate 3 exact rfl)))) | (apply R.pure; exact rfl; first | (apply Ok1.load; exact rfl; (apply Ld.own1; exact rfl; exact rfl; exact At.head; exact rfl)) | (apply Ok1.move; exact rfl) | (apply Ok1.fieldAddr; (iterate 5 exact rfl)) | (apply Ok1.assign; exact rfl) | (apply Ok1.nilCheck; exact rfl)) | (apply R.box; (iterate 3 exact rfl); intro)) | (apply R.is0; (apply R.store; (iterate 6 exact rfl); (focus (repeat' first | exact Upd.head | apply Upd.tail | apply Upd.right); done); exact rfl)) | apply R.nil | (apply T.is; first | (apply T.drawC (id := 3) [0,2] (by decide); ((apply A.tk 0; exact rfl; kernel_rfl; (apply Ok1.move; exact rfl)) <;> (apply A.tk 1; exact rfl; kernel_rfl; (apply Ok1.nilCheck; exact rfl)) <;> (apply A.tk 2; exact rfl; kernel_rfl; (apply Ok1.fieldAddr; (iterate 5 exact rfl))) <;> (apply A.tk 3; exact rfl; kernel_rfl; (apply Ok1.load; exact rfl; (apply Ld.own1; exact rfl; exact rfl; (focus (repeat' first | exact At.head | apply At.tail); done); exact rfl))) <;> ((apply A.tk 4; exact rfl; kernel_rfl; (apply Ok1.neq_f; exact rfl; exact rfl; omega))) <;> (apply A.tk 5; exact rfl; kernel_rfl; (apply Ok1.move; exact rfl)) <;> ((apply A.tkG 6; (iterate 3 exact rfl); kernel_rfl; (apply Ok1.fieldAddr; (iterate 5 exact rfl)))) <;> ((apply A.tkG 7; (iterate 3 exact rfl); kernel_rfl; (apply Ok1.load; exact rfl; (apply Ld.own1; exact rfl; exact rfl; exact At.head; exact rfl)))) <;> ((apply A.tkG 8; (iterate 3 exact rfl); kernel_rfl; (apply Ok1.move; exact rfl))) <;> ((apply A.tkG 9; (iterate 3 exact rfl); kernel_rfl; (apply Ok1.nilCheck; exact rfl))) <;> ((apply A.tkG 10; (iterate 3 exact rfl); kernel_rfl; (apply Ok1.fieldAddr; (iterate 5 exact rfl)))) <;> ((apply A.tkG 11; (iterate 3 exact rfl); kernel_rfl; (apply Ok1.load; exact rfl; (apply Ld.own1; exact rfl; exact rfl; (focus (repeat' first | exact At.head | apply At.tail); done); exact rfl)))) <;> ((apply A.tkG 12; (iterate 3 exact rfl); kernel_rfl; (apply Ok1.neq_f; exact rfl; exact rfl; omega))) <;> (apply A.tk 13; exact rfl; kernel_rfl; (apply Ok1.pick_f; exact rfl; exact rfl)) <;> (apply A.done; kernel_rfl))) | (apply T.drawC (id := 7) [0,1,2] (by decide); ((apply A.tk 0; exact rfl; kernel_rfl; (apply Ok1.load; exact rfl; (apply Ld.ownk; exact rfl; exact rfl; (focus (repeat' first | exact At.head | apply At.tail); done); exact subE_all htl))) <;> (apply A.tk 1; exact rfl; kernel_rfl; (apply Ok1.move; exact rfl)) <;> (apply A.tk 2; exact rfl; kernel_rfl; (apply Ok1.nilCheck; exact rfl)) <;> (apply A.tk 3; exact rfl; kernel_rfl; (apply Ok1.fieldAddr; (iterate 5 exact rfl))) <;> (apply A.tk 4; exact rfl; kernel_rfl; (apply Ok1.load; exact rfl; (apply Ld.own1; exact rfl; exact rfl; (focus (repeat' first | exact At.head | apply At.tail); done); exact rfl))) <;> (apply A.tk 5; exact rfl; kernel_rfl; (apply Ok1.move; exact rfl)) <;> (apply A.tk 6; exact rfl; kernel_rfl; (apply Ok1.nilCheck; exact rfl)) <;> (apply A.tk 7; exact rfl; kernel_rfl; (apply Ok1.fieldAddr; (iterate 5 exact rfl))) <;> (apply A.tk 8; exact rfl; kernel_rfl; (apply Ok1.load; exact rfl; (apply Ld.own1; exact rfl; exact rfl; (focus (repeat' first | exact At.head | apply At.tail); done); exact rfl))) <;> (apply A.tk 9; exact rfl; kernel_rfl; (apply Ok1.fieldAddr; (iterate 5 exact rfl))) <;> (apply A.tk 10; exact rfl; kernel_rfl; (apply Ok1.load; exact rfl; (apply Ld.own1; exact rfl; exact rfl; exact At.head; exact rfl))) <;> (apply A.one 11; kernel_rfl; exact rfl; (((apply R.callE (Li := [MO]) (vs := [.agg ⟨tbl⟩, .pointer (some ⟨bM, 0, none⟩), .int .i64 3, .int .i64 to, .slice p 16 pc]); (iterate 3 exact rfl); (focus (repeat' first | exact Ext.one _ _ | apply Ext.cons); done); intro w1 hw1; exact hwr w1 hw1.chg; rintro v Lo ⟨Lw, ⟨ovw, hovw, rfl, rfl⟩, rfl⟩))); apply R.nil; refine ⟨?_, ?_⟩; (focus (repeat' first | exact trivial | exact At.head | apply At.tail | apply At.right | refine ⟨?_, ?_⟩))) <;> (apply A.tk 12; exact rfl; kernel_rfl; (apply Ok1.move; exact rfl)) <;> (apply A.tk 13; exact rfl; kernel_rfl; (apply Ok1.extract; exact rfl; exact rfl)) <;> (apply A.tk 14; exact rfl; kernel_rfl; (apply Ok1.extract; exact rfl; exact rfl)) <;> (apply A.tk 15; exact rfl; kernel_rfl; (apply Ok1.assign; exact rfl)) <;> (apply A.tk 16; exact rfl; kernel_rfl; (apply Ok1.assign; exact rfl)) <;> (apply A.done; kernel_rfl))) | apply T.seq | apply T.region | apply T.block | apply T.skip | apply T.ret | (apply T.cond_t; exact rfl) | (apply T.cond_f; exact rfl)))
    all_goals (apply RetOk.tt; exact rfl; exact rfl)
    all_goals exact ⟨_, by (focus (repeat' first | exact Ext.one _ _ | exact Ext.here _ _ | apply Keep.cons | apply Keep.last | apply Ext.cons | apply Ext.app); done), .inr (.inl ⟨rfl, rfl, _, ⟨ovw, hovw, rfl, rfl⟩, rfl⟩)⟩
  by_cases h4 : k = 4
  · subst h4
    by_cases h1 : st = 2 ∧ to = sd
    case neg =>
      have hE : jtkE st sd 4 to body = 11 := by unfold jtkE; rw [if_neg (by decide), if_pos rfl, if_pos (by omega)]
      unfold DTake
      rw [hE]
      unfold DN jnC pkC
      generalize MB bM c s boot cnt RR = MO at *
      generalize tabV = tbl at *
      refine enterK (tb := tb) Tryz.func56 rfl Tryz.ntmps56 rfl ?_
      repeat' (first | (apply R.is1; first | (apply R.isBin; (apply R.pure; exact rfl; first | (apply Ok1.eql_t; exact rfl; exact rfl; omega) | (apply Ok1.eql_f; exact rfl; exact rfl; omega))) | (apply R.pure; exact rfl; first | (apply Ok1.fieldAddr; (iterate 5 exact rfl)) | (apply Ok1.load; exact rfl; (apply Ld.own1; exact rfl; exact rfl; exact At.head; exact rfl)) | (apply Ok1.assign; exact rfl)) | (apply R.box; (iterate 3 exact rfl); intro)) | apply R.nil | (apply T.is; first | (apply T.drawC (id := 12) [0,2] (by decide); ((apply A.tk 0; exact rfl; kernel_rfl; (apply Ok1.move; exact rfl)) <;> (apply A.tk 1; exact rfl; kernel_rfl; (apply Ok1.nilCheck; exact rfl)) <;> (apply A.tk 2; exact rfl; kernel_rfl; (apply Ok1.fieldAddr; (iterate 5 exact rfl))) <;> (apply A.tk 3; exact rfl; kernel_rfl; (apply Ok1.load; exact rfl; (apply Ld.own1; exact rfl; exact rfl; (focus (repeat' first | exact At.head | apply At.tail); done); exact rfl))) <;> ((apply A.tk 4; exact rfl; kernel_rfl; ((apply Ok1.neq; exact rfl; exact rfl)); apply A.dec (t := 68); exact rfl; all_goals intro)) <;> (apply A.tk 5; exact rfl; kernel_rfl; (apply Ok1.move; exact rfl)) <;> (first | (apply A.skG 6; (iterate 3 exact rfl); kernel_rfl) | (apply A.tkG 6; (iterate 3 exact rfl); kernel_rfl; (apply Ok1.fieldAddr; (iterate 5 exact rfl)))) <;> (first | (apply A.skG 7; (iterate 3 exact rfl); kernel_rfl) | (apply A.tkG 7; (iterate 3 exact rfl); kernel_rfl; (apply Ok1.load; exact rfl; (apply Ld.own1; exact rfl; exact rfl; exact At.head; exact rfl)))) <;> (first | (apply A.skG 8; (iterate 3 exact rfl); kernel_rfl) | (apply A.tkG 8; (iterate 3 exact rfl); kernel_rfl; (apply Ok1.move; exact rfl))) <;> (first | (apply A.skG 9; (iterate 3 exact rfl); kernel_rfl) | (apply A.tkG 9; (iterate 3 exact rfl); kernel_rfl; (apply Ok1.nilCheck; exact rfl))) <;> (first | (apply A.skG 10; (iterate 3 exact rfl); kernel_rfl) | (apply A.tkG 10; (iterate 3 exact rfl); kernel_rfl; (apply Ok1.fieldAddr; (iterate 5 exact rfl)))) <;> (first | (apply A.skG 11; (iterate 3 exact rfl); kernel_rfl) | (apply A.tkG 11; (iterate 3 exact rfl); kernel_rfl; (apply Ok1.load; exact rfl; (apply Ld.own1; exact rfl; exact rfl; (focus (repeat' first | exact At.head | apply At.tail); done); exact rfl)))) <;> (first | (apply A.skG 12; (iterate 3 exact rfl); kernel_rfl) | (apply A.tkG 12; (iterate 3 exact rfl); kernel_rfl; (apply Ok1.neq_t; exact rfl; exact rfl; omega))) <;> (apply A.tk 13; exact rfl; kernel_rfl; first | (apply Ok1.pick_t; exact rfl; exact rfl) | (apply Ok1.pick_f; exact rfl; exact rfl)) <;> (apply A.done; kernel_rfl))) | apply T.seq | apply T.region | apply T.block | apply T.ret | (apply T.cond_t; exact rfl) | (apply T.cond_f; exact rfl)))
      all_goals (apply RetOk.tt; exact rfl; exact rfl)
      all_goals exact ⟨_, by (focus (repeat' first | exact Keep.nil _ | exact Ext.one _ _ | apply Keep.cons | apply Ext.cons); done), .inl ⟨by decide, rfl, rfl⟩⟩
    obtain ⟨rfl, rfl⟩ := h1
    have hrd := fun w1 (h : Chg (blks [DN bd bM S 2 to la q m cap, MB bM c s boot cnt RR]) w w1) => vjread_ok p n pc body hn hpc (by omega) hbb w1 (hp.chg' h hq)
    by_cases he : (rdJ (R0 body)).2 = 0
    · have hE : jtkE 2 to 4 to body = 0 := by unfold jtkE; rw [if_neg (by decide), if_pos rfl, if_neg (by omega), if_neg (fun h => h he)]
      unfold DTake
      rw [hE]
      generalize rdJ (R0 body) = J at *
      obtain ⟨js, je⟩ := J
      dsimp only at hrd he ⊢
      subst he
      unfold DN jnC at *
      unfold pkC
      generalize MB bM c s boot cnt RR = MO at *
      generalize tabV = tbl at *
      refine enterK (tb := tb) Tryz.func56 rfl Tryz.ntmps56 rfl ?_
      repeat' (first | (apply R.is1; first | (apply R.isBin; (apply R.pure; exact rfl; first | (apply Ok1.eql_t; exact rfl; exact rfl; omega) | (apply Ok1.eql_f; exact rfl; exact rfl; omega) | (apply Ok1.neq_f; exact rfl; exact rfl; omega))) | (apply R.isCall; (apply R.callE (vs := [.slice p n pc]); (iterate 3 exact rfl); exact Ext.none _; intro w1 hw1; exact hrd w1 hw1.chg; rintro v Lo ⟨ovj, hovj, rfl, rfl⟩; rw [slV_eq hovj])) | (apply R.pure; exact rfl; first | (apply Ok1.move; exact rfl) | (apply Ok1.fieldAddr; (iterate 5 exact rfl)) | (apply Ok1.load; exact rfl; (apply Ld.own1; exact rfl; exact rfl; exact At.head; exact rfl)) | (apply Ok1.assign; exact rfl) | (apply Ok1.extract; exact rfl; exact rfl) | (apply Ok1.nilCheck; exact rfl)) | (apply R.box; (iterate 3 exact rfl); intro)) | (apply R.is0; (apply R.store; (iterate 6 exact rfl); (focus (repeat' first | exact Upd.head | apply Upd.tail | apply Upd.right); done); exact rfl)) | apply R.nil | (apply T.is; first | (apply T.drawC (id := 12) [0,2] (by decide); ((apply A.tk 0; exact rfl; kernel_rfl; (apply Ok1.move; exact rfl)) <;> (apply A.tk 1; exact rfl; kernel_rfl; (apply Ok1.nilCheck; exact rfl)) <;> (apply A.tk 2; exact rfl; kernel_rfl; (apply Ok1.fieldAddr; (iterate 5 exact rfl))) <;> (apply A.tk 3; exact rfl; kernel_rfl; (apply Ok1.load; exact rfl; (apply Ld.own1; exact rfl; exact rfl; (focus (repeat' first | exact At.head | apply At.tail); done); exact rfl))) <;> ((apply A.tk 4; exact rfl; kernel_rfl; (apply Ok1.neq_f; exact rfl; exact rfl; omega))) <;> (apply A.tk 5; exact rfl; kernel_rfl; (apply Ok1.move; exact rfl)) <;> ((apply A.tkG 6; (iterate 3 exact rfl); kernel_rfl; (apply Ok1.fieldAddr; (iterate 5 exact rfl)))) <;> ((apply A.tkG 7; (iterate 3 exact rfl); kernel_rfl; (apply Ok1.load; exact rfl; (apply Ld.own1; exact rfl; exact rfl; exact At.head; exact rfl)))) <;> ((apply A.tkG 8; (iterate 3 exact rfl); kernel_rfl; (apply Ok1.move; exact rfl))) <;> ((apply A.tkG 9; (iterate 3 exact rfl); kernel_rfl; (apply Ok1.nilCheck; exact rfl))) <;> ((apply A.tkG 10; (iterate 3 exact rfl); kernel_rfl; (apply Ok1.fieldAddr; (iterate 5 exact rfl)))) <;> ((apply A.tkG 11; (iterate 3 exact rfl); kernel_rfl; (apply Ok1.load; exact rfl; (apply Ld.own1; exact rfl; exact rfl; (focus (repeat' first | exact At.head | apply At.tail); done); exact rfl)))) <;> ((apply A.tkG 12; (iterate 3 exact rfl); kernel_rfl; (apply Ok1.neq_f; exact rfl; exact rfl; omega))) <;> (apply A.tk 13; exact rfl; kernel_rfl; (apply Ok1.pick_f; exact rfl; exact rfl)) <;> (apply A.done; kernel_rfl))) | apply T.seq | apply T.region | apply T.block | apply T.skip | apply T.ret | (apply T.cond_t; exact rfl) | (apply T.cond_f; exact rfl)))
      all_goals (apply RetOk.tt; exact rfl; exact rfl)
      all_goals exact ⟨_, by (focus (repeat' first | exact Ext.one _ _ | exact Ext.here _ _ | apply Keep.cons | apply Keep.last | apply Ext.cons | apply Ext.app); done), .inr (.inr ⟨rfl, rfl, rfl, ovj, hovj, rfl⟩)⟩
    · have hE : jtkE 2 to 4 to body = 3 := by unfold jtkE; rw [if_neg (by decide), if_pos rfl, if_neg (by omega), if_pos he]
      unfold DTake
      rw [hE]
      generalize rdJ (R0 body) = J at *
      obtain ⟨js, je⟩ := J
      dsimp only at hrd he
      unfold DN jnC at *
      unfold pkC
      generalize MB bM c s boot cnt RR = MO at *
      generalize tabV = tbl at *
      refine enterK (tb := tb) Tryz.func56 rfl Tryz.ntmps56 rfl ?_
      repeat' (first | (apply R.is1; first | (apply R.isBin; (apply R.pure; exact rfl; first | (apply Ok1.eql_t; exact rfl; exact rfl; omega) | (apply Ok1.eql_f; exact rfl; exact rfl; omega) | (apply Ok1.neq_t; exact rfl; exact rfl; omega))) | (apply R.isCall; (apply R.callE (vs := [.slice p n pc]); (iterate 3 exact rfl); exact Ext.none _; intro w1 hw1; exact hrd w1 hw1.chg; rintro v Lo ⟨ovj, hovj, rfl, rfl⟩; rw [slV_eq hovj])) | (apply R.pure; exact rfl; first | (apply Ok1.move; exact rfl) | (apply Ok1.fieldAddr; (iterate 5 exact rfl)) | (apply Ok1.load; exact rfl; (apply Ld.own1; exact rfl; exact rfl; exact At.head; exact rfl)) | (apply Ok1.assign; exact rfl) | (apply Ok1.extract; exact rfl; exact rfl)) | (apply R.box; (iterate 3 exact rfl); intro)) | apply R.nil | (apply T.is; first | (apply T.drawC (id := 12) [0,2] (by decide); ((apply A.tk 0; exact rfl; kernel_rfl; (apply Ok1.move; exact rfl)) <;> (apply A.tk 1; exact rfl; kernel_rfl; (apply Ok1.nilCheck; exact rfl)) <;> (apply A.tk 2; exact rfl; kernel_rfl; (apply Ok1.fieldAddr; (iterate 5 exact rfl))) <;> (apply A.tk 3; exact rfl; kernel_rfl; (apply Ok1.load; exact rfl; (apply Ld.own1; exact rfl; exact rfl; (focus (repeat' first | exact At.head | apply At.tail); done); exact rfl))) <;> ((apply A.tk 4; exact rfl; kernel_rfl; (apply Ok1.neq_f; exact rfl; exact rfl; omega))) <;> (apply A.tk 5; exact rfl; kernel_rfl; (apply Ok1.move; exact rfl)) <;> ((apply A.tkG 6; (iterate 3 exact rfl); kernel_rfl; (apply Ok1.fieldAddr; (iterate 5 exact rfl)))) <;> ((apply A.tkG 7; (iterate 3 exact rfl); kernel_rfl; (apply Ok1.load; exact rfl; (apply Ld.own1; exact rfl; exact rfl; exact At.head; exact rfl)))) <;> ((apply A.tkG 8; (iterate 3 exact rfl); kernel_rfl; (apply Ok1.move; exact rfl))) <;> ((apply A.tkG 9; (iterate 3 exact rfl); kernel_rfl; (apply Ok1.nilCheck; exact rfl))) <;> ((apply A.tkG 10; (iterate 3 exact rfl); kernel_rfl; (apply Ok1.fieldAddr; (iterate 5 exact rfl)))) <;> ((apply A.tkG 11; (iterate 3 exact rfl); kernel_rfl; (apply Ok1.load; exact rfl; (apply Ld.own1; exact rfl; exact rfl; (focus (repeat' first | exact At.head | apply At.tail); done); exact rfl)))) <;> ((apply A.tkG 12; (iterate 3 exact rfl); kernel_rfl; (apply Ok1.neq_f; exact rfl; exact rfl; omega))) <;> (apply A.tk 13; exact rfl; kernel_rfl; (apply Ok1.pick_f; exact rfl; exact rfl)) <;> (apply A.done; kernel_rfl))) | apply T.seq | apply T.region | apply T.block | apply T.skip | apply T.ret | (apply T.cond_t; exact rfl) | (apply T.cond_f; exact rfl)))
      all_goals (apply RetOk.tt; exact rfl; exact rfl)
      all_goals exact ⟨_, by (focus (repeat' first | exact Keep.nil _ | exact Ext.one _ _ | apply Keep.cons | apply Ext.cons | apply Ext.app); done), .inl ⟨by decide, rfl, rfl⟩⟩
  have hE : jtkE st sd k to body = 13 := by unfold jtkE; rw [if_neg h2, if_neg h4]
  unfold DTake
  rw [hE]
  unfold DN jnC pkC
  generalize MB bM c s boot cnt RR = MO at *
  generalize tabV = tbl at *
  refine enterK (tb := tb) Tryz.func56 rfl Tryz.ntmps56 rfl ?_
  repeat' (first | (apply R.is1; first | (apply R.isBin; (apply R.pure; exact rfl; (apply Ok1.eql_f; exact rfl; exact rfl; omega))) | (apply R.pure; exact rfl; first | (apply Ok1.fieldAddr; (iterate 5 exact rfl)) | (apply Ok1.load; exact rfl; (apply Ld.own1; exact rfl; exact rfl; exact At.head; exact rfl)) | (apply Ok1.assign; exact rfl)) | (apply R.box; (iterate 3 exact rfl); intro)) | apply R.nil | (apply T.is; first | apply T.seq | apply T.region | apply T.block | apply T.skip | apply T.ret | (apply T.cond_f; exact rfl)))
  all_goals (apply RetOk.tt; exact rfl; exact rfl)
  all_goals exact ⟨_, by (focus (repeat' first | exact Keep.nil _ | exact Ext.one _ _ | apply Keep.cons | apply Ext.cons); done), .inl ⟨by decide, rfl, rfl⟩⟩
theorem same18_ok (p : Option Addr) (cp : Nat) (xs : List Cl) (q : Option Addr) (cq : Nat) (ys : List Cl) (hl : xs.length ≤ 100000) (w : World) (hp : RdSl w p Cl.v xs) (hq : RdSl w q Cl.v ys) : CallW Tryz.prog 63 [.slice p xs.length cp, .slice q ys.length cq] w fun v _ => v = .bool (decide (xs = ys)) := by
  by_cases hne : xs.length = ys.length
  case neg =>
    rw [decide_eq_false (fun h => hne (by rw [h]))]
    have hi : (xs.length : Int) ≠ ys.length := by omega
    refine enterW (tb := tb) Tryz.func63 rfl Tryz.ntmps63 rfl ?_
    repeat' (first | (apply R.is1; first | (apply R.isBin; (apply R.pure; exact rfl; (apply Ok1.neq_t; exact rfl; exact rfl; omega))) | (apply R.isCall; (apply R.pure; exact rfl; (apply Ok1.lenS; (iterate 3 exact rfl)))) | (apply R.pure; exact rfl; first | (apply Ok1.move; exact rfl) | (apply Ok1.assign; exact rfl))) | apply R.nil | (apply T.is; first | apply T.seq | apply T.region | apply T.ret | (apply T.cond_t; exact rfl)))
    (apply RetOk.t; exact rfl)
    rfl
  refine enterW (tb := tb) Tryz.func63 rfl Tryz.ntmps63 rfl ?_
  repeat' (first | (apply R.is1; first | (apply R.isBin; (apply R.pure; exact rfl; (apply Ok1.neq_f; exact rfl; exact rfl; omega))) | (apply R.isCall; (apply R.pure; exact rfl; (apply Ok1.lenS; (iterate 3 exact rfl)))) | (apply R.pure; exact rfl; first | (apply Ok1.move; exact rfl) | (apply Ok1.assign; exact rfl))) | apply R.nil | (apply T.is; first | apply T.seq | apply T.region | apply T.block | apply T.skip | (apply T.cond_f; exact rfl)))
  apply T.loopK (α := Nat) (I := fun i => i ≤ xs.length ∧ xs.take i = ys.take i) (σi := fun i => [(0, .slice p xs.length cp), (1, .slice q ys.length cq), (5, .int .i64 i)]) (Li := fun _ => []) (μ := fun i => xs.length - i) (i0 := 0)
  · exact ⟨Nat.zero_le _, by simp⟩
  · exact ⟨rfl, rfl, rfl, trivial⟩
  · exact Keep.nil _
  · rintro i ⟨hi, hnd⟩
    rcases Nat.lt_or_ge i xs.length with hlt | hge
    · obtain ⟨c, hc⟩ : ∃ c, xs[i]? = some c := ⟨_, List.getElem?_eq_getElem (by omega)⟩
      obtain ⟨d, hd⟩ : ∃ c, ys[i]? = some c := ⟨_, List.getElem?_eq_getElem (by omega)⟩
      obtain ⟨b, o, hpe, H⟩ := hp.at hc
      replace H := H 4 Cl.v_len4
      obtain ⟨b', o', hpe', H'⟩ := hq.at hd
      replace H' := H' 4 Cl.v_len4
      have hof := of5_ok c.id c.roles c.exp c.ser
      have hcd : c.v ≠ d.v ↔ decide (c ≠ d) = true := by rw [decide_eq_true_iff]; exact not_congr clv_inj9
      by_cases he : c = d
      · rw [decide_eq_false (fun h => h he)] at hcd
        repeat' (first | (apply R.is1; first | (apply R.isBin; (apply R.pure; exact rfl; first | (apply Ok1.add64; exact rfl; exact rfl; omega; omega) | (apply Ok1.lss_t; exact rfl; exact rfl; omega))) | (apply R.isCall; (apply R.pure; exact rfl; (apply Ok1.lenS; (iterate 3 exact rfl)))) | (apply R.pure; exact rfl; first | (apply Ok1.move; exact rfl) | (apply Ok1.assign; exact rfl))) | apply R.nil | (apply T.is; first | (apply T.draw (id := 6); ((apply A.tk 0; exact rfl; kernel_rfl; (apply Ok1.move; exact rfl)) <;> (apply A.tk 1; exact rfl; kernel_rfl; (apply Ok1.move; exact rfl)) <;> (apply A.tk 2; exact rfl; kernel_rfl; (apply Ok1.indexAddrP; (iterate 4 exact rfl); (exact hpe); exact rfl; omega; omega)) <;> (apply A.tk 3; exact rfl; kernel_rfl; (apply Ok1.load; exact rfl; (apply Ld.rowk0 H; exact rfl; exact List.not_mem_nil; (iterate 3 exact rfl)))) <;> (apply A.tk 5; exact rfl; kernel_rfl; (apply Ok1.move; exact rfl)) <;> (apply A.tk 6; exact rfl; kernel_rfl; (apply Ok1.move; exact rfl)) <;> (apply A.tk 7; exact rfl; kernel_rfl; (apply Ok1.indexAddrP; (iterate 4 exact rfl); (exact hpe'); exact rfl; omega; omega)) <;> (apply A.tk 8; exact rfl; kernel_rfl; (apply Ok1.load; exact rfl; (apply Ld.rowk0 H'; exact rfl; exact List.not_mem_nil; (iterate 3 exact rfl)))) <;> (apply A.one 4; kernel_rfl; exact rfl; ((apply R.callP rfl rfl rfl hof)); apply R.nil; refine ⟨?_, ?_⟩; (focus ((repeat' (exact trivial))))) <;> ((apply A.tk 9; exact rfl; kernel_rfl; (apply Ok1.neqFz (xs := c.v) (ys := d.v) (q := false); (iterate 7 exact rfl); exact hcd))) <;> (apply A.done; kernel_rfl))) | apply T.seq | apply T.region | apply T.block | apply T.skip | (apply T.cond_t; exact rfl) | (apply T.cond_f; exact rfl)))
        all_goals refine ⟨i + 1, ⟨by omega, ?_⟩, by omega, ⟨rfl, rfl, rfl, trivial⟩, Keep.nil _⟩
        all_goals rw [List.take_add_one, List.take_add_one, hc, hd, hnd, he]
      · rw [decide_eq_true he] at hcd
        repeat' (first | (apply R.is1; first | (apply R.isBin; (apply R.pure; exact rfl; (apply Ok1.lss_t; exact rfl; exact rfl; omega))) | (apply R.isCall; (apply R.pure; exact rfl; (apply Ok1.lenS; (iterate 3 exact rfl)))) | (apply R.pure; exact rfl; first | (apply Ok1.move; exact rfl) | (apply Ok1.assign; exact rfl))) | apply R.nil | (apply T.is; first | (apply T.draw (id := 6); ((apply A.tk 0; exact rfl; kernel_rfl; (apply Ok1.move; exact rfl)) <;> (apply A.tk 1; exact rfl; kernel_rfl; (apply Ok1.move; exact rfl)) <;> (apply A.tk 2; exact rfl; kernel_rfl; (apply Ok1.indexAddrP; (iterate 4 exact rfl); (exact hpe); exact rfl; omega; omega)) <;> (apply A.tk 3; exact rfl; kernel_rfl; (apply Ok1.load; exact rfl; (apply Ld.rowk0 H; exact rfl; exact List.not_mem_nil; (iterate 3 exact rfl)))) <;> (apply A.tk 5; exact rfl; kernel_rfl; (apply Ok1.move; exact rfl)) <;> (apply A.tk 6; exact rfl; kernel_rfl; (apply Ok1.move; exact rfl)) <;> (apply A.tk 7; exact rfl; kernel_rfl; (apply Ok1.indexAddrP; (iterate 4 exact rfl); (exact hpe'); exact rfl; omega; omega)) <;> (apply A.tk 8; exact rfl; kernel_rfl; (apply Ok1.load; exact rfl; (apply Ld.rowk0 H'; exact rfl; exact List.not_mem_nil; (iterate 3 exact rfl)))) <;> (apply A.one 4; kernel_rfl; exact rfl; ((apply R.callP rfl rfl rfl hof)); apply R.nil; refine ⟨?_, ?_⟩; (focus ((repeat' (exact trivial))))) <;> ((apply A.tk 9; exact rfl; kernel_rfl; (apply Ok1.neqFz (xs := c.v) (ys := d.v) (q := true); (iterate 7 exact rfl); exact hcd))) <;> (apply A.done; kernel_rfl))) | apply T.seq | apply T.region | apply T.block | apply T.skip | apply T.ret | (apply T.cond_t; exact rfl)))
        all_goals (apply RetOk.t; exact rfl)
        all_goals
          rw [decide_eq_false]
          intro h
          rw [h, hd] at hc
          exact he (Option.some.inj hc).symm
    · have him : i = xs.length := by omega
      subst him
      rw [List.take_length, List.take_of_length_le (by omega)] at hnd
      repeat' (first | (apply R.is1; first | (apply R.isBin; (apply R.pure; exact rfl; (apply Ok1.lss_f; exact rfl; exact rfl; omega))) | (apply R.isCall; (apply R.pure; exact rfl; (apply Ok1.lenS; (iterate 3 exact rfl)))) | (apply R.pure; exact rfl; first | (apply Ok1.move; exact rfl) | (apply Ok1.assign; exact rfl))) | apply R.nil | (apply T.is; first | apply T.seq | apply T.region | apply T.exit | apply T.ret | (apply T.cond_f; exact rfl)))
      (apply RetOk.t; exact rfl)
      rw [decide_eq_true hnd]
theorem fill_pk (k : Int) (c : Cl) (to a b : Int) (p : Option Addr) (n cap : Nat) {t : List Int} (ht : t.length = 32) (f0 f1 f2 f3 f4 f5 : Nat) : fillE (fldPl [(f0, 0, 1), (f1, 1, 4), (f2, 5, 1), (f3, 6, 2), (f4, 8, 1), (f5, 9, 32)]) (pkC 0 cl0 0 0 0 none 0 0 (zI 32)) [(0, .int .i64 k), (1, .agg ⟨clC c⟩), (2, .int .i64 to), (3, .agg ⟨[.int .i64 a, .int .i64 b]⟩), (4, .slice p n cap), (5, .agg ⟨u8s t⟩)] = some (pkC k c to a b p n cap t) := by
  obtain ⟨x0, x1, x2, x3, x4, x5, x6, x7, x8, x9, x10, x11, x12, x13, x14, x15, x16, x17, x18, x19, x20, x21, x22, x23, x24, x25, x26, x27, x28, x29, x30, x31, rfl⟩ := list32 t ht
  rfl
theorem nof14_ok (a b : Int) : CallP Tryz.prog 141 [.agg ⟨[.int .i64 a, .int .i64 b]⟩] (.agg ⟨[.int .i64 a, .int .i64 b]⟩) := by
  refine enterP (tb := tb) Tryz.func141 rfl Tryz.ntmps141 rfl fun w => ?_
  repeat' (first | (apply R.is1; first | (apply R.pure; exact rfl; first | (apply Ok1.fieldAddr; (iterate 5 exact rfl)) | (apply Ok1.load; exact rfl; (apply Ld.own1; exact rfl; exact rfl; (focus (repeat' first | exact At.head | apply At.tail); done); exact rfl)) | (apply Ok1.build; (iterate 5 exact rfl))) | (apply R.box; (iterate 3 exact rfl); intro) | (apply R.alloc; (iterate 3 exact rfl); intro)) | (apply R.is0; (apply R.store; (iterate 6 exact rfl); exact Upd.head; exact rfl)) | apply R.nil | (apply T.is; first | apply T.seq | apply T.region | apply T.ret))
  (apply RetOk.c; exact rfl; ((apply Ld.ownk; exact rfl; exact rfl; exact At.head; exact rfl)))
  rfl
theorem pof14_ok (k : Int) (c : Cl) (to a b : Int) (p : Option Addr) (n cap : Nat) (t : List Int) (ht : t.length = 32) (w : World) :
    CallM Tryz.prog 57 [.agg ⟨pkC k c to a b p n cap t⟩] [] w fun v L => v = .agg ⟨pkC k c to a b p n cap t⟩ ∧ L = [] := by
  have hof := of5_ok c.id c.roles c.exp c.ser
  have hno := nof14_ok a b
  have hf := fun f0 f1 f2 f3 f4 f5 => fill_pk k c to a b p n cap ht f0 f1 f2 f3 f4 f5
  have htg := pk_tag k c to a b p n cap ht
  have hl := pk_len k c to a b p n cap ht
  have ho := pk_one k c to a b p n cap t
  generalize hPK : pkC k c to a b p n cap t = PK at *
  have g0 : PK[0]? = some (.int .i64 k) := by rw [← hPK]; rfl
  have g1 : subE PK 1 4 = some (clC c) := by rw [← hPK]; rfl
  have g2 : PK[5]? = some (.int .i64 to) := by rw [← hPK]; rfl
  have g3 : subE PK 6 2 = some [.int .i64 a, .int .i64 b] := by rw [← hPK]; rfl
  have g4 : PK[8]? = some (.slice p n cap) := by rw [← hPK]; rfl
  clear hPK
  refine enterK (tb := tb) Tryz.func57 rfl Tryz.ntmps57 rfl ?_
  repeat' (first | (apply R.is1; first | (apply R.box; (iterate 3 exact rfl); intro) | (apply R.alloc; (iterate 3 exact rfl); intro)) | apply R.nil | (apply T.is; first | (apply T.drawC (id := 1) [1] (by decide); ((apply A.tk 0; exact rfl; kernel_rfl; (apply Ok1.fieldAddr; (iterate 5 exact rfl))) <;> (apply A.tk 1; exact rfl; kernel_rfl; (apply Ok1.load; exact rfl; (apply Ld.own1; exact rfl; exact rfl; exact At.head; exact g0))) <;> (apply A.tk 2; exact rfl; kernel_rfl; (apply Ok1.fieldAddr; (iterate 5 exact rfl))) <;> (apply A.tk 3; exact rfl; kernel_rfl; (apply Ok1.load; exact rfl; (apply Ld.ownk; exact rfl; exact rfl; exact At.head; exact g1))) <;> (apply A.tk 5; exact rfl; kernel_rfl; (apply Ok1.fieldAddr; (iterate 5 exact rfl))) <;> (apply A.tk 6; exact rfl; kernel_rfl; (apply Ok1.load; exact rfl; (apply Ld.own1; exact rfl; exact rfl; exact At.head; exact g2))) <;> (apply A.tk 7; exact rfl; kernel_rfl; (apply Ok1.fieldAddr; (iterate 5 exact rfl))) <;> (apply A.tk 8; exact rfl; kernel_rfl; (apply Ok1.load; exact rfl; (apply Ld.ownk; exact rfl; exact rfl; exact At.head; exact g3))) <;> (apply A.tk 10; exact rfl; kernel_rfl; (apply Ok1.fieldAddr; (iterate 5 exact rfl))) <;> (apply A.tk 11; exact rfl; kernel_rfl; (apply Ok1.load; exact rfl; (apply Ld.own1; exact rfl; exact rfl; exact At.head; exact g4))) <;> (apply A.tk 12; exact rfl; kernel_rfl; (apply Ok1.fieldAddr; (iterate 5 exact rfl))) <;> (apply A.tk 13; exact rfl; kernel_rfl; (apply Ok1.load; exact rfl; (apply Ld.ownk; exact rfl; exact rfl; exact At.head; exact htg))) <;> (apply A.one 4; kernel_rfl; exact rfl; ((apply R.callP rfl rfl rfl hof)); apply R.nil; refine ⟨?_, ?_⟩; (focus (repeat' first | exact trivial | exact At.head | apply At.tail | refine ⟨?_, ?_⟩))) <;> (apply A.one 9; kernel_rfl; exact rfl; ((apply R.callP rfl rfl rfl hno)); apply R.nil; refine ⟨?_, ?_⟩; (focus (repeat' first | exact trivial | exact At.head | apply At.tail | refine ⟨?_, ?_⟩))) <;> (apply A.tk 14; exact rfl; kernel_rfl; (apply Ok1.build; (iterate 4 exact rfl); exact hf _ _ _ _ _ _)) <;> (apply A.one 15; kernel_rfl; exact rfl; (((apply R.store; (iterate 4 exact rfl); exact hl; exact ho; exact Upd.head; exact setE_all hl))); apply R.nil; refine ⟨?_, ?_⟩; (focus (repeat' first | exact trivial | exact At.head | apply At.tail | refine ⟨?_, ?_⟩))) <;> (apply A.done; kernel_rfl))) | apply T.seq | apply T.region | apply T.ret))
  all_goals (apply RetOk.c; exact rfl; (apply Ld.ownk; exact rfl; exact rfl; exact At.head; exact subE_all hl))
  all_goals exact ⟨_, by (focus ((repeat' (exact Keep.nil _)); done)), rfl, rfl⟩
theorem pto14_ok (k : Int) (c : Cl) (to a b : Int) (p : Option Addr) (n cap : Nat) (xs t : List Int) (ht : t.length = 32) (hn : n = xs.length) (hcap : n ≤ cap) (w : World) (hp : RdSl w p u8V xs) :
    CallM Tryz.prog 54 [.agg ⟨pkC k c to a b p n cap t⟩] [] w fun v L => ∃ ov, OvOk 1 ov (min n 520) (u8s (xs.take (min n 520))) ∧ v = .agg ⟨pkC k c to a b (ovp ov) (min n 520) (ovc ov (min n 520)) t⟩ ∧ L = blkL 5 ov (u8s (xs.take (min n 520))) := by
  have hto := to5_ok c.id c.roles c.exp c.ser
  have hno := nto_ok a b
  have htg := pk_tag k c to a b p n cap ht
  have hl := pk_len k c to a b p n cap ht
  have e0 : min (n : Int) 520 = ((min n 520 : Nat) : Int) := by omega
  have hl2 : (xs.take (min n 520)).length = min n 520 := by rw [List.length_take]; omega
  have hrd := fun w1 (h : Chg [] w w1) => (hp.pre u8V_len (min n 520)).chg' h (fun _ => Off.nil _)
  have hf := fun q m d f0 f1 f2 f3 f4 f5 => fill_pk k c to a b q m d ht f0 f1 f2 f3 f4 f5
  have hlq := fun q m d => pk_len k c to a b q m d ht
  have hoq := fun q m d => pk_one k c to a b q m d t
  have hmn : min n 520 ≤ 520 ∧ min n 520 ≤ n := by omega
  generalize xs.take (min n 520) = ys at *
  generalize min n 520 = m at *
  generalize hPK : pkC k c to a b p n cap t = PK at *
  have g0 : PK[0]? = some (.int .i64 k) := by rw [← hPK]; rfl
  have g1 : subE PK 1 4 = some (clC c) := by rw [← hPK]; rfl
  have g2 : PK[5]? = some (.int .i64 to) := by rw [← hPK]; rfl
  have g3 : subE PK 6 2 = some [.int .i64 a, .int .i64 b] := by rw [← hPK]; rfl
  have g4 : PK[8]? = some (.slice p n cap) := by rw [← hPK]; rfl
  clear hPK
  refine enterK (tb := tb) Tryz.func54 rfl Tryz.ntmps54 rfl ?_
  repeat' (first | (apply R.is1; first | (apply R.box; (iterate 3 exact rfl); intro) | (apply R.alloc; (iterate 3 exact rfl); intro)) | apply R.nil | (apply T.is; first | (apply T.drawC (id := 1) [1] (by decide); ((apply A.tk 0; exact rfl; kernel_rfl; (apply Ok1.fieldAddr; (iterate 5 exact rfl))) <;> (apply A.tk 1; exact rfl; kernel_rfl; (apply Ok1.load; exact rfl; (apply Ld.own1; exact rfl; exact rfl; exact At.head; exact g0))) <;> (apply A.tk 2; exact rfl; kernel_rfl; (apply Ok1.fieldAddr; (iterate 5 exact rfl))) <;> (apply A.tk 3; exact rfl; kernel_rfl; (apply Ok1.load; exact rfl; (apply Ld.ownk; exact rfl; exact rfl; exact At.head; exact g1))) <;> (apply A.tk 5; exact rfl; kernel_rfl; (apply Ok1.fieldAddr; (iterate 5 exact rfl))) <;> (apply A.tk 6; exact rfl; kernel_rfl; (apply Ok1.load; exact rfl; (apply Ld.own1; exact rfl; exact rfl; exact At.head; exact g2))) <;> (apply A.tk 7; exact rfl; kernel_rfl; (apply Ok1.fieldAddr; (iterate 5 exact rfl))) <;> (apply A.tk 8; exact rfl; kernel_rfl; (apply Ok1.load; exact rfl; (apply Ld.ownk; exact rfl; exact rfl; exact At.head; exact g3))) <;> (apply A.tk 11; exact rfl; kernel_rfl; (apply Ok1.fieldAddr; (iterate 5 exact rfl))) <;> (apply A.tk 12; exact rfl; kernel_rfl; (apply Ok1.load; exact rfl; (apply Ld.own1; exact rfl; exact rfl; exact At.head; exact g4))) <;> (apply A.tk 13; exact rfl; kernel_rfl; (apply Ok1.fieldAddr; (iterate 5 exact rfl))) <;> (apply A.tk 14; exact rfl; kernel_rfl; (apply Ok1.load; exact rfl; (apply Ld.own1; exact rfl; exact rfl; exact At.head; exact g4))) <;> (apply A.tk 15; exact rfl; kernel_rfl; (apply Ok1.lenS; (iterate 3 exact rfl))) <;> (apply A.tk 16; exact rfl; kernel_rfl; (apply Ok1.min2E; exact rfl; exact rfl; exact e0)) <;> (apply A.tk 17; exact rfl; kernel_rfl; (apply Ok1.preR (i := m); (iterate 5 exact rfl); omega)) <;> (apply A.tk 19; exact rfl; kernel_rfl; (apply Ok1.fieldAddr; (iterate 5 exact rfl))) <;> (apply A.tk 20; exact rfl; kernel_rfl; (apply Ok1.load; exact rfl; (apply Ld.ownk; exact rfl; exact rfl; exact At.head; exact htg))) <;> (apply A.two 4 10; kernel_rfl; exact rfl; exact rfl; rotate_left 1; (focus (((((apply R.buildSlice0; (iterate 4 exact rfl); intro b0))); apply R.nil; refine ⟨?_, ?_⟩; (focus (repeat' first | exact trivial | exact At.head | apply At.tail | refine ⟨?_, ?_⟩))) <;> (apply A.one 4; kernel_rfl; exact rfl; ((apply R.callP rfl rfl rfl hto)); apply R.nil; refine ⟨?_, ?_⟩; (focus (repeat' first | exact trivial | exact At.head | apply At.tail | refine ⟨?_, ?_⟩))) <;> (apply A.one 9; kernel_rfl; exact rfl; ((apply R.callP rfl rfl rfl hno)); apply R.nil; refine ⟨?_, ?_⟩; (focus (repeat' first | exact trivial | exact At.head | apply At.tail | refine ⟨?_, ?_⟩))) <;> (apply A.one 18; kernel_rfl; exact rfl; (((apply R.appendRd (xs := ys) (v := u8V) (sz := 1) (ov := some (_, 0, [])) (n := 0) (m := m) (old := []); (iterate 12 exact rfl); exact ⟨rfl, rfl⟩; (focus ((repeat' (exact Ext.one _ _)); done)); exact hl2.symm; exact u8V_len; exact rfl; (intro w1 hw1; exact hrd w1 hw1.chg); (focus (rw [fl_u8]; exact u8s_one _)); omega; intro ov1 hov1 hsome; rw [Nat.zero_add, List.nil_append, fl_u8]; rw [Nat.zero_add, List.nil_append, fl_u8] at hov1; rw [slV_eq hov1]))); apply R.nil; refine ⟨?_, ?_⟩; (focus (repeat' first | exact trivial | exact At.head | apply At.tail | apply At.right | refine ⟨?_, ?_⟩))) <;> (apply A.tk 21; exact rfl; kernel_rfl; (apply Ok1.build; (iterate 4 exact rfl); exact hf _ _ _ _ _ _ _ _ _)) <;> (apply A.one 22; kernel_rfl; exact rfl; (((apply R.store; (iterate 4 exact rfl); exact hlq _ _ _; exact hoq _ _ _; (focus (repeat' first | exact Upd.head | apply Upd.right); done); exact setE_all (hlq _ _ _)))); apply R.nil; refine ⟨?_, ?_⟩; (focus (repeat' first | exact trivial | exact At.head | apply At.tail | apply At.right | refine ⟨?_, ?_⟩))) <;> (apply A.done; kernel_rfl))); rotate_right 1; (focus ((((apply R.callP rfl rfl rfl hto)); apply R.nil; refine ⟨?_, ?_⟩; (focus (repeat' first | exact trivial | exact At.head | apply At.tail | refine ⟨?_, ?_⟩))) <;> (apply A.two 9 10; kernel_rfl; exact rfl; exact rfl; rotate_left 1; (focus (((((apply R.buildSlice0; (iterate 4 exact rfl); intro b0))); apply R.nil; refine ⟨?_, ?_⟩; (focus (repeat' first | exact trivial | exact At.head | apply At.tail | refine ⟨?_, ?_⟩))) <;> (apply A.one 9; kernel_rfl; exact rfl; ((apply R.callP rfl rfl rfl hno)); apply R.nil; refine ⟨?_, ?_⟩; (focus (repeat' first | exact trivial | exact At.head | apply At.tail | refine ⟨?_, ?_⟩))) <;> (apply A.one 18; kernel_rfl; exact rfl; (((apply R.appendRd (xs := ys) (v := u8V) (sz := 1) (ov := some (_, 0, [])) (n := 0) (m := m) (old := []); (iterate 12 exact rfl); exact ⟨rfl, rfl⟩; (focus ((repeat' (exact Ext.one _ _)); done)); exact hl2.symm; exact u8V_len; exact rfl; (intro w1 hw1; exact hrd w1 hw1.chg); (focus (rw [fl_u8]; exact u8s_one _)); omega; intro ov1 hov1 hsome; rw [Nat.zero_add, List.nil_append, fl_u8]; rw [Nat.zero_add, List.nil_append, fl_u8] at hov1; rw [slV_eq hov1]))); apply R.nil; refine ⟨?_, ?_⟩; (focus (repeat' first | exact trivial | exact At.head | apply At.tail | apply At.right | refine ⟨?_, ?_⟩))) <;> (apply A.tk 21; exact rfl; kernel_rfl; (apply Ok1.build; (iterate 4 exact rfl); exact hf _ _ _ _ _ _ _ _ _)) <;> (apply A.one 22; kernel_rfl; exact rfl; (((apply R.store; (iterate 4 exact rfl); exact hlq _ _ _; exact hoq _ _ _; (focus (repeat' first | exact Upd.head | apply Upd.right); done); exact setE_all (hlq _ _ _)))); apply R.nil; refine ⟨?_, ?_⟩; (focus (repeat' first | exact trivial | exact At.head | apply At.tail | apply At.right | refine ⟨?_, ?_⟩))) <;> (apply A.done; kernel_rfl))); rotate_right 1; (focus ((((apply R.callP rfl rfl rfl hno)); apply R.nil; refine ⟨?_, ?_⟩; (focus (repeat' first | exact trivial | exact At.head | apply At.tail | refine ⟨?_, ?_⟩))) <;> (apply A.one 10; kernel_rfl; exact rfl; (((apply R.buildSlice0; (iterate 4 exact rfl); intro b0))); apply R.nil; refine ⟨?_, ?_⟩; (focus (repeat' first | exact trivial | exact At.head | apply At.tail | refine ⟨?_, ?_⟩))) <;> (apply A.one 18; kernel_rfl; exact rfl; (((apply R.appendRd (xs := ys) (v := u8V) (sz := 1) (ov := some (_, 0, [])) (n := 0) (m := m) (old := []); (iterate 12 exact rfl); exact ⟨rfl, rfl⟩; (focus ((repeat' (exact Ext.one _ _)); done)); exact hl2.symm; exact u8V_len; exact rfl; (intro w1 hw1; exact hrd w1 hw1.chg); (focus (rw [fl_u8]; exact u8s_one _)); omega; intro ov1 hov1 hsome; rw [Nat.zero_add, List.nil_append, fl_u8]; rw [Nat.zero_add, List.nil_append, fl_u8] at hov1; rw [slV_eq hov1]))); apply R.nil; refine ⟨?_, ?_⟩; (focus (repeat' first | exact trivial | exact At.head | apply At.tail | apply At.right | refine ⟨?_, ?_⟩))) <;> (apply A.tk 21; exact rfl; kernel_rfl; (apply Ok1.build; (iterate 4 exact rfl); exact hf _ _ _ _ _ _ _ _ _)) <;> (apply A.one 22; kernel_rfl; exact rfl; (((apply R.store; (iterate 4 exact rfl); exact hlq _ _ _; exact hoq _ _ _; (focus (repeat' first | exact Upd.head | apply Upd.right); done); exact setE_all (hlq _ _ _)))); apply R.nil; refine ⟨?_, ?_⟩; (focus (repeat' first | exact trivial | exact At.head | apply At.tail | apply At.right | refine ⟨?_, ?_⟩))) <;> (apply A.done; kernel_rfl))))))))) | apply T.seq | apply T.region | apply T.ret))
  all_goals (apply RetOk.c; exact rfl; (apply Ld.ownk; exact rfl; exact rfl; (focus (repeat' first | exact At.head | apply At.right); done); exact subE_all (hlq _ _ _)))
  all_goals exact ⟨_, by (focus (repeat' first | exact Ext.here _ _ | apply Keep.last); done), ov1, hov1, rfl, rfl⟩
theorem jothers_ok (bj bc : Nat) (S st sd la : Int) (q : Option Addr) (m cap : Nat) (os : List Cl) (hm : m = os.length) (hm2 : m ≤ 1000) (w : World) (h : ∃ e f, w.heap[bj]? = some (.cells ⟨jnC bc S st sd la q m cap⟩ e f)) (hr : RdSl w q Cl.v os) : CallM Tryz.prog 64 [.pointer (some ⟨bj, 0, none⟩)] [] w fun v L => ∃ ov, OvOk 4 ov m (fl Cl.v os) ∧ v = .slice (ovp ov) m (ovc ov m) ∧ L = blkL 97 ov (fl Cl.v os) := by
  obtain ⟨e, f, h⟩ := h
  unfold jnC at h
  have hcl := fun w1 (hc : Chg [] w w1) => cloneC_ok q m cap os hm (by omega) w1 (hr.chg' hc (fun _ => Off.nil _))
  refine enterK (tb := tb) Tryz.func64 rfl Tryz.ntmps64 rfl ?_
  repeat' (first | (apply R.is1; first | (apply R.isBin; (apply R.pure; exact rfl; (apply Ok1.eqlP; (iterate 5 exact rfl)))) | (apply R.isCall; (apply R.callE (vs := [.slice q m cap]); (iterate 3 exact rfl); exact Ext.none _; intro w1 hw1; exact hcl w1 hw1.chg; rintro v Lo ⟨ov, hov, rfl, rfl⟩; rw [slV_eq hov])) | (apply R.pure; exact rfl; first | (apply Ok1.load; exact rfl; (apply Ld.blk1; exact rfl; exact rfl; exact h; exact List.not_mem_nil; exact rfl)) | (apply Ok1.move; exact rfl) | (apply Ok1.fieldAddr; (iterate 5 exact rfl)) | (apply Ok1.assign; exact rfl) | (apply Ok1.nilCheck; exact rfl))) | apply R.nil | (apply T.is; first | apply T.seq | apply T.region | apply T.skip | apply T.ret | (apply T.cond_f; exact rfl)))
  (apply RetOk.t; exact rfl)
  exact ⟨_, by (focus (repeat' first | exact Ext.here _ _ | apply Keep.last); done), ov, hov, rfl, rfl⟩
/-- A call of a joiner. -/
structure JAct where
  kind : Int
  seed : Int
  tick : Int
  k : Int
  c : Cl
  to : Int
  a : Int
  b : Int
  p : Option Addr
  cap : Nat
  xs : List Int
  t : List Int
instance : Inhabited JAct := ⟨⟨0, 0, 0, 0, ⟨0, 0, 0, 0⟩, 0, 0, 0, none, 0, [], []⟩⟩
def JAct.v (x : JAct) : List Value := .int .i64 x.kind :: .int .i64 x.seed :: .int .i64 x.tick :: pkC x.k x.c x.to x.a x.b x.p x.xs.length x.cap (x.t.take 32 ++ List.replicate (32 - x.t.length) 0)
structure JAct.okR (w : World) (x : JAct) : Prop where
  rd : RdSl w x.p u8V x.xs
  byt : Byt x.xs
  cap : x.xs.length ≤ x.cap
  tag : x.t.length = 32
theorem JAct.v_len (x : JAct) : x.v.length = 44 := by
  unfold JAct.v
  simp only [List.length_cons]
  rw [pk_len _ _ _ _ _ _ _ _ (by rw [List.length_append, List.length_take, List.length_replicate]; omega)]
theorem JAct.v_ok {x : JAct} (h : x.t.length = 32) : x.v = .int .i64 x.kind :: .int .i64 x.seed :: .int .i64 x.tick :: pkC x.k x.c x.to x.a x.b x.p x.xs.length x.cap x.t := by
  unfold JAct.v
  rw [h, List.take_of_length_le (by omega)]
  simp
/-- What comes of a call: the bytes, the error, the next state. -/
structure JR where
  G : List Int
  E : Int
  st : Int
  sd : Int
  la : Int
  cnt : Int
def jmStart (d : Cl) (s : List Int) (S B st sd la cnt seed tick : Int) : JR := if jstE S st seed = 0 then ⟨wrG d s 1 seed B (cnt + 1) [], 0, 1, seed, tick, cnt + 1⟩ else ⟨[], jstE S st seed, st, sd, la, cnt⟩
def jmDue (d : Cl) (s : List Int) (S B st sd la cnt tick : Int) : JR := if st = 0 ∨ st = 3 ∨ tick < la + 16 then ⟨[], 0, st, sd, la, cnt⟩ else ⟨wrG d s 1 ((sd + 1) % S) B (cnt + 1) [], 1, 1, (sd + 1) % S, tick, cnt + 1⟩
def jmLeave (d : Cl) (s : List Int) (B st sd la cnt : Int) : JR := if st = 3 then ⟨wrG d s 14 sd B (cnt + 1) [], 0, 0, sd, la, cnt + 1⟩ else ⟨[], 11, st, sd, la, cnt⟩
def jmTake (d : Cl) (s : List Int) (B st sd la cnt k to tick : Int) (body : List Int) : JR := if jtkE st sd k to body ≠ 0 then ⟨[], jtkE st sd k to body, st, sd, la, cnt⟩ else if k = 2 then ⟨wrG d s 3 sd B (cnt + 1) body, 0, 2, sd, tick, cnt + 1⟩ else ⟨[], 0, 3, sd, tick, cnt⟩
/-- The answer and the blocks of a call that leaves whom it knows. -/
def JOut (J : Int → Int → Int → Nat × Obj) (C : Int → Nat × Obj) (r : JR) (e v : Value) (L : Lst) : Prop := ∃ ovb, OvOk 1 ovb r.G.length (u8s r.G) ∧ v = .tuple #[.slice (ovp ovb) r.G.length (ovc ovb r.G.length), e] ∧ L = J r.st r.sd r.la :: C r.cnt :: blkL 5 ovb (u8s r.G)
theorem jstart_out {bj bc bn : Nat} {d : Cl} {s : List Int} {S B st sd la cnt seed tick : Int} {q : Option Addr} {m cap : Nat} {v : Value} {L : Lst} (h : JStart bj bc bn d s S st sd la q m cap B cnt seed tick v L) : JOut (fun st sd la => JN bj bc S st sd la q m cap) (CN bn B) (jmStart d s S B st sd la cnt seed tick) (.int .i64 (jmStart d s S B st sd la cnt seed tick).E) v L := by
  rcases h with ⟨g, rfl, rfl⟩ | ⟨g, Lo, ⟨ov, hov, rfl, rfl⟩, rfl⟩
  · unfold jmStart; rw [if_neg g]; exact ⟨none, OvOk.start 1, rfl, rfl⟩
  · unfold jmStart; rw [if_pos g]; exact ⟨ov, hov, by rw [slV_eq hov], rfl⟩
theorem dstart_out {bd bM : Nat} {d : Cl} {s : List Int} {S B st sd la cnt seed tick : Int} {RR : List Value} {q : Option Addr} {m cap : Nat} {v : Value} {L : Lst} (h : DStart bd bM d s S st sd la q m cap B cnt RR seed tick v L) : JOut (fun st sd la => DN bd bM S st sd la q m cap) (fun n => MB bM d s B n RR) (jmStart d s S B st sd la cnt seed tick) (.int .i64 (jmStart d s S B st sd la cnt seed tick).E) v L := by
  rcases h with ⟨g, rfl, rfl⟩ | ⟨g, Lo, ⟨ov, hov, rfl, rfl⟩, rfl⟩
  · unfold jmStart; rw [if_neg g]; exact ⟨none, OvOk.start 1, rfl, rfl⟩
  · unfold jmStart; rw [if_pos g]; exact ⟨ov, hov, by rw [slV_eq hov], rfl⟩
theorem jdue_out {bj bc bn : Nat} {d : Cl} {s : List Int} {S B st sd la cnt tick : Int} {q : Option Addr} {m cap : Nat} {v : Value} {L : Lst} (h : JDue bj bc bn d s S st sd la q m cap B cnt tick v L) : JOut (fun st sd la => JN bj bc S st sd la q m cap) (CN bn B) (jmDue d s S B st sd la cnt tick) (.bool (decide ((jmDue d s S B st sd la cnt tick).E = 1))) v L := by
  rcases h with ⟨g, rfl, rfl⟩ | ⟨g, Lo, ⟨ov, hov, rfl, rfl⟩, rfl⟩
  · unfold jmDue; rw [if_pos g]; exact ⟨none, OvOk.start 1, rfl, rfl⟩
  · unfold jmDue; rw [if_neg g]; exact ⟨ov, hov, by rw [slV_eq hov]; rfl, rfl⟩
theorem ddue_out {bd bM : Nat} {d : Cl} {s : List Int} {S B st sd la cnt tick : Int} {RR : List Value} {q : Option Addr} {m cap : Nat} {v : Value} {L : Lst} (h : DDue bd bM d s S st sd la q m cap B cnt RR tick v L) : JOut (fun st sd la => DN bd bM S st sd la q m cap) (fun n => MB bM d s B n RR) (jmDue d s S B st sd la cnt tick) (.bool (decide ((jmDue d s S B st sd la cnt tick).E = 1))) v L := by
  rcases h with ⟨g, rfl, rfl⟩ | ⟨g, Lo, ⟨ov, hov, rfl, rfl⟩, rfl⟩
  · unfold jmDue; rw [if_pos g]; exact ⟨none, OvOk.start 1, rfl, rfl⟩
  · unfold jmDue; rw [if_neg g]; exact ⟨ov, hov, by rw [slV_eq hov]; rfl, rfl⟩
theorem jleave_out {bj bc bn : Nat} {d : Cl} {s : List Int} {S B st sd la cnt : Int} {q : Option Addr} {m cap : Nat} {v : Value} {L : Lst} (h : JLeave bj bc bn d s S st sd la q m cap B cnt v L) : JOut (fun st sd la => JN bj bc S st sd la q m cap) (CN bn B) (jmLeave d s B st sd la cnt) (.int .i64 (jmLeave d s B st sd la cnt).E) v L := by
  rcases h with ⟨g, rfl, rfl⟩ | ⟨g, Lo, ⟨ov, hov, rfl, rfl⟩, rfl⟩
  · unfold jmLeave; rw [if_neg g]; exact ⟨none, OvOk.start 1, rfl, rfl⟩
  · unfold jmLeave; rw [if_pos g]; exact ⟨ov, hov, by rw [slV_eq hov], rfl⟩
theorem dleave_out {bd bM : Nat} {d : Cl} {s : List Int} {S B st sd la cnt : Int} {RR : List Value} {q : Option Addr} {m cap : Nat} {v : Value} {L : Lst} (h : DLeave bd bM d s S st sd la q m cap B cnt RR v L) : JOut (fun st sd la => DN bd bM S st sd la q m cap) (fun n => MB bM d s B n RR) (jmLeave d s B st sd la cnt) (.int .i64 (jmLeave d s B st sd la cnt).E) v L := by
  rcases h with ⟨g, rfl, rfl⟩ | ⟨g, Lo, ⟨ov, hov, rfl, rfl⟩, rfl⟩
  · unfold jmLeave; rw [if_neg g]; exact ⟨none, OvOk.start 1, rfl, rfl⟩
  · unfold jmLeave; rw [if_pos g]; exact ⟨ov, hov, by rw [slV_eq hov], rfl⟩
theorem jtake_out {bj bc bn : Nat} {d : Cl} {s : List Int} {S B st sd la cnt k to tick : Int} {body : List Int} {q : Option Addr} {m cap : Nat} {v : Value} {L : Lst} (hn : ¬ (jtkE st sd k to body = 0 ∧ k = 4)) (h : JTake bj bc bn d s S st sd la q m cap B cnt k to tick body v L) : JOut (fun st sd la => JN bj bc S st sd la q m cap) (CN bn B) (jmTake d s B st sd la cnt k to tick body) (.int .i64 (jmTake d s B st sd la cnt k to tick body).E) v L := by
  rcases h with ⟨g, rfl, rfl⟩ | ⟨g, g2, Lo, ⟨ov, hov, rfl, rfl⟩, rfl⟩ | ⟨g, g2, _⟩
  · unfold jmTake; rw [if_pos g]; exact ⟨none, OvOk.start 1, rfl, rfl⟩
  · unfold jmTake; rw [if_neg (fun h => h g), if_pos g2]; exact ⟨ov, hov, by rw [slV_eq hov], rfl⟩
  · exact absurd ⟨g, g2⟩ hn
theorem dtake_out {bd bM : Nat} {d : Cl} {s : List Int} {S B st sd la cnt k to tick : Int} {body : List Int} {RR : List Value} {q : Option Addr} {m cap : Nat} {v : Value} {L : Lst} (hn : ¬ (jtkE st sd k to body = 0 ∧ k = 4)) (h : DTake bd bM d s S st sd la q m cap B cnt RR k to tick body v L) : JOut (fun st sd la => DN bd bM S st sd la q m cap) (fun n => MB bM d s B n RR) (jmTake d s B st sd la cnt k to tick body) (.int .i64 (jmTake d s B st sd la cnt k to tick body).E) v L := by
  rcases h with ⟨g, rfl, rfl⟩ | ⟨g, g2, Lo, ⟨ov, hov, rfl, rfl⟩, rfl⟩ | ⟨g, g2, _⟩
  · unfold jmTake; rw [if_pos g]; exact ⟨none, OvOk.start 1, rfl, rfl⟩
  · unfold jmTake; rw [if_neg (fun h => h g), if_pos g2]; exact ⟨ov, hov, by rw [slV_eq hov], rfl⟩
  · exact absurd ⟨g, g2⟩ hn
/-- The state stays within its bounds. -/
structure JIn (S : Int) (st sd la cnt : Int) (i : Nat) : Prop where
  st0 : 0 ≤ st
  st3 : st ≤ 3
  sd0 : 0 ≤ sd
  sdS : sd < S
  la0 : 0 ≤ la
  la1 : la ≤ 1073741824
  cn0 : 0 ≤ cnt
  cn1 : cnt ≤ i
theorem wrG_le (d : Cl) (s : List Int) (k to B n : Int) (body : List Int) (h : body.length ≤ 512) : (wrG d s k to B n body).length ≤ 1000 := by
  unfold wrG; rw [pkB_len _ _ _ _ _ _ (wrT_len _ _ _ _ _ _ _)]; omega
theorem jmStart_in {d : Cl} {s : List Int} {S B st sd la cnt seed tick : Int} {i : Nat} (h : JIn S st sd la cnt i) (h0 : 0 ≤ tick) (h1 : tick ≤ 1073741824) : JIn S (jmStart d s S B st sd la cnt seed tick).st (jmStart d s S B st sd la cnt seed tick).sd (jmStart d s S B st sd la cnt seed tick).la (jmStart d s S B st sd la cnt seed tick).cnt (i + 1) ∧ (jmStart d s S B st sd la cnt seed tick).G.length ≤ 1000 := by
  obtain ⟨a1, a2, a3, a4, a5, a6, a7, a8⟩ := h
  unfold jmStart
  by_cases g : jstE S st seed = 0
  · rw [if_pos g]
    have hs : 0 ≤ seed ∧ seed < S := by
      unfold jstE at g
      by_cases g2 : seed < 0 ∨ S ≤ seed
      · rw [if_pos g2] at g; exact absurd g (by decide)
      · omega
    exact ⟨⟨by show (0 : Int) ≤ 1; decide, by show (1 : Int) ≤ 3; decide, hs.1, hs.2, h0, h1, by show 0 ≤ cnt + 1; omega, by show cnt + 1 ≤ ((i + 1 : Nat) : Int); omega⟩, wrG_le _ _ _ _ _ _ _ (by decide)⟩
  · rw [if_neg g]
    exact ⟨⟨a1, a2, a3, a4, a5, a6, a7, by show cnt ≤ ((i + 1 : Nat) : Int); omega⟩, Nat.zero_le _⟩
theorem jmDue_in {d : Cl} {s : List Int} {S B st sd la cnt tick : Int} {i : Nat} (hS : 1 ≤ S) (h : JIn S st sd la cnt i) (h0 : 0 ≤ tick) (h1 : tick ≤ 1073741824) : JIn S (jmDue d s S B st sd la cnt tick).st (jmDue d s S B st sd la cnt tick).sd (jmDue d s S B st sd la cnt tick).la (jmDue d s S B st sd la cnt tick).cnt (i + 1) ∧ (jmDue d s S B st sd la cnt tick).G.length ≤ 1000 := by
  obtain ⟨a1, a2, a3, a4, a5, a6, a7, a8⟩ := h
  have hm : 0 ≤ (sd + 1) % S ∧ (sd + 1) % S < S := ⟨Int.emod_nonneg _ (by omega), Int.emod_lt_of_pos _ (by omega)⟩
  unfold jmDue
  by_cases g : st = 0 ∨ st = 3 ∨ tick < la + 16
  · rw [if_pos g]
    exact ⟨⟨a1, a2, a3, a4, a5, a6, a7, by show cnt ≤ ((i + 1 : Nat) : Int); omega⟩, Nat.zero_le _⟩
  · rw [if_neg g]
    exact ⟨⟨by show (0 : Int) ≤ 1; decide, by show (1 : Int) ≤ 3; decide, hm.1, hm.2, h0, h1, by show 0 ≤ cnt + 1; omega, by show cnt + 1 ≤ ((i + 1 : Nat) : Int); omega⟩, wrG_le _ _ _ _ _ _ _ (by decide)⟩
theorem jmLeave_in {d : Cl} {s : List Int} {S B st sd la cnt : Int} {i : Nat} (h : JIn S st sd la cnt i) : JIn S (jmLeave d s B st sd la cnt).st (jmLeave d s B st sd la cnt).sd (jmLeave d s B st sd la cnt).la (jmLeave d s B st sd la cnt).cnt (i + 1) ∧ (jmLeave d s B st sd la cnt).G.length ≤ 1000 := by
  obtain ⟨a1, a2, a3, a4, a5, a6, a7, a8⟩ := h
  unfold jmLeave
  by_cases g : st = 3
  · rw [if_pos g]
    exact ⟨⟨by show (0 : Int) ≤ 0; decide, by show (0 : Int) ≤ 3; decide, a3, a4, a5, a6, by show 0 ≤ cnt + 1; omega, by show cnt + 1 ≤ ((i + 1 : Nat) : Int); omega⟩, wrG_le _ _ _ _ _ _ _ (by decide)⟩
  · rw [if_neg g]
    exact ⟨⟨a1, a2, a3, a4, a5, a6, a7, by show cnt ≤ ((i + 1 : Nat) : Int); omega⟩, Nat.zero_le _⟩
theorem jmTake_in {d : Cl} {s : List Int} {S B st sd la cnt k to tick : Int} {body : List Int} {i : Nat} (h : JIn S st sd la cnt i) (h0 : 0 ≤ tick) (h1 : tick ≤ 1073741824) : JIn S (jmTake d s B st sd la cnt k to tick body).st (jmTake d s B st sd la cnt k to tick body).sd (jmTake d s B st sd la cnt k to tick body).la (jmTake d s B st sd la cnt k to tick body).cnt (i + 1) ∧ (jmTake d s B st sd la cnt k to tick body).G.length ≤ 1000 := by
  obtain ⟨a1, a2, a3, a4, a5, a6, a7, a8⟩ := h
  unfold jmTake
  by_cases g : jtkE st sd k to body ≠ 0
  · rw [if_pos g]
    exact ⟨⟨a1, a2, a3, a4, a5, a6, a7, by show cnt ≤ ((i + 1 : Nat) : Int); omega⟩, Nat.zero_le _⟩
  · rw [if_neg g]
    by_cases g2 : k = 2
    · rw [if_pos g2]
      have hb : body.length ≤ 512 := by
        unfold jtkE at g
        rw [if_pos g2] at g
        by_cases g3 : st ≠ 1 ∨ to ≠ sd
        · rw [if_pos g3] at g; exact absurd (by decide) g
        · rw [if_neg g3] at g
          by_cases g4 : body.length ≠ 16
          · rw [if_pos g4] at g; exact absurd (by decide) g
          · omega
      exact ⟨⟨by show (0 : Int) ≤ 2; decide, by show (2 : Int) ≤ 3; decide, a3, a4, h0, h1, by show 0 ≤ cnt + 1; omega, by show cnt + 1 ≤ ((i + 1 : Nat) : Int); omega⟩, wrG_le _ _ _ _ _ _ _ hb⟩
    · rw [if_neg g2]
      exact ⟨⟨by show (0 : Int) ≤ 3; decide, by show (3 : Int) ≤ 3; decide, a3, a4, h0, h1, a7, by show cnt ≤ ((i + 1 : Nat) : Int); omega⟩, Nat.zero_le _⟩
theorem rdJ_len (s : Rs) : (rdJ s).1.length ≤ 16 := by
  unfold rdJ
  split
  · exact Nat.zero_le _
  · split
    · exact Nat.zero_le _
    · split
      · exact Nat.zero_le _
      · rename_i h
        simp only [not_or, Nat.not_lt] at h
        exact h.2
theorem btI_seven : btI 7 = 8 := by decide
/-- What is known at a round's head. -/
structure JZ where
  st : Int
  sd : Int
  la : Int
  cnt : Int
  os : List Cl
  o1 : Ov
  o2 : Ov
structure JZ.ok (z : JZ) (S : Int) (i : Nat) : Prop where
  inn : JIn S z.st z.sd z.la z.cnt i
  os : z.os.length ≤ 16
  o1 : OvOk 4 z.o1 z.os.length (fl Cl.v z.os)
  o2 : OvOk 4 z.o2 z.os.length (fl Cl.v z.os)
def JZ.D (z : JZ) (bd bM : Nat) (S : Int) : Nat × Obj := DN bd bM S z.st z.sd z.la (ovp z.o2) z.os.length (ovc z.o2 z.os.length)
def JZ.J (z : JZ) (bj bc : Nat) (S : Int) : Nat × Obj := JN bj bc S z.st z.sd z.la (ovp z.o1) z.os.length (ovc z.o1 z.os.length)
def JZ.X (z : JZ) : Lst := blkL 97 z.o1 (fl Cl.v z.os) ++ blkL 127 z.o2 (fl Cl.v z.os)
theorem ovoffM {ov : Ov} {xs : List Value} {e : Nat} {w0 w : World} {S : List Nat} {L : Lst} (hw : Hp w0 S L w) (hin : ∀ z ∈ blkL e ov xs, z ∈ L) {bs : List Nat} (hb : ∀ b ∈ bs, ∃ c e1 f, (b, Obj.cells c e1 f) ∈ L ∧ e1 ≠ e) : Off (ovp ov) bs := by
  intro a ha hm
  cases ov with
  | none => cases ha
  | some q =>
    obtain ⟨b, j, junk⟩ := q
    cases ha
    obtain ⟨c, e1, f, h1, h2⟩ := hb _ hm
    have g1 := hw.get _ _ h1
    have g2 := hw.get _ _ (hin _ List.mem_cons_self)
    rw [g1] at g2
    injection g2 with g3
    injection g3 with _ g4
    exact h2 g4
theorem plays18_ok (p0 : Option Addr) (n0 c0 : Nat) (x0 : List Int) (h0 : n0 = x0.length) (hc0 : n0 ≤ c0) (hb0 : Byt x0) (c : Cl) (S : Int) (pl : Option Addr) (cl : Nat) (ls : List JAct) (w : World) (hr0 : RdSl w p0 u8V x0) (hl : RdSl w pl JAct.v ls) (hls : ∀ x ∈ ls, x.okR w) :
    CallW Tryz.prog 7 [.slice p0 n0 c0, kvC c, .int .i64 S, .slice pl ls.length cl] w fun v _ => v = .bool true := by
  have hmk := fun w1 (h : Chg [] w w1) => make16_ok p0 n0 c0 x0 h0 hc0 hb0 c 7 w1 (hr0.chg' h (fun _ => Off.nil _))
  have hr := tcl_right c
  rw [btI_seven] at hmk
  have hvm := vmake_ok
  have htl := tab_len
  have hto : tabV.all Value.oneCell' = true := rfl
  have hkn := known18_ok
  simp only [kvC] at hmk ⊢
  generalize tcl c = d at *
  refine enterW (tb := tb) Tryz.func7 rfl Tryz.ntmps7 rfl ?_
  repeat' (first | (apply R.is1; first | (apply R.isBin; (apply R.pure; exact rfl; (apply Ok1.eqlP; (iterate 5 exact rfl)))) | (apply R.isCall; (apply R.callE (vs := [.slice p0 n0 c0, .agg _, .int .i64 7, .slice none 0 0, .slice none 0 0]); (iterate 3 exact rfl); exact Ext.none _; intro w1 hw1; exact hmk w1 hw1.chg; rintro v Lo ⟨s, bc, bn, br, bb, bd, bm, m1, m2, sd, dr, bM, bS, hsl, hsb, rfl, rfl⟩)) | (apply R.pure; exact rfl; first | (apply Ok1.move; exact rfl) | (apply Ok1.load; exact rfl; (apply Ld.ownk; exact rfl; exact rfl; exact At.head; exact rfl)) | (apply Ok1.assign; exact rfl) | (apply Ok1.extract; exact rfl; exact rfl)) | (apply R.box; (iterate 3 exact rfl); intro)) | apply R.nil | (apply T.is; first | (apply T.stop1 4) | apply T.seq | apply T.region | apply T.skip | (apply T.cond_f; exact rfl)))
  refine ⟨?_⟩
  have htk : ∀ X : Lst, Keep (MB bM d s 8 0 mbR0 :: (SetL bS [lg0, lg0, lg0, lg0] ++ ChL bc bn br bb bd bm m1 m2 d s 8 sd dr) ++ X) [MB bM d s 8 0 mbR0, CN bn 8 0, (bc, .cells ⟨chC bn br bb bd sd⟩ 232 (0, 0)), (br, .cells ⟨ringC d s m1 m2⟩ 236 (0, 0))] := fun X => by
    unfold ChL RL0 CN
    generalize SetL bS [lg0, lg0, lg0, lg0] = SS
    generalize BL bb bm [] 0 = BB
    simp only [List.cons_append, List.append_assoc, List.nil_append]
    (focus (repeat' first | exact Keep.nil _ | exact Ext.one _ _ | apply Keep.cons | apply Ext.cons | apply Ext.app); done)
  refine T.weakK (σ' := [(2, .int .i64 S), (3, .slice pl ls.length cl), (9, .pointer (some ⟨bc, 0, none⟩)), (10, .pointer (some ⟨bM, 0, none⟩))]) (L' := [MB bM d s 8 0 mbR0, CN bn 8 0, (bc, .cells ⟨chC bn br bb bd sd⟩ 232 (0, 0)), (br, .cells ⟨ringC d s m1 m2⟩ 236 (0, 0))]) ?_ (htk _) ⟨rfl, rfl, rfl, rfl, trivial⟩
  clear htk hmk
  by_cases hS : 1 ≤ S ∧ S ≤ 4
  case neg =>
    have hj := jnew_bad (some ⟨bc, 0, none⟩) S (by omega)
    repeat' (first | (apply R.is1; first | (apply R.isBin; first | (apply R.pure; exact rfl; first | (apply Ok1.eqlP; (iterate 5 exact rfl)) | (apply Ok1.gtr_t; exact rfl; exact rfl; omega) | (apply Ok1.eql_t; exact rfl; exact rfl; omega)) | (apply R.lss rfl rfl rfl <;> intro)) | (apply R.isCall; first | apply R.callP rfl rfl rfl hj | apply R.callP rfl rfl rfl hkn) | (apply R.pure; exact rfl; first | (apply Ok1.move; exact rfl) | (apply Ok1.assign; exact rfl) | (apply Ok1.extract; exact rfl; exact rfl) | (apply Ok1.pick_t; exact rfl; exact rfl) | (apply Ok1.pick_f; exact rfl; exact rfl))) | (apply R.isG; first | (apply R.guard_run; exact rfl; exact rfl) | (apply R.guard_not; (iterate 3 exact rfl))) | apply R.nil | (apply T.is; first | apply T.seq | apply T.region | apply T.ret | (apply T.cond_t; exact rfl)))
    all_goals (apply RetOk.t; exact rfl)
    all_goals rfl
  have hjn := fun w1 => jnew_ok bc S hS.1 hS.2 w1
  have hjs := fun bj w1 h => jstate_ok bj bc S 0 0 0 none 0 0 w1 h
  generalize htb : tabV = tbl at *
  repeat' (first | (apply R.is1; first | (apply R.isBin; (apply R.pure; exact rfl; first | (apply Ok1.lss_f; exact rfl; exact rfl; omega) | (apply Ok1.gtr_f; exact rfl; exact rfl; omega) | (apply Ok1.neq_f; exact rfl; exact rfl; omega))) | (apply R.isCall; first | (apply R.callE (vs := [.pointer (some ⟨bc, 0, none⟩), .int .i64 S]); (iterate 3 exact rfl); exact Ext.none _; intro w1 hw1; exact hjn w1; rintro v Lo ⟨bj, rfl, rfl⟩; rw [List.singleton_append]; unfold JN) | (apply R.callV (vs := [.pointer (some ⟨bj, 0, none⟩)]); (iterate 3 exact rfl); intro w1 hw1; exact hjs bj w1 ⟨_, _, hw1.get _ _ (At.mem (by exact At.head))⟩) | apply R.callP rfl rfl rfl hvm) | (apply R.pure; exact rfl; first | (apply Ok1.move; exact rfl) | (apply Ok1.assign; exact rfl) | (apply Ok1.build; (iterate 5 exact rfl)) | (apply Ok1.extract; exact rfl; exact rfl) | (apply Ok1.pick_f; exact rfl; exact rfl)) | (apply R.box; (iterate 3 exact rfl); intro) | (apply R.alloc; (iterate 3 exact rfl); intro)) | (apply R.is0; (apply R.store; (iterate 4 exact rfl); exact htl; exact hto; exact Upd.head; exact setE_all htl)) | (apply R.isG; (apply R.guard_run; exact rfl; exact rfl)) | apply R.nil | (apply T.is; first | (apply T.stop 11) | apply T.seq | apply T.region | apply T.skip | (apply T.cond_f; exact rfl)))
  all_goals refine ⟨?_⟩
  rename_i bD bt
  repeat' (first | (apply R.is1; (apply R.pure; exact rfl; (apply Ok1.assign; exact rfl))) | apply R.nil | (apply T.is; first | apply T.seq | apply T.region | apply T.block))
  apply T.loopK (α := Nat × JZ) (I := fun y => y.1 ≤ ls.length ∧ y.1 ≤ 20 ∧ y.2.ok S y.1) (σi := fun y => [(3, .slice pl ls.length cl), (12, .pointer (some ⟨bj, 0, none⟩)), (14, .pointer (some ⟨bD, 0, none⟩)), (15, .pointer (some ⟨bt, 0, none⟩)), (16, .int .i64 y.1)]) (Li := fun y => y.2.D bD bM S :: MB bM d s 8 y.2.cnt mbR0 :: y.2.J bj bc S :: CN bn 8 y.2.cnt :: (bt, .cells ⟨tbl⟩ 56 (0, 0)) :: (bc, .cells ⟨chC bn br bb bd sd⟩ 232 (0, 0)) :: (br, .cells ⟨ringC d s m1 m2⟩ 236 (0, 0)) :: y.2.X) (μ := fun y => ls.length - y.1) (i0 := (0, ⟨0, 0, 0, 0, [], none, none⟩))
  · exact ⟨Nat.zero_le _, by decide, ⟨by decide, by decide, by decide, (by show (0 : Int) < S; omega), by decide, by decide, by decide, by decide⟩, by decide, OvOk.start 4, OvOk.start 4⟩
  · exact ⟨rfl, rfl, rfl, rfl, rfl, trivial⟩
  · simp only [JZ.D, JZ.J, JZ.X, DN, JN, CN, jnC, blkL, List.nil_append, ovp, ovc, List.length_nil]
    (focus (repeat' first | exact Keep.nil _ | exact Ext.one _ _ | apply Keep.cons | apply Ext.cons); done)
  rintro ⟨i, z⟩ ⟨hi, hi20, hz⟩
  simp only at hi hi20 hz ⊢
  by_cases hlt : i < ls.length ∧ i < 20
  case neg =>
    repeat' (first | (apply R.is1; first | (apply R.isBin; first | (apply R.pure; exact rfl; (apply Ok1.lss_f; exact rfl; exact rfl; omega)) | (apply R.lss rfl rfl rfl <;> intro)) | (apply R.isCall; first | apply R.callP rfl rfl rfl hkn | (apply R.pure; exact rfl; (apply Ok1.lenS; (iterate 3 exact rfl)))) | (apply R.pure; exact rfl; first | (apply Ok1.move; exact rfl) | (apply Ok1.assign; exact rfl) | (apply Ok1.pick_t; exact rfl; exact rfl) | (apply Ok1.pick_f; exact rfl; exact rfl))) | (apply R.isG; first | (apply R.guard_run; exact rfl; exact rfl) | (apply R.guard_not; (iterate 3 exact rfl))) | apply R.nil | (apply T.is; first | apply T.seq | apply T.region | apply T.exit | apply T.ret | (apply T.cond_f; exact rfl)))
    all_goals (apply RetOk.t; exact rfl)
    all_goals rfl
  obtain ⟨x, hx⟩ : ∃ x, ls[i]? = some x := ⟨_, List.getElem?_eq_getElem (by omega)⟩
  obtain ⟨b, o, hpe, H⟩ := hl.at hx
  replace H := H 44 JAct.v_len
  obtain ⟨xrd, xbt, xcp, xtg⟩ := hls x (List.mem_of_getElem? hx)
  have g0 : x.v[0]? = some (.int .i64 x.kind) := rfl
  have g1 : x.v[1]? = some (.int .i64 x.seed) := rfl
  have g2 : x.v[2]? = some (.int .i64 x.tick) := rfl
  have gP : subE x.v 3 41 = some (pkC x.k x.c x.to x.a x.b x.p x.xs.length x.cap x.t) := by
    rw [JAct.v_ok xtg]
    exact subE_all (pk_len _ _ _ _ _ _ _ _ xtg)
  have gl := x.v_len
  have go : x.v.all Value.oneCell' = true := by
    rw [JAct.v_ok xtg]
    simp only [List.all_cons, pk_one, Bool.and_true]
    rfl
  generalize x.v = XV at *
  obtain ⟨hu0, hu1⟩ := u64_rangeM x.tick
  obtain ⟨hk0, hk1⟩ := u64_rangeM x.kind
  repeat' (first | (apply R.is1; first | (apply R.isBin; (apply R.pure; exact rfl; first | (apply Ok1.lss_t; exact rfl; exact rfl; omega) | (apply Ok1.remN; exact rfl; exact rfl; omega; omega))) | (apply R.isCall; (apply R.pure; exact rfl; (apply Ok1.lenS; (iterate 3 exact rfl)))) | (apply R.pure; exact rfl; first | (apply Ok1.indexAddrP; (iterate 4 exact rfl); exact hpe; exact rfl; omega; omega) | (apply Ok1.load; exact rfl; first | (apply Ld.rowk0 H; exact gl; exact List.not_mem_nil; exact rfl; exact rfl; exact subE_all gl) | (apply Ld.own1; exact rfl; exact rfl; exact At.head; exact g2)) | (apply Ok1.move; exact rfl) | (apply Ok1.fieldAddr; (iterate 5 exact rfl)) | (apply Ok1.assign; exact rfl) | (apply Ok1.pick_t; exact rfl; exact rfl) | (apply Ok1.convI64; (iterate 5 exact rfl); omega; omega) | (apply Ok1.conv; (iterate 5 exact rfl))) | (apply R.alloc; (iterate 3 exact rfl); intro)) | (apply R.is0; (apply R.store; (iterate 4 exact rfl); exact gl; exact go; exact Upd.head; exact setE_all gl)) | (apply R.isG; (apply R.guard_run; exact rfl; exact rfl)) | apply R.nil | (apply T.is; first | (apply T.stop 19) | apply T.seq | apply T.region | apply T.block | apply T.skip | (apply T.cond_t; exact rfl)))
  all_goals refine ⟨?_⟩
  rename_i b17
  obtain ⟨tk, htk⟩ : ∃ tk, tk = IntKind.u64.wrap x.tick % 1073741825 := ⟨_, rfl⟩
  have ht0 : 0 ≤ tk ∧ tk ≤ 1073741824 := by omega
  rw [← htk]
  clear htk hu0 hu1 g2
  refine T.weakK (σ' := [(3, .slice pl ls.length cl), (12, .pointer (some ⟨bj, 0, none⟩)), (14, .pointer (some ⟨bD, 0, none⟩)), (15, .pointer (some ⟨bt, 0, none⟩)), (16, .int .i64 i), (17, .pointer (some ⟨b17, 0, none⟩)), (18, .int .i64 tk), (19, .slice none 0 0), (20, .slice none 0 0), (21, .int .i64 0), (22, .int .i64 0)]) (L' := (b17, .cells ⟨XV⟩ 144 (0, 0)) :: z.D bD bM S :: MB bM d s 8 z.cnt mbR0 :: z.J bj bc S :: CN bn 8 z.cnt :: (bt, .cells ⟨tbl⟩ 56 (0, 0)) :: (bc, .cells ⟨chC bn br bb bd sd⟩ 232 (0, 0)) :: (br, .cells ⟨ringC d s m1 m2⟩ 236 (0, 0)) :: z.X) ?_ (by (focus (repeat' first | exact Ext.one _ _ | exact Ext.here _ _ | exact Ext.all _ | apply Keep.cons | apply Keep.app | apply Keep.last); done)) ⟨rfl, rfl, rfl, rfl, rfl, rfl, rfl, rfl, rfl, rfl, rfl, trivial⟩
  obtain ⟨⟨q1, q2, q3, q4, q5, q6, q7, q8⟩, z16, zo1, zo2⟩ := id hz
  have hin := hz.inn
  have hnr : NR 8 (z.cnt + 1) := by unfold NR; omega
  refine T.meetK (α := JZ × List Int × Int × Ov × Ov) (I := fun y => y.1.ok S (i + 1) ∧ OvOk 1 y.2.2.2.1 y.2.1.length (u8s y.2.1) ∧ OvOk 1 y.2.2.2.2 y.2.1.length (u8s y.2.1) ∧ y.2.1.length ≤ 1000) (σi := fun y => [(3, .slice pl ls.length cl), (12, .pointer (some ⟨bj, 0, none⟩)), (14, .pointer (some ⟨bD, 0, none⟩)), (15, .pointer (some ⟨bt, 0, none⟩)), (16, .int .i64 i), (19, .slice (ovp y.2.2.2.1) y.2.1.length (ovc y.2.2.2.1 y.2.1.length)), (20, .slice (ovp y.2.2.2.2) y.2.1.length (ovc y.2.2.2.2 y.2.1.length)), (21, .int .i64 y.2.2.1), (22, .int .i64 y.2.2.1)]) (Li := fun y => y.1.D bD bM S :: MB bM d s 8 y.1.cnt mbR0 :: y.1.J bj bc S :: CN bn 8 y.1.cnt :: (bt, .cells ⟨tbl⟩ 56 (0, 0)) :: (bc, .cells ⟨chC bn br bb bd sd⟩ 232 (0, 0)) :: (br, .cells ⟨ringC d s m1 m2⟩ 236 (0, 0)) :: (y.1.X ++ (blkL 5 y.2.2.2.1 (u8s y.2.1) ++ blkL 5 y.2.2.2.2 (u8s y.2.1)))) ?_ ?_
  rotate_left 1
  · rintro ⟨y, G, E, ob, ow⟩ ⟨hy, hob, how, hGl⟩
    simp only at hy hob how hGl ⊢
    have hsa := fun p c q e w1 h g => same_ok p q G.length G.length c e G G rfl rfl (by omega) w1 h g
    rw [decide_eq_true (rfl : G = G)] at hsa
    have hjst := fun w1 h => jstate_ok bj bc S y.st y.sd y.la (ovp y.o1) y.os.length (ovc y.o1 y.os.length) w1 h
    have hjsd := fun w1 h => jseed_ok bj bc S y.st y.sd y.la (ovp y.o1) y.os.length (ovc y.o1 y.os.length) w1 h
    have hjo := fun w1 h g => jothers_ok bj bc S y.st y.sd y.la (ovp y.o1) y.os.length (ovc y.o1 y.os.length) y.os rfl (by have := hy.os; omega) w1 h g
    have hs8 := fun p c q e w1 h g => same18_ok p c y.os q e y.os (by have := hy.os; omega) w1 h g
    rw [decide_eq_true (rfl : y.os = y.os)] at hs8
    have ho1 := hy.o1
    have ho2 := hy.o2
    simp only [JZ.D, JZ.J, JZ.X, DN, JN, CN, List.append_assoc]
    generalize hMO : MB bM d s 8 y.cnt mbR0 = MO
    repeat' (first | (apply R.is1; first | (apply R.isBin; (apply R.pure; exact rfl; (apply Ok1.add64; exact rfl; exact rfl; omega; omega))) | (apply R.pure; exact rfl; first | (apply Ok1.move; exact rfl) | (apply Ok1.assign; exact rfl))) | apply R.nil | (apply T.is; first | (apply T.drawC (id := 35) [0] (by decide); (((apply A.tk 0; exact rfl; kernel_rfl; (apply Ok1.move; exact rfl)); refine A.cast (listed' := #[true, false, false, false, false, false, false, false, false, false, false, false, false, false, false, false, false, false, false, false, false, false, false, false, false, false, false, false, false, false, false, false, false, false, false, false, false]) (by kernel_rfl) ?_) <;> ((apply A.tk 1; exact rfl; kernel_rfl; (apply Ok1.move; exact rfl)); refine A.cast (listed' := #[true, true, false, false, false, false, false, false, false, false, false, false, false, false, false, false, false, false, false, false, false, false, false, false, false, false, false, false, false, false, false, false, false, false, false, false, false]) (by kernel_rfl) ?_) <;> (((apply A.tk 2; exact rfl; kernel_rfl; (apply Ok1.neq_f; exact rfl; exact rfl; omega))); refine A.cast (listed' := #[true, true, true, false, false, false, false, false, false, false, false, false, false, false, false, false, false, false, false, false, false, false, false, false, false, false, false, false, false, false, false, false, false, false, false, false, false]) (by kernel_rfl) ?_) <;> ((apply A.tk 3; exact rfl; kernel_rfl; (apply Ok1.move; exact rfl)); refine A.cast (listed' := #[true, true, true, true, false, false, false, false, false, false, false, false, false, false, false, false, false, false, false, false, false, false, false, false, false, false, false, false, false, false, false, false, false, false, false, false, false]) (by kernel_rfl) ?_) <;> (((apply A.tkG 4; (iterate 3 exact rfl); kernel_rfl; (apply Ok1.move; exact rfl))); refine A.cast (listed' := #[true, true, true, true, true, false, false, false, false, false, false, false, false, false, false, false, false, false, false, false, false, false, false, false, false, false, false, false, false, false, false, false, false, false, false, false, false]) (by kernel_rfl) ?_) <;> (((apply A.tkG 5; (iterate 3 exact rfl); kernel_rfl; (apply Ok1.move; exact rfl))); refine A.cast (listed' := #[true, true, true, true, true, true, false, false, false, false, false, false, false, false, false, false, false, false, false, false, false, false, false, false, false, false, false, false, false, false, false, false, false, false, false, false, false]) (by kernel_rfl) ?_) <;> (apply A.one 6; kernel_rfl; exact rfl; (((apply R.isG; apply R.guard_run; exact rfl; exact rfl; ((apply R.callV (vs := [.slice (ovp ob) G.length (ovc ob G.length), .slice (ovp ow) G.length (ovc ow G.length)]); (iterate 3 exact rfl); intro w1 hw1; exact hsa _ _ _ _ w1 (RdSl.own' hw1 (Ext.mem (by rw [fl_u8]; (focus (repeat' first | exact Ext.here _ _ | apply Ext.cons | apply Ext.app); done))) (by rw [fl_u8]; exact hob) u8V_len) (RdSl.own' hw1 (Ext.mem (by rw [fl_u8]; (focus (repeat' first | exact Ext.all _ | apply Ext.cons | apply Ext.app); done))) (by rw [fl_u8]; exact how) u8V_len)))))); apply R.nil; refine ⟨?_, ?_⟩; (focus ((repeat' (first | exact trivial | (refine ⟨?_, ?_⟩; exact At.head)))))) <;> (((apply A.tkG 7; (iterate 3 exact rfl); kernel_rfl; (apply Ok1.not_t; exact rfl))); refine A.cast (listed' := #[true, true, true, true, true, true, true, true, false, false, false, false, false, false, false, false, false, false, false, false, false, false, false, false, false, false, false, false, false, false, false, false, false, false, false, false, false]) (by kernel_rfl) ?_) <;> ((apply A.tk 8; exact rfl; kernel_rfl; (apply Ok1.pick_f; exact rfl; exact rfl)); refine A.cast (listed' := #[true, true, true, true, true, true, true, true, true, false, false, false, false, false, false, false, false, false, false, false, false, false, false, false, false, false, false, false, false, false, false, false, false, false, false, false, false]) (by kernel_rfl) ?_) <;> ((apply A.tk 9; exact rfl; kernel_rfl; (apply Ok1.move; exact rfl)); refine A.cast (listed' := #[true, true, true, true, true, true, true, true, true, true, false, false, false, false, false, false, false, false, false, false, false, false, false, false, false, false, false, false, false, false, false, false, false, false, false, false, false]) (by kernel_rfl) ?_) <;> (((apply A.tkG 10; (iterate 3 exact rfl); kernel_rfl; (apply Ok1.move; exact rfl))); refine A.cast (listed' := #[true, true, true, true, true, true, true, true, true, true, true, false, false, false, false, false, false, false, false, false, false, false, false, false, false, false, false, false, false, false, false, false, false, false, false, false, false]) (by kernel_rfl) ?_) <;> (((apply A.tkG 12; (iterate 3 exact rfl); kernel_rfl; (apply Ok1.move; exact rfl))); refine A.cast (listed' := #[true, true, true, true, true, true, true, true, true, true, true, false, true, false, false, false, false, false, false, false, false, false, false, false, false, false, false, false, false, false, false, false, false, false, false, false, false]) (by kernel_rfl) ?_) <;> (((apply A.tkG 13; (iterate 3 exact rfl); kernel_rfl; (apply Ok1.nilCheck; exact rfl))); refine A.cast (listed' := #[true, true, true, true, true, true, true, true, true, true, true, false, true, true, false, false, false, false, false, false, false, false, false, false, false, false, false, false, false, false, false, false, false, false, false, false, false]) (by kernel_rfl) ?_) <;> (((apply A.tkG 14; (iterate 3 exact rfl); kernel_rfl; (apply Ok1.fieldAddr; (iterate 5 exact rfl)))); refine A.cast (listed' := #[true, true, true, true, true, true, true, true, true, true, true, false, true, true, true, false, false, false, false, false, false, false, false, false, false, false, false, false, false, false, false, false, false, false, false, false, false]) (by kernel_rfl) ?_) <;> (((apply A.tkG 15; (iterate 3 exact rfl); kernel_rfl; (apply Ok1.load; exact rfl; (apply Ld.own1; exact rfl; exact rfl; exact At.head; exact rfl)))); refine A.cast (listed' := #[true, true, true, true, true, true, true, true, true, true, true, false, true, true, true, true, false, false, false, false, false, false, false, false, false, false, false, false, false, false, false, false, false, false, false, false, false]) (by kernel_rfl) ?_) <;> (apply A.one 11; kernel_rfl; exact rfl; (((apply R.isG; apply R.guard_run; exact rfl; exact rfl; ((apply R.callV (v := .int .i64 y.st) (vs := [.pointer (some ⟨bj, 0, none⟩)]); (iterate 3 exact rfl); intro w1 hw1; exact hjst w1 ⟨_, _, hw1.get _ _ (At.mem (by (focus (repeat' first | exact At.head | apply At.tail); done)))⟩))))); apply R.nil; refine ⟨?_, ?_⟩; (focus ((repeat' (first | exact trivial | (refine ⟨?_, ?_⟩; exact At.head)))))) <;> (((apply A.tkG 16; (iterate 3 exact rfl); kernel_rfl; (apply Ok1.neq_f; exact rfl; exact rfl; omega))); refine A.cast (listed' := #[true, true, true, true, true, true, true, true, true, true, true, true, true, true, true, true, true, false, false, false, false, false, false, false, false, false, false, false, false, false, false, false, false, false, false, false, false]) (by kernel_rfl) ?_) <;> ((apply A.tk 17; exact rfl; kernel_rfl; (apply Ok1.pick_f; exact rfl; exact rfl)); refine A.cast (listed' := #[true, true, true, true, true, true, true, true, true, true, true, true, true, true, true, true, true, true, false, false, false, false, false, false, false, false, false, false, false, false, false, false, false, false, false, false, false]) (by kernel_rfl) ?_) <;> ((apply A.tk 18; exact rfl; kernel_rfl; (apply Ok1.move; exact rfl)); refine A.cast (listed' := #[true, true, true, true, true, true, true, true, true, true, true, true, true, true, true, true, true, true, true, false, false, false, false, false, false, false, false, false, false, false, false, false, false, false, false, false, false]) (by kernel_rfl) ?_) <;> (((apply A.tkG 19; (iterate 3 exact rfl); kernel_rfl; (apply Ok1.move; exact rfl))); refine A.cast (listed' := #[true, true, true, true, true, true, true, true, true, true, true, true, true, true, true, true, true, true, true, true, false, false, false, false, false, false, false, false, false, false, false, false, false, false, false, false, false]) (by kernel_rfl) ?_) <;> (((apply A.tkG 21; (iterate 3 exact rfl); kernel_rfl; (apply Ok1.move; exact rfl))); refine A.cast (listed' := #[true, true, true, true, true, true, true, true, true, true, true, true, true, true, true, true, true, true, true, true, false, true, false, false, false, false, false, false, false, false, false, false, false, false, false, false, false]) (by kernel_rfl) ?_) <;> (((apply A.tkG 22; (iterate 3 exact rfl); kernel_rfl; (apply Ok1.nilCheck; exact rfl))); refine A.cast (listed' := #[true, true, true, true, true, true, true, true, true, true, true, true, true, true, true, true, true, true, true, true, false, true, true, false, false, false, false, false, false, false, false, false, false, false, false, false, false]) (by kernel_rfl) ?_) <;> (((apply A.tkG 23; (iterate 3 exact rfl); kernel_rfl; (apply Ok1.fieldAddr; (iterate 5 exact rfl)))); refine A.cast (listed' := #[true, true, true, true, true, true, true, true, true, true, true, true, true, true, true, true, true, true, true, true, false, true, true, true, false, false, false, false, false, false, false, false, false, false, false, false, false]) (by kernel_rfl) ?_) <;> (((apply A.tkG 24; (iterate 3 exact rfl); kernel_rfl; (apply Ok1.load; exact rfl; (apply Ld.own1; exact rfl; exact rfl; exact At.head; exact rfl)))); refine A.cast (listed' := #[true, true, true, true, true, true, true, true, true, true, true, true, true, true, true, true, true, true, true, true, false, true, true, true, true, false, false, false, false, false, false, false, false, false, false, false, false]) (by kernel_rfl) ?_) <;> (apply A.one 20; kernel_rfl; exact rfl; (((apply R.isG; apply R.guard_run; exact rfl; exact rfl; ((apply R.callV (v := .int .i64 y.sd) (vs := [.pointer (some ⟨bj, 0, none⟩)]); (iterate 3 exact rfl); intro w1 hw1; exact hjsd w1 ⟨_, _, hw1.get _ _ (At.mem (by (focus (repeat' first | exact At.head | apply At.tail); done)))⟩))))); apply R.nil; refine ⟨?_, ?_⟩; (focus ((repeat' (first | exact trivial | (refine ⟨?_, ?_⟩; exact At.head)))))) <;> (((apply A.tkG 25; (iterate 3 exact rfl); kernel_rfl; (apply Ok1.neq_f; exact rfl; exact rfl; omega))); refine A.cast (listed' := #[true, true, true, true, true, true, true, true, true, true, true, true, true, true, true, true, true, true, true, true, true, true, true, true, true, true, false, false, false, false, false, false, false, false, false, false, false]) (by kernel_rfl) ?_) <;> ((apply A.tk 26; exact rfl; kernel_rfl; (apply Ok1.pick_f; exact rfl; exact rfl)); refine A.cast (listed' := #[true, true, true, true, true, true, true, true, true, true, true, true, true, true, true, true, true, true, true, true, true, true, true, true, true, true, true, false, false, false, false, false, false, false, false, false, false]) (by kernel_rfl) ?_) <;> ((apply A.tk 27; exact rfl; kernel_rfl; (apply Ok1.move; exact rfl)); refine A.cast (listed' := #[true, true, true, true, true, true, true, true, true, true, true, true, true, true, true, true, true, true, true, true, true, true, true, true, true, true, true, true, false, false, false, false, false, false, false, false, false]) (by kernel_rfl) ?_) <;> (((apply A.tkG 28; (iterate 3 exact rfl); kernel_rfl; (apply Ok1.move; exact rfl))); refine A.cast (listed' := #[true, true, true, true, true, true, true, true, true, true, true, true, true, true, true, true, true, true, true, true, true, true, true, true, true, true, true, true, true, false, false, false, false, false, false, false, false]) (by kernel_rfl) ?_) <;> (((apply A.tkG 30; (iterate 3 exact rfl); kernel_rfl; (apply Ok1.move; exact rfl))); refine A.cast (listed' := #[true, true, true, true, true, true, true, true, true, true, true, true, true, true, true, true, true, true, true, true, true, true, true, true, true, true, true, true, true, false, true, false, false, false, false, false, false]) (by kernel_rfl) ?_) <;> (((apply A.tkG 31; (iterate 3 exact rfl); kernel_rfl; (apply Ok1.nilCheck; exact rfl))); refine A.cast (listed' := #[true, true, true, true, true, true, true, true, true, true, true, true, true, true, true, true, true, true, true, true, true, true, true, true, true, true, true, true, true, false, true, true, false, false, false, false, false]) (by kernel_rfl) ?_) <;> (((apply A.tkG 32; (iterate 3 exact rfl); kernel_rfl; (apply Ok1.fieldAddr; (iterate 5 exact rfl)))); refine A.cast (listed' := #[true, true, true, true, true, true, true, true, true, true, true, true, true, true, true, true, true, true, true, true, true, true, true, true, true, true, true, true, true, false, true, true, true, false, false, false, false]) (by kernel_rfl) ?_) <;> (((apply A.tkG 33; (iterate 3 exact rfl); kernel_rfl; (apply Ok1.load; exact rfl; (apply Ld.own1; exact rfl; exact rfl; exact At.head; exact rfl)))); refine A.cast (listed' := #[true, true, true, true, true, true, true, true, true, true, true, true, true, true, true, true, true, true, true, true, true, true, true, true, true, true, true, true, true, false, true, true, true, true, false, false, false]) (by kernel_rfl) ?_) <;> (apply A.one 29; kernel_rfl; exact rfl; (((apply R.isG; apply R.guard_run; exact rfl; exact rfl; ((apply R.callE (vs := [.pointer (some ⟨bj, 0, none⟩)]); (iterate 3 exact rfl); exact Ext.none _; intro w1 hw1; exact hjo w1 ⟨_, _, hw1.get _ _ (At.mem (by (focus (repeat' first | exact At.head | apply At.tail); done)))⟩ (RdSl.own' hw1 (Ext.mem (by (focus (repeat' first | exact Ext.here _ _ | apply Ext.cons); done))) ho1 Cl.v_len4); rintro v Lo ⟨ovz, hovz, rfl, rfl⟩))))); apply R.nil; refine ⟨?_, ?_⟩; (focus (repeat' first | exact trivial | exact At.head | apply At.right | refine ⟨?_, ?_⟩))) <;> (apply A.one 34; kernel_rfl; exact rfl; (((apply R.isG; apply R.guard_run; exact rfl; exact rfl; ((apply R.callV (vs := [.slice (ovp ovz) y.os.length (ovc ovz y.os.length), .slice (ovp y.o2) y.os.length (ovc y.o2 y.os.length)]); (iterate 3 exact rfl); intro w1 hw1; exact hs8 _ _ _ _ w1 (RdSl.own' hw1 (Ext.mem (by (focus ((repeat' (exact Ext.here _ _)); done)))) hovz Cl.v_len4) (RdSl.own' hw1 (Ext.mem (by (focus (repeat' first | exact Ext.here _ _ | apply Ext.cons | apply Ext.app); done))) ho2 Cl.v_len4)))))); apply R.nil; refine ⟨?_, ?_⟩; (focus (repeat' first | exact trivial | exact At.head | apply At.right | refine ⟨?_, ?_⟩))) <;> (((apply A.tkG 35; (iterate 3 exact rfl); kernel_rfl; (apply Ok1.not_t; exact rfl))); refine A.cast (listed' := #[true, true, true, true, true, true, true, true, true, true, true, true, true, true, true, true, true, true, true, true, true, true, true, true, true, true, true, true, true, true, true, true, true, true, true, true, false]) (by kernel_rfl) ?_) <;> ((apply A.tk 36; exact rfl; kernel_rfl; (apply Ok1.pick_f; exact rfl; exact rfl)); refine A.cast (listed' := #[true, true, true, true, true, true, true, true, true, true, true, true, true, true, true, true, true, true, true, true, true, true, true, true, true, true, true, true, true, true, true, true, true, true, true, true, true]) (by kernel_rfl) ?_) <;> (apply A.done; kernel_rfl))) | apply T.seq | apply T.region | apply T.skip | (apply T.cond_f; exact rfl)))
    all_goals refine ⟨(i + 1, y), ⟨by omega, by omega, hy⟩, by omega, ⟨rfl, rfl, rfl, rfl, rfl, trivial⟩, ?_⟩
    all_goals simp only [JZ.D, JZ.J, JZ.X, DN, JN, CN, List.append_assoc, hMO]
    all_goals (focus (repeat' first | exact Ext.one _ _ | exact Ext.here _ _ | apply Keep.cons | apply Keep.app | apply Keep.last | apply Ext.app); done)
  have hkd : IntKind.u64.wrap x.kind % 4 = 0 ∨ IntKind.u64.wrap x.kind % 4 = 1 ∨ IntKind.u64.wrap x.kind % 4 = 2 ∨ IntKind.u64.wrap x.kind % 4 = 3 := by omega
  have hla2 : 0 ≤ z.la ∧ z.la ≤ 2000000000 := by omega
  rcases hkd with hk | hk | hk | hk
  · have hx1 := fun L S0 w1 (hw : Hp w S0 L w1) (h : JAt L bj bc bn br bb bd m1 m2 sd d s S z.st z.sd z.la (ovp z.o1) z.os.length (ovc z.o1 z.os.length) 8 z.cnt) => (jstart_ok bj bc bn br bb bd sd 232 (0, 0) d hr s hsl hsb m1 m2 236 S z.st z.sd z.la hS.2 (ovp z.o1) z.os.length (ovc z.o1 z.os.length) 8 z.cnt hnr q7 x.seed tk w1 (hw.get _ _ h.ac.mem) (hw.get _ _ h.ar.mem) (h.off hw).1 (h.off hw).2).wk (fun v L => jstart_out)
    have hx2 := fun w1 => (dstart_ok bD bM d hr s hsl hsb S z.st z.sd z.la hS.2 (ovp z.o2) z.os.length (ovc z.o2 z.os.length) 8 z.cnt hnr q7 mbR0 x.seed tk w1).wk (fun v L => dstart_out)
    obtain ⟨hi2, hg2⟩ := jmStart_in (d := d) (s := s) (B := 8) (seed := x.seed) hin ht0.1 ht0.2
    simp only [htb] at hx2
    generalize jmStart d s S 8 z.st z.sd z.la z.cnt x.seed tk = r at *
    simp only [JOut, JN, CN] at hx1 hx2
    simp only [JZ.D, JZ.J, JZ.X, JN, CN, List.append_assoc]
    generalize hD0 : DN bD bM S z.st z.sd z.la (ovp z.o2) z.os.length (ovc z.o2 z.os.length) = D0 at *
    generalize hM0 : MB bM d s 8 z.cnt mbR0 = M0 at *
    repeat' (first | (apply R.is1; first | (apply R.isBin; (apply R.pure; exact rfl; first | (apply Ok1.eql_t; exact rfl; exact rfl; omega) | (apply Ok1.remN; exact rfl; exact rfl; omega; omega))) | (apply R.isCall; first | (apply R.callE (Li := [(bj, .cells ⟨jnC bc S z.st z.sd z.la (ovp z.o1) z.os.length (ovc z.o1 z.os.length)⟩ 275 (0, 0)), (bn, .cells ⟨[.int .i64 8, .int .i64 z.cnt]⟩ 324 (0, 0))]) (vs := [.pointer (some ⟨bj, 0, none⟩), .int .i64 x.seed, .int .i64 tk]); (iterate 3 exact rfl); exact Ext.two _ (by (focus (repeat' first | exact Ext.one _ _ | apply Ext.cons); done)) (by (focus (repeat' first | exact Ext.one _ _ | apply Ext.cons); done)); intro w1 hw1; exact hx1 _ _ w1 hw1 ⟨by (focus (repeat' first | exact At.head | apply At.tail); done), by (focus (repeat' first | exact At.head | apply At.tail); done), by (focus (repeat' first | exact At.head | apply At.tail); done), by (focus (repeat' first | exact At.head | apply At.tail); done)⟩; rintro v Lo ⟨ob, hob, rfl, rfl⟩) | (apply R.callE (Li := [D0, M0]) (vs := [.pointer (some ⟨bD, 0, none⟩), .agg ⟨tbl⟩, .int .i64 x.seed, .int .i64 tk]); (iterate 3 exact rfl); exact Ext.two _ (by (focus (repeat' first | exact Ext.one _ _ | apply Ext.cons | apply Ext.app); done)) (by (focus (repeat' first | exact Ext.one _ _ | apply Ext.cons | apply Ext.app); done)); intro w1 hw1; exact hx2 w1; rintro v Lo ⟨ow, how, rfl, rfl⟩)) | (apply R.pure; exact rfl; first | (apply Ok1.load; exact rfl; first | (apply Ld.own1; exact rfl; exact rfl; (focus (repeat' first | exact At.head | apply At.tail | apply At.right); done); exact g0) | (apply Ld.own1; exact rfl; exact rfl; (focus (repeat' first | exact At.head | apply At.tail | apply At.right); done); exact g1) | (apply Ld.ownk; exact rfl; exact rfl; (focus (repeat' first | exact At.head | apply At.tail | apply At.right); done); exact subE_all htl)) | (apply Ok1.move; exact rfl) | (apply Ok1.fieldAddr; (iterate 5 exact rfl)) | (apply Ok1.assign; exact rfl) | (apply Ok1.extract; exact rfl; exact rfl) | (apply Ok1.conv; (iterate 5 exact rfl)))) | apply R.nil | (apply T.is; first | apply T.seq | apply T.region | apply T.block | (apply T.cond_t; exact rfl)))
    all_goals skip
    all_goals (refine ⟨(⟨r.st, r.sd, r.la, r.cnt, z.os, z.o1, z.o2⟩, r.G, r.E, ob, ow), ⟨⟨hi2, z16, zo1, zo2⟩, hob, how, hg2⟩, ⟨rfl, rfl, rfl, rfl, rfl, rfl, rfl, rfl, rfl, trivial⟩, ?_⟩)
    all_goals simp only [JZ.D, JZ.J, JZ.X, JN, CN, List.append_assoc]
    all_goals (focus (repeat' first | exact Ext.one _ _ | exact Ext.here _ _ | exact Ext.all _ | apply Keep.cons | apply Keep.app | apply Keep.last | apply Ext.cons | apply Ext.app); done)
  · obtain ⟨m, hm⟩ : ∃ m, m = min x.xs.length 520 := ⟨_, rfl⟩
    have hpto := fun w1 h => pto14_ok x.k x.c x.to x.a x.b x.p x.xs.length x.cap x.xs x.t xtg rfl xcp w1 h
    rw [← hm] at hpto
    have hbl : m = (x.xs.take m).length := by rw [List.length_take]; omega
    have hbb : Byt (x.xs.take m) := fun y hy => xbt y (List.mem_of_mem_take hy)
    generalize x.xs.take m = body at *
    have hm5 : m ≤ 520 := by omega
    have hnil : body = [] → m = 0 := fun h => by rw [hbl, h]; rfl
    have hpl := fun q e => pk_len x.k x.c x.to x.a x.b q m e xtg
    have hpo := fun q e => pk_one x.k x.c x.to x.a x.b q m e x.t
    have hpof := fun q e w1 => pof14_ok x.k x.c x.to x.a x.b q m e x.t xtg w1
    simp only [JZ.D, JZ.J, JZ.X, JN, CN, List.append_assoc]
    obtain ⟨cD, fD, hD1⟩ : ∃ c f, DN bD bM S z.st z.sd z.la (ovp z.o2) z.os.length (ovc z.o2 z.os.length) = (bD, .cells c 139 f) := ⟨_, _, rfl⟩
    obtain ⟨cM, fM, hM1⟩ : ∃ c f, MB bM d s 8 z.cnt mbR0 = (bM, .cells c 267 f) := ⟨_, _, rfl⟩
    generalize hD0 : DN bD bM S z.st z.sd z.la (ovp z.o2) z.os.length (ovc z.o2 z.os.length) = D0 at *
    generalize hM0 : MB bM d s 8 z.cnt mbR0 = M0 at *
    repeat' (first | (apply R.is1; first | (apply R.isBin; (apply R.pure; exact rfl; first | (apply Ok1.eql_t; exact rfl; exact rfl; omega) | (apply Ok1.eql_f; exact rfl; exact rfl; omega) | (apply Ok1.remN; exact rfl; exact rfl; omega; omega))) | (apply R.isCall; (apply R.callE (vs := [.agg ⟨pkC x.k x.c x.to x.a x.b x.p x.xs.length x.cap x.t⟩]); (iterate 3 exact rfl); exact Ext.none _; intro w1 hw1; exact hpto w1 (xrd.chg' hw1.chg (fun _ => Off.nil _)); rintro v Lo ⟨op, hop, rfl, rfl⟩)) | (apply R.pure; exact rfl; first | (apply Ok1.load; exact rfl; first | (apply Ld.own1; exact rfl; exact rfl; exact At.head; exact g0) | (apply Ld.ownk; exact rfl; exact rfl; exact At.head; exact gP)) | (apply Ok1.fieldAddr; (iterate 5 exact rfl)) | (apply Ok1.assign; exact rfl) | (apply Ok1.conv; (iterate 5 exact rfl))) | (apply R.alloc; (iterate 3 exact rfl); intro)) | (apply R.is0; (apply R.store; (iterate 4 exact rfl); exact hpl _ _; exact hpo _ _; exact Upd.head; exact setE_all (hpl _ _))) | apply R.nil | (apply T.is; first | (apply T.stop1 27) | apply T.seq | apply T.region | apply T.block | (apply T.cond_t; exact rfl) | (apply T.cond_f; exact rfl)))
    all_goals refine ⟨?_⟩
    rename_i b23
    refine T.weakK (σ' := [(3, .slice pl ls.length cl), (12, .pointer (some ⟨bj, 0, none⟩)), (14, .pointer (some ⟨bD, 0, none⟩)), (15, .pointer (some ⟨bt, 0, none⟩)), (16, .int .i64 i), (18, .int .i64 tk), (19, .slice none 0 0), (20, .slice none 0 0), (21, .int .i64 0), (22, .int .i64 0), (23, .pointer (some ⟨b23, 0, none⟩))]) (L' := (bt, .cells ⟨tbl⟩ 56 (0, 0)) :: (b23, .cells ⟨pkC x.k x.c x.to x.a x.b (ovp op) m (ovc op m) x.t⟩ 120 (0, 0)) :: D0 :: M0 :: (bj, .cells ⟨jnC bc S z.st z.sd z.la (ovp z.o1) z.os.length (ovc z.o1 z.os.length)⟩ 275 (0, 0)) :: (bn, .cells ⟨[.int .i64 8, .int .i64 z.cnt]⟩ 324 (0, 0)) :: (bc, .cells ⟨chC bn br bb bd sd⟩ 232 (0, 0)) :: (br, .cells ⟨ringC d s m1 m2⟩ 236 (0, 0)) :: (blkL 5 op (u8s body) ++ (blkL 97 z.o1 (fl Cl.v z.os) ++ (blkL 127 z.o2 (fl Cl.v z.os))))) ?_ (by (focus (repeat' first | exact Ext.one _ _ | exact Ext.here _ _ | exact Ext.all _ | apply Keep.cons | apply Keep.app | apply Keep.last | apply Ext.cons | apply Ext.app); done)) ⟨rfl, rfl, rfl, rfl, rfl, rfl, rfl, rfl, rfl, rfl, rfl, trivial⟩
    have hop2 : OvOk 1 op body.length (fl u8V body) := by rw [fl_u8, ← hbl]; exact hop
    have hpc := ovc_leS hop
    have hy1 := fun L S0 w1 (hw : Hp w S0 L w1) (h : JAt L bj bc bn br bb bd m1 m2 sd d s S z.st z.sd z.la (ovp z.o1) z.os.length (ovc z.o1 z.os.length) 8 z.cnt) (hm2 : ∀ y ∈ blkL 5 op (fl u8V body), y ∈ L) => jtake_ok bj bc bn br bb bd sd 232 (0, 0) d hr s hsl hsb m1 m2 236 S z.st z.sd z.la q3 (by omega) (ovp z.o1) z.os.length (ovc z.o1 z.os.length) 8 z.cnt hnr q7 x.k x.c x.to x.a x.b (ovp op) m (ovc op m) x.t body xtg hbl (by omega) hbb tk w1 (RdSl.own' hw hm2 hop2 u8V_len) (fun _ => ovoffM hw hm2 (by
      intro b' hb'
      simp only [List.mem_cons, List.not_mem_nil, or_false] at hb'
      rcases hb' with h1 | h1
      · rw [h1]; exact ⟨_, _, _, h.aj.mem, by decide⟩
      · rw [h1]; exact ⟨_, _, _, h.an.mem, by decide⟩)) (hw.get _ _ h.ac.mem) (hw.get _ _ h.ar.mem) (h.off hw).1 (h.off hw).2
    have hy2 := fun L S0 w1 (hw : Hp w S0 L w1) (hd : D0 ∈ L) (hmm : M0 ∈ L) (hm2 : ∀ y ∈ blkL 5 op (fl u8V body), y ∈ L) => dtake_ok bD bM d hr s hsl hsb S z.st z.sd z.la q3 (by omega) (ovp z.o2) z.os.length (ovc z.o2 z.os.length) 8 z.cnt hnr q7 mbR0 x.k x.c x.to x.a x.b (ovp op) m (ovc op m) x.t body xtg hbl (by omega) hpc hbb tk w1 (RdSl.own' hw hm2 hop2 u8V_len) (fun _ => ovoffM hw hm2 (by
      intro b' hb'
      simp only [List.mem_cons, List.not_mem_nil, or_false] at hb'
      rcases hb' with h1 | h1
      · rw [h1]; exact ⟨_, _, _, hD1 ▸ hd, by decide⟩
      · rw [h1]; exact ⟨_, _, _, hM1 ▸ hmm, by decide⟩))
    simp only [htb, hD0, hM0, JN, CN] at hy1 hy2
    clear hpto
    by_cases hq4 : jtkE z.st z.sd x.k x.to body = 0 ∧ x.k = 4
    case neg =>
      have hx1 := fun L S0 w1 hw h hm2 => (hy1 L S0 w1 hw h hm2).wk (fun v L => jtake_out hq4)
      have hx2 := fun L S0 w1 hw hd hmm hm2 => (hy2 L S0 w1 hw hd hmm hm2).wk (fun v L => dtake_out hq4)
      clear hy1 hy2
      obtain ⟨hi2, hg2⟩ := jmTake_in (d := d) (s := s) (B := 8) (k := x.k) (to := x.to) (body := body) hin ht0.1 ht0.2
      generalize jmTake d s 8 z.st z.sd z.la z.cnt x.k x.to tk body = r at *
      simp only [JOut, JN, CN] at hx1 hx2
      repeat' (first | (apply R.is1; first | (apply R.isCall; (apply R.callE (Li := [(bj, .cells ⟨jnC bc S z.st z.sd z.la (ovp z.o1) z.os.length (ovc z.o1 z.os.length)⟩ 275 (0, 0)), (bn, .cells ⟨[.int .i64 8, .int .i64 z.cnt]⟩ 324 (0, 0))]) (vs := [.pointer (some ⟨bj, 0, none⟩), .agg ⟨pkC x.k x.c x.to x.a x.b (ovp op) m (ovc op m) x.t⟩, .int .i64 tk]); (iterate 3 exact rfl); exact Ext.two _ (by (focus (repeat' first | exact Ext.one _ _ | apply Ext.cons); done)) (by (focus (repeat' first | exact Ext.one _ _ | apply Ext.cons); done)); intro w1 hw1; exact hx1 _ _ w1 hw1 ⟨by (focus (repeat' first | exact At.head | apply At.tail); done), by (focus (repeat' first | exact At.head | apply At.tail); done), by (focus (repeat' first | exact At.head | apply At.tail); done), by (focus (repeat' first | exact At.head | apply At.tail); done)⟩ (Ext.mem (by rw [fl_u8]; (focus (repeat' first | exact Ext.here _ _ | apply Ext.cons); done))); rintro v Lo ⟨ob, hob, rfl, rfl⟩)) | (apply R.pure; exact rfl; first | (apply Ok1.load; exact rfl; (apply Ld.ownk; exact rfl; exact rfl; (focus (repeat' first | exact At.head | apply At.tail); done); exact subE_all (hpl _ _))) | (apply Ok1.move; exact rfl) | (apply Ok1.assign; exact rfl) | (apply Ok1.extract; exact rfl; exact rfl))) | apply R.nil | (apply T.is; first | apply T.seq | apply T.region))
      all_goals skip
      refine T.weakK (σ' := [(3, .slice pl ls.length cl), (12, .pointer (some ⟨bj, 0, none⟩)), (14, .pointer (some ⟨bD, 0, none⟩)), (15, .pointer (some ⟨bt, 0, none⟩)), (16, .int .i64 i), (18, .int .i64 tk), (19, .slice (ovp ob) r.G.length (ovc ob r.G.length)), (20, .slice none 0 0), (21, .int .i64 r.E), (22, .int .i64 0), (23, .pointer (some ⟨b23, 0, none⟩))]) (L' := (bt, .cells ⟨tbl⟩ 56 (0, 0)) :: (b23, .cells ⟨pkC x.k x.c x.to x.a x.b (ovp op) m (ovc op m) x.t⟩ 120 (0, 0)) :: D0 :: M0 :: (bj, .cells ⟨jnC bc S r.st r.sd r.la (ovp z.o1) z.os.length (ovc z.o1 z.os.length)⟩ 275 (0, 0)) :: (bn, .cells ⟨[.int .i64 8, .int .i64 r.cnt]⟩ 324 (0, 0)) :: (bc, .cells ⟨chC bn br bb bd sd⟩ 232 (0, 0)) :: (br, .cells ⟨ringC d s m1 m2⟩ 236 (0, 0)) :: (blkL 5 op (u8s body) ++ (blkL 97 z.o1 (fl Cl.v z.os) ++ (blkL 127 z.o2 (fl Cl.v z.os) ++ blkL 5 ob (u8s r.G))))) ?_ (by (focus (repeat' first | exact Ext.one _ _ | exact Ext.here _ _ | exact Ext.all _ | apply Keep.cons | apply Keep.app | apply Keep.last | apply Ext.cons | apply Ext.app); done)) ⟨rfl, rfl, rfl, rfl, rfl, rfl, rfl, rfl, rfl, rfl, rfl, trivial⟩
      repeat' ((apply T.is; (apply T.drawC (id := 28) [0,1] (by decide); ((apply A.tk 0; exact rfl; kernel_rfl; (apply Ok1.move; exact rfl)) <;> (apply A.tk 1; exact rfl; kernel_rfl; (apply Ok1.load; exact rfl; (apply Ld.ownk; exact rfl; exact rfl; exact At.head; exact subE_all htl))) <;> (apply A.tk 2; exact rfl; kernel_rfl; (apply Ok1.load; exact rfl; (apply Ld.ownk; exact rfl; exact rfl; (focus (repeat' first | exact At.head | apply At.tail); done); exact subE_all (hpl _ _)))) <;> (apply A.tk 4; exact rfl; kernel_rfl; (apply Ok1.move; exact rfl)) <;> (apply A.one 3; kernel_rfl; exact rfl; (((apply R.callE (vs := [.agg ⟨pkC x.k x.c x.to x.a x.b (ovp op) m (ovc op m) x.t⟩]); (iterate 3 exact rfl); exact Ext.none _; intro w1 hw1; exact hpof _ _ w1; rintro v Lo ⟨rfl, rfl⟩; rw [List.nil_append]))); apply R.nil; refine ⟨?_, ?_⟩; (focus (repeat' first | exact trivial | exact At.head | apply At.tail | refine ⟨?_, ?_⟩))) <;> (apply A.one 5; kernel_rfl; exact rfl; (((apply R.callE (Li := [D0, M0]) (vs := [.pointer (some ⟨bD, 0, none⟩), .agg ⟨tbl⟩, .agg ⟨pkC x.k x.c x.to x.a x.b (ovp op) m (ovc op m) x.t⟩, .int .i64 tk]); (iterate 3 exact rfl); exact Ext.two _ (by (focus (repeat' first | exact Ext.one _ _ | apply Ext.cons); done)) (by (focus (repeat' first | exact Ext.one _ _ | apply Ext.cons); done)); intro w1 hw1; exact hx2 _ _ w1 hw1 (Ext.mem (s := [D0]) (by (focus (repeat' first | exact Ext.one _ _ | apply Ext.cons); done)) _ List.mem_cons_self) (Ext.mem (s := [M0]) (by (focus (repeat' first | exact Ext.one _ _ | apply Ext.cons); done)) _ List.mem_cons_self) (Ext.mem (by rw [fl_u8]; (focus (repeat' first | exact Ext.here _ _ | apply Ext.cons); done))); rintro v Lo ⟨ow, how, rfl, rfl⟩))); apply R.nil; refine ⟨?_, ?_⟩; (focus (repeat' first | exact trivial | exact At.head | apply At.tail | apply At.right | refine ⟨?_, ?_⟩))) <;> (apply A.tk 6; exact rfl; kernel_rfl; (apply Ok1.move; exact rfl)) <;> (apply A.tk 7; exact rfl; kernel_rfl; (apply Ok1.extract; exact rfl; exact rfl)) <;> (apply A.tk 8; exact rfl; kernel_rfl; (apply Ok1.extract; exact rfl; exact rfl)) <;> (apply A.tk 9; exact rfl; kernel_rfl; (apply Ok1.assign; exact rfl)) <;> (apply A.tk 10; exact rfl; kernel_rfl; (apply Ok1.assign; exact rfl)) <;> (apply A.done; kernel_rfl)))))
      all_goals refine ⟨(⟨r.st, r.sd, r.la, r.cnt, z.os, z.o1, z.o2⟩, r.G, r.E, ob, ow), ⟨⟨hi2, z16, zo1, zo2⟩, hob, how, hg2⟩, ⟨rfl, rfl, rfl, rfl, rfl, rfl, rfl, rfl, rfl, trivial⟩, ?_⟩
      all_goals simp only [JZ.D, JZ.J, JZ.X, JN, CN, List.append_assoc]
      all_goals (focus (repeat' first | exact Ext.one _ _ | exact Ext.here _ _ | exact Ext.all _ | apply Keep.cons | apply Keep.app | apply Keep.last | apply Ext.cons | apply Ext.app); done)
    case pos =>
      obtain ⟨hq0, hqk⟩ := hq4
      have hJl := rdJ_len (R0 body)
      have hx1 := fun L S0 w1 hw h hm2 => (hy1 L S0 w1 hw h hm2).wk (R' := fun v L => v = .tuple #[.slice none 0 0, .int .i64 0] ∧ ∃ ov, OvOk 4 ov (rdJ (R0 body)).1.length (fl Cl.v (rdJ (R0 body)).1) ∧ L = JN bj bc S 3 z.sd tk (ovp ov) (rdJ (R0 body)).1.length (ovc ov (rdJ (R0 body)).1.length) :: CN bn 8 z.cnt :: blkL 97 ov (fl Cl.v (rdJ (R0 body)).1)) (by
        rintro v L (⟨g, _⟩ | ⟨_, g, _⟩ | ⟨_, _, g1, g2⟩)
        · exact absurd hq0 g
        · rw [hqk] at g; exact absurd g (by decide)
        · exact ⟨g1, g2⟩)
      have hx2 := fun L S0 w1 hw hd hmm hm2 => (hy2 L S0 w1 hw hd hmm hm2).wk (R' := fun v L => v = .tuple #[.slice none 0 0, .int .i64 0] ∧ ∃ ov, OvOk 4 ov (rdJ (R0 body)).1.length (fl Cl.v (rdJ (R0 body)).1) ∧ L = DN bD bM S 3 z.sd tk (ovp ov) (rdJ (R0 body)).1.length (ovc ov (rdJ (R0 body)).1.length) :: MB bM d s 8 z.cnt mbR0 :: blkL 127 ov (fl Cl.v (rdJ (R0 body)).1)) (by
        rintro v L (⟨g, _⟩ | ⟨_, g, _⟩ | ⟨_, _, g1, g2⟩)
        · exact absurd hq0 g
        · rw [hqk] at g; exact absurd g (by decide)
        · exact ⟨g1, g2⟩)
      clear hy1 hy2
      simp only [JN, CN] at hx1 hx2
      generalize (rdJ (R0 body)).1 = J at *
      have hi2 : JIn S 3 z.sd tk z.cnt (i + 1) := ⟨by decide, by decide, q3, q4, ht0.1, ht0.2, q7, by omega⟩
      repeat' (first | (apply R.is1; first | (apply R.isCall; (apply R.callE (Li := [(bj, .cells ⟨jnC bc S z.st z.sd z.la (ovp z.o1) z.os.length (ovc z.o1 z.os.length)⟩ 275 (0, 0)), (bn, .cells ⟨[.int .i64 8, .int .i64 z.cnt]⟩ 324 (0, 0))]) (vs := [.pointer (some ⟨bj, 0, none⟩), .agg ⟨pkC x.k x.c x.to x.a x.b (ovp op) m (ovc op m) x.t⟩, .int .i64 tk]); (iterate 3 exact rfl); exact Ext.two _ (by (focus (repeat' first | exact Ext.one _ _ | apply Ext.cons); done)) (by (focus (repeat' first | exact Ext.one _ _ | apply Ext.cons); done)); intro w1 hw1; exact hx1 _ _ w1 hw1 ⟨by (focus (repeat' first | exact At.head | apply At.tail); done), by (focus (repeat' first | exact At.head | apply At.tail); done), by (focus (repeat' first | exact At.head | apply At.tail); done), by (focus (repeat' first | exact At.head | apply At.tail); done)⟩ (Ext.mem (by rw [fl_u8]; (focus (repeat' first | exact Ext.here _ _ | apply Ext.cons); done))); rintro v Lo ⟨rfl, ovj, hovj, rfl⟩)) | (apply R.pure; exact rfl; first | (apply Ok1.load; exact rfl; (apply Ld.ownk; exact rfl; exact rfl; (focus (repeat' first | exact At.head | apply At.tail); done); exact subE_all (hpl _ _))) | (apply Ok1.move; exact rfl) | (apply Ok1.assign; exact rfl) | (apply Ok1.extract; exact rfl; exact rfl))) | apply R.nil | (apply T.is; first | apply T.seq | apply T.region))
      all_goals skip
      refine T.weakK (σ' := [(3, .slice pl ls.length cl), (12, .pointer (some ⟨bj, 0, none⟩)), (14, .pointer (some ⟨bD, 0, none⟩)), (15, .pointer (some ⟨bt, 0, none⟩)), (16, .int .i64 i), (18, .int .i64 tk), (19, .slice none 0 0), (20, .slice none 0 0), (21, .int .i64 0), (22, .int .i64 0), (23, .pointer (some ⟨b23, 0, none⟩))]) (L' := (bt, .cells ⟨tbl⟩ 56 (0, 0)) :: (b23, .cells ⟨pkC x.k x.c x.to x.a x.b (ovp op) m (ovc op m) x.t⟩ 120 (0, 0)) :: D0 :: M0 :: (bj, .cells ⟨jnC bc S 3 z.sd tk (ovp ovj) J.length (ovc ovj J.length)⟩ 275 (0, 0)) :: (bn, .cells ⟨[.int .i64 8, .int .i64 z.cnt]⟩ 324 (0, 0)) :: (bc, .cells ⟨chC bn br bb bd sd⟩ 232 (0, 0)) :: (br, .cells ⟨ringC d s m1 m2⟩ 236 (0, 0)) :: (blkL 5 op (u8s body) ++ (blkL 97 z.o1 (fl Cl.v z.os) ++ (blkL 127 z.o2 (fl Cl.v z.os) ++ blkL 97 ovj (fl Cl.v J))))) ?_ (by (focus (repeat' first | exact Ext.one _ _ | exact Ext.here _ _ | exact Ext.all _ | apply Keep.cons | apply Keep.app | apply Keep.last | apply Ext.cons | apply Ext.app); done)) ⟨rfl, rfl, rfl, rfl, rfl, rfl, rfl, rfl, rfl, rfl, rfl, trivial⟩
      repeat' ((apply T.is; (apply T.drawC (id := 28) [0,1] (by decide); ((apply A.tk 0; exact rfl; kernel_rfl; (apply Ok1.move; exact rfl)) <;> (apply A.tk 1; exact rfl; kernel_rfl; (apply Ok1.load; exact rfl; (apply Ld.ownk; exact rfl; exact rfl; exact At.head; exact subE_all htl))) <;> (apply A.tk 2; exact rfl; kernel_rfl; (apply Ok1.load; exact rfl; (apply Ld.ownk; exact rfl; exact rfl; (focus (repeat' first | exact At.head | apply At.tail); done); exact subE_all (hpl _ _)))) <;> (apply A.tk 4; exact rfl; kernel_rfl; (apply Ok1.move; exact rfl)) <;> (apply A.one 3; kernel_rfl; exact rfl; (((apply R.callE (vs := [.agg ⟨pkC x.k x.c x.to x.a x.b (ovp op) m (ovc op m) x.t⟩]); (iterate 3 exact rfl); exact Ext.none _; intro w1 hw1; exact hpof _ _ w1; rintro v Lo ⟨rfl, rfl⟩; rw [List.nil_append]))); apply R.nil; refine ⟨?_, ?_⟩; (focus (repeat' first | exact trivial | exact At.head | apply At.tail | refine ⟨?_, ?_⟩))) <;> (apply A.one 5; kernel_rfl; exact rfl; (((apply R.callE (Li := [D0, M0]) (vs := [.pointer (some ⟨bD, 0, none⟩), .agg ⟨tbl⟩, .agg ⟨pkC x.k x.c x.to x.a x.b (ovp op) m (ovc op m) x.t⟩, .int .i64 tk]); (iterate 3 exact rfl); exact Ext.two _ (by (focus (repeat' first | exact Ext.one _ _ | apply Ext.cons); done)) (by (focus (repeat' first | exact Ext.one _ _ | apply Ext.cons); done)); intro w1 hw1; exact hx2 _ _ w1 hw1 (Ext.mem (s := [D0]) (by (focus (repeat' first | exact Ext.one _ _ | apply Ext.cons); done)) _ List.mem_cons_self) (Ext.mem (s := [M0]) (by (focus (repeat' first | exact Ext.one _ _ | apply Ext.cons); done)) _ List.mem_cons_self) (Ext.mem (by rw [fl_u8]; (focus (repeat' first | exact Ext.here _ _ | apply Ext.cons); done))); rintro v Lo ⟨rfl, ovd, hovd, rfl⟩))); apply R.nil; refine ⟨?_, ?_⟩; (focus (repeat' first | exact trivial | exact At.head | apply At.tail | apply At.right | refine ⟨?_, ?_⟩))) <;> (apply A.tk 6; exact rfl; kernel_rfl; (apply Ok1.move; exact rfl)) <;> (apply A.tk 7; exact rfl; kernel_rfl; (apply Ok1.extract; exact rfl; exact rfl)) <;> (apply A.tk 8; exact rfl; kernel_rfl; (apply Ok1.extract; exact rfl; exact rfl)) <;> (apply A.tk 9; exact rfl; kernel_rfl; (apply Ok1.assign; exact rfl)) <;> (apply A.tk 10; exact rfl; kernel_rfl; (apply Ok1.assign; exact rfl)) <;> (apply A.done; kernel_rfl)))))
      all_goals refine ⟨(⟨3, z.sd, tk, z.cnt, J, ovj, ovd⟩, [], 0, none, none), ⟨⟨hi2, hJl, hovj, hovd⟩, OvOk.start 1, OvOk.start 1, Nat.zero_le _⟩, ⟨rfl, rfl, rfl, rfl, rfl, rfl, rfl, rfl, rfl, trivial⟩, ?_⟩
      all_goals simp only [JZ.D, JZ.J, JZ.X, JN, CN, List.append_assoc]
      all_goals (focus (repeat' first | exact Keep.nil _ | exact Ext.one _ _ | exact Ext.here _ _ | exact Ext.all _ | apply Keep.cons | apply Keep.app | apply Ext.cons | apply Ext.app); done)
  · have hx1 := fun L S0 w1 (hw : Hp w S0 L w1) (h : JAt L bj bc bn br bb bd m1 m2 sd d s S z.st z.sd z.la (ovp z.o1) z.os.length (ovc z.o1 z.os.length) 8 z.cnt) => (jdue_ok bj bc bn br bb bd sd 232 (0, 0) d hr s hsl hsb m1 m2 236 S z.st z.sd z.la hS.1 hS.2 q3 (by omega) hla2.1 hla2.2 (ovp z.o1) z.os.length (ovc z.o1 z.os.length) 8 z.cnt hnr q7 tk w1 (hw.get _ _ h.ac.mem) (hw.get _ _ h.ar.mem) (h.off hw).1 (h.off hw).2).wk (fun v L => jdue_out)
    have hx2 := fun w1 => (ddue_ok bD bM d hr s hsl hsb S z.st z.sd z.la ⟨q1, q2⟩ hS.1 hS.2 q3 (by omega) hla2.1 hla2.2 (ovp z.o2) z.os.length (ovc z.o2 z.os.length) 8 z.cnt hnr q7 mbR0 tk ht0.1 (by omega) w1).wk (fun v L => ddue_out)
    obtain ⟨hi2, hg2⟩ := jmDue_in (d := d) (s := s) (B := 8) hS.1 hin ht0.1 ht0.2
    simp only [htb] at hx2
    generalize jmDue d s S 8 z.st z.sd z.la z.cnt tk = r at *
    simp only [JOut, JN, CN] at hx1 hx2
    simp only [JZ.D, JZ.J, JZ.X, JN, CN, List.append_assoc]
    generalize hD0 : DN bD bM S z.st z.sd z.la (ovp z.o2) z.os.length (ovc z.o2 z.os.length) = D0 at *
    generalize hM0 : MB bM d s 8 z.cnt mbR0 = M0 at *
    repeat' (first | (apply R.is1; first | (apply R.isBin; (apply R.pure; exact rfl; first | (apply Ok1.neqB; (iterate 4 exact rfl)) | (apply Ok1.eql_t; exact rfl; exact rfl; omega) | (apply Ok1.eql_f; exact rfl; exact rfl; omega) | (apply Ok1.remN; exact rfl; exact rfl; omega; omega))) | (apply R.isCall; first | (apply R.callE (Li := [(bj, .cells ⟨jnC bc S z.st z.sd z.la (ovp z.o1) z.os.length (ovc z.o1 z.os.length)⟩ 275 (0, 0)), (bn, .cells ⟨[.int .i64 8, .int .i64 z.cnt]⟩ 324 (0, 0))]) (vs := [.pointer (some ⟨bj, 0, none⟩), .int .i64 tk]); (iterate 3 exact rfl); exact Ext.two _ (by (focus (repeat' first | exact Ext.one _ _ | apply Ext.cons); done)) (by (focus (repeat' first | exact Ext.one _ _ | apply Ext.cons); done)); intro w1 hw1; exact hx1 _ _ w1 hw1 ⟨by (focus (repeat' first | exact At.head | apply At.tail); done), by (focus (repeat' first | exact At.head | apply At.tail); done), by (focus (repeat' first | exact At.head | apply At.tail); done), by (focus (repeat' first | exact At.head | apply At.tail); done)⟩; rintro v Lo ⟨ob, hob, rfl, rfl⟩) | (apply R.callE (Li := [D0, M0]) (vs := [.pointer (some ⟨bD, 0, none⟩), .agg ⟨tbl⟩, .int .i64 tk]); (iterate 3 exact rfl); exact Ext.two _ (by (focus (repeat' first | exact Ext.one _ _ | apply Ext.cons | apply Ext.app); done)) (by (focus (repeat' first | exact Ext.one _ _ | apply Ext.cons | apply Ext.app); done)); intro w1 hw1; exact hx2 w1; rintro v Lo ⟨ow, how, rfl, rfl⟩)) | (apply R.pure; exact rfl; first | (apply Ok1.load; exact rfl; first | (apply Ld.own1; exact rfl; exact rfl; exact At.head; exact g0) | (apply Ld.ownk; exact rfl; exact rfl; (focus (repeat' first | exact At.head | apply At.tail | apply At.right); done); exact subE_all htl)) | (apply Ok1.move; exact rfl) | (apply Ok1.fieldAddr; (iterate 5 exact rfl)) | (apply Ok1.assign; exact rfl) | (apply Ok1.extract; exact rfl; exact rfl) | (apply Ok1.conv; (iterate 5 exact rfl)))) | apply R.nil | (apply T.is; first | apply T.seq | apply T.region | apply T.block | apply T.skip | (apply T.cond_t; exact rfl) | (apply T.cond_f; exact rfl)))
    all_goals refine ⟨(⟨r.st, r.sd, r.la, r.cnt, z.os, z.o1, z.o2⟩, r.G, 0, ob, ow), ⟨⟨hi2, z16, zo1, zo2⟩, hob, how, hg2⟩, ⟨rfl, rfl, rfl, rfl, rfl, rfl, rfl, rfl, rfl, trivial⟩, ?_⟩
    all_goals simp only [JZ.D, JZ.J, JZ.X, JN, CN, List.append_assoc]
    all_goals (focus (repeat' first | exact Ext.one _ _ | exact Ext.here _ _ | exact Ext.all _ | apply Keep.cons | apply Keep.app | apply Keep.last | apply Ext.cons | apply Ext.app); done)
  · have hx1 := fun L S0 w1 (hw : Hp w S0 L w1) (h : JAt L bj bc bn br bb bd m1 m2 sd d s S z.st z.sd z.la (ovp z.o1) z.os.length (ovc z.o1 z.os.length) 8 z.cnt) => (jleave_ok bj bc bn br bb bd sd 232 (0, 0) d hr s hsl hsb m1 m2 236 S z.st z.sd z.la q3 (by omega) (ovp z.o1) z.os.length (ovc z.o1 z.os.length) 8 z.cnt hnr q7 w1 (hw.get _ _ h.ac.mem) (hw.get _ _ h.ar.mem) (h.off hw).1 (h.off hw).2).wk (fun v L => jleave_out)
    have hx2 := fun w1 => (dleave_ok bD bM d hr s hsl hsb S z.st z.sd z.la q3 (by omega) (ovp z.o2) z.os.length (ovc z.o2 z.os.length) 8 z.cnt hnr q7 mbR0 w1).wk (fun v L => dleave_out)
    obtain ⟨hi2, hg2⟩ := jmLeave_in (S := S) (d := d) (s := s) (B := 8) hin
    simp only [htb] at hx2
    generalize jmLeave d s 8 z.st z.sd z.la z.cnt = r at *
    simp only [JOut, JN, CN] at hx1 hx2
    simp only [JZ.D, JZ.J, JZ.X, JN, CN, List.append_assoc]
    generalize hD0 : DN bD bM S z.st z.sd z.la (ovp z.o2) z.os.length (ovc z.o2 z.os.length) = D0 at *
    generalize hM0 : MB bM d s 8 z.cnt mbR0 = M0 at *
    repeat' (first | (apply R.is1; first | (apply R.isBin; (apply R.pure; exact rfl; first | (apply Ok1.eql_f; exact rfl; exact rfl; omega) | (apply Ok1.remN; exact rfl; exact rfl; omega; omega))) | (apply R.isCall; first | (apply R.callE (Li := [(bj, .cells ⟨jnC bc S z.st z.sd z.la (ovp z.o1) z.os.length (ovc z.o1 z.os.length)⟩ 275 (0, 0)), (bn, .cells ⟨[.int .i64 8, .int .i64 z.cnt]⟩ 324 (0, 0))]) (vs := [.pointer (some ⟨bj, 0, none⟩)]); (iterate 3 exact rfl); exact Ext.two _ (by (focus (repeat' first | exact Ext.one _ _ | apply Ext.cons); done)) (by (focus (repeat' first | exact Ext.one _ _ | apply Ext.cons); done)); intro w1 hw1; exact hx1 _ _ w1 hw1 ⟨by (focus (repeat' first | exact At.head | apply At.tail); done), by (focus (repeat' first | exact At.head | apply At.tail); done), by (focus (repeat' first | exact At.head | apply At.tail); done), by (focus (repeat' first | exact At.head | apply At.tail); done)⟩; rintro v Lo ⟨ob, hob, rfl, rfl⟩) | (apply R.callE (Li := [D0, M0]) (vs := [.pointer (some ⟨bD, 0, none⟩), .agg ⟨tbl⟩]); (iterate 3 exact rfl); exact Ext.two _ (by (focus (repeat' first | exact Ext.one _ _ | apply Ext.cons | apply Ext.app); done)) (by (focus (repeat' first | exact Ext.one _ _ | apply Ext.cons | apply Ext.app); done)); intro w1 hw1; exact hx2 w1; rintro v Lo ⟨ow, how, rfl, rfl⟩)) | (apply R.pure; exact rfl; first | (apply Ok1.load; exact rfl; first | (apply Ld.own1; exact rfl; exact rfl; exact At.head; exact g0) | (apply Ld.ownk; exact rfl; exact rfl; (focus (repeat' first | exact At.head | apply At.tail | apply At.right); done); exact subE_all htl)) | (apply Ok1.move; exact rfl) | (apply Ok1.fieldAddr; (iterate 5 exact rfl)) | (apply Ok1.assign; exact rfl) | (apply Ok1.extract; exact rfl; exact rfl) | (apply Ok1.conv; (iterate 5 exact rfl)))) | apply R.nil | (apply T.is; first | apply T.seq | apply T.region | apply T.block | (apply T.cond_f; exact rfl)))
    all_goals refine ⟨(⟨r.st, r.sd, r.la, r.cnt, z.os, z.o1, z.o2⟩, r.G, r.E, ob, ow), ⟨⟨hi2, z16, zo1, zo2⟩, hob, how, hg2⟩, ⟨rfl, rfl, rfl, rfl, rfl, rfl, rfl, rfl, rfl, trivial⟩, ?_⟩
    all_goals simp only [JZ.D, JZ.J, JZ.X, JN, CN, List.append_assoc]
    all_goals (focus (repeat' first | exact Ext.one _ _ | exact Ext.here _ _ | exact Ext.all _ | apply Keep.cons | apply Keep.app | apply Keep.last | apply Ext.cons | apply Ext.app); done)
end Go.Proofs.YtolnagbahceebaaGreat
set_option linter.unusedSimpArgs false
set_option linter.unusedVariables false
namespace Go.Proofs.YtolnagbahceebaaGreat
open Go.ChangeShapes Go.WideShapes Go.ChangeAt Go.RowKit
theorem cut9 (cs : List Value) (a n m : Nat) (h : a + n = m) : (cs.drop a).take n ++ cs.drop m = cs.drop a := by
  have e := List.take_append_drop n (cs.drop a)
  rw [List.drop_drop, h] at e
  exact e
theorem u8n_decJ (n : Nat) : ∀ cs, allW (List.replicate n (.int .u8)) cs → ∃ t : List Int, t.length = n ∧ u8s t = cs := by
  induction n with
  | zero =>
    intro cs h
    match cs, h with
    | [], _ => exact ⟨[], rfl, rfl⟩
  | succ n ih =>
    intro cs h
    rw [List.replicate_succ] at h
    match cs, h with
    | .int k1 a :: r, h =>
      obtain ⟨⟨rfl, _⟩, h2⟩ := h
      obtain ⟨t, h3, h4⟩ := ih r h2
      exact ⟨a :: t, by rw [List.length_cons, h3], by rw [← h4]; rfl⟩
/-- A packet's cells. -/
structure PkA where
  k : Int
  c : Cl
  to : Int
  a : Int
  b : Int
  p : Option Addr
  cap : Nat
  xs : List Int
  t : List Int
def PkA.ok (w : World) (x : PkA) : Prop := RdSl w x.p u8V x.xs ∧ Byt x.xs ∧ x.xs.length ≤ x.cap ∧ x.t.length = 32
section
variable {H : Type} {enc : TypeId × Value → H} {w : World} {base : Nat} {spare : Nat → Bool} {held : Bool}
theorem pk_opens : Opens enc Tryz.prog w base spare held 142 fun cs => ∃ x : PkA, pkC x.k x.c x.to x.a x.b x.p x.xs.length x.cap x.t = cs ∧ x.ok w := by
  have hi : Opens enc Tryz.prog w base spare held 3 fun cs => ∃ a : Int, cs = [.int .i64 a] := (Opens.flat (ks := [.int .i64]) tb rfl rfl rfl).mono fun cs h => int1_decJ h
  have h0 := Opens.field (enc := enc) (w := w) (base := base) (spare := spare) (held := held) tb (t := 142) rfl rfl 0 rfl hi
  have h1 := Opens.field (enc := enc) (w := w) (base := base) (spare := spare) (held := held) tb (t := 142) rfl rfl 1 rfl ((Opens.flat (ks := clKsJ) tb rfl rfl rfl).mono cl_decJ)
  have h2 := Opens.field (enc := enc) (w := w) (base := base) (spare := spare) (held := held) tb (t := 142) rfl rfl 2 rfl hi
  have h3 := Opens.field (enc := enc) (w := w) (base := base) (spare := spare) (held := held) tb (t := 142) rfl rfl 3 rfl ((Opens.flat (ks := ncKs9) tb rfl rfl rfl).mono nc_dec9)
  have h4 := Opens.field (enc := enc) (w := w) (base := base) (spare := spare) (held := held) tb (t := 142) rfl rfl 4 rfl (Opens.slice u8V (fun x => 0 ≤ x ∧ x ≤ 255) tb rfl rfl rfl rfl (fun _ => rfl) u8_opensJ)
  have h5 := Opens.field (enc := enc) (w := w) (base := base) (spare := spare) (held := held) tb (t := 142) rfl rfl 5 rfl ((Opens.flat (ks := List.replicate 32 (.int .u8)) tb rfl rfl rfl).mono (u8n_decJ 32))
  refine (((((h0.and h1).and h2).and h3).and h4).and h5).mono ?_
  rintro cs ⟨⟨⟨⟨⟨⟨hl, k, e0⟩, ⟨_, c, e1⟩⟩, ⟨_, to, e2⟩⟩, ⟨_, ⟨a, b⟩, e3⟩⟩, ⟨_, p, xs, cap, e4, q1, q2, _, q4, _⟩⟩, ⟨_, t, ht, e5⟩⟩
  refine ⟨⟨k, c, to, a, b, p, cap, xs, t⟩, ?_, q1, q4, q2, ht⟩
  replace hl : cs.length = 41 := hl
  have e6 : pkC k c to a b p xs.length cap t = [.int .i64 k] ++ (c.v ++ ([.int .i64 to] ++ (ncL9 (a, b) ++ ([.slice p xs.length cap] ++ u8s t)))) := rfl
  have z5 : (cs.drop 9).take 32 = cs.drop 9 := List.take_of_length_le (by rw [List.length_drop, hl]; decide)
  show pkC k c to a b p xs.length cap t = cs
  rw [e6, ← e0, e1, ← e2, e3, ← e4, e5, z5, cut9 cs 8 1 9 rfl, cut9 cs 6 2 8 rfl, cut9 cs 5 1 6 rfl, cut9 cs 1 4 5 rfl, cut9 cs 0 1 1 rfl]
  rfl
theorem ja_opens : Opens enc Tryz.prog w base spare held 144 fun cs => ∃ x : JAct, x.v = cs ∧ x.okR w := by
  have hi : Opens enc Tryz.prog w base spare held 3 fun cs => ∃ a : Int, cs = [.int .i64 a] := (Opens.flat (ks := [.int .i64]) tb rfl rfl rfl).mono fun cs h => int1_decJ h
  have h0 := Opens.field (enc := enc) (w := w) (base := base) (spare := spare) (held := held) tb (t := 144) rfl rfl 0 rfl hi
  have h1 := Opens.field (enc := enc) (w := w) (base := base) (spare := spare) (held := held) tb (t := 144) rfl rfl 1 rfl hi
  have h2 := Opens.field (enc := enc) (w := w) (base := base) (spare := spare) (held := held) tb (t := 144) rfl rfl 2 rfl hi
  have h3 := Opens.field (enc := enc) (w := w) (base := base) (spare := spare) (held := held) tb (t := 144) rfl rfl 3 rfl pk_opens
  refine (((h0.and h1).and h2).and h3).mono ?_
  rintro cs ⟨⟨⟨⟨hl, k, e0⟩, ⟨_, s, e1⟩⟩, ⟨_, t, e2⟩⟩, ⟨_, x, e3, q1, q2, q3, q4⟩⟩
  refine ⟨⟨k, s, t, x.k, x.c, x.to, x.a, x.b, x.p, x.cap, x.xs, x.t⟩, ?_, q1, q2, q3, q4⟩
  replace hl : cs.length = 44 := hl
  rw [JAct.v_ok q4]
  have z3 : (cs.drop 3).take 41 = cs.drop 3 := List.take_of_length_le (by rw [List.length_drop, hl]; decide)
  have e6 : ∀ X, (.int .i64 k :: .int .i64 s :: .int .i64 t :: X : List Value) = [.int .i64 k] ++ ([.int .i64 s] ++ ([.int .i64 t] ++ X)) := fun _ => rfl
  show Value.int .i64 k :: .int .i64 s :: .int .i64 t :: pkC x.k x.c x.to x.a x.b x.p x.xs.length x.cap x.t = cs
  rw [e6, e3, ← e0, ← e1, ← e2, z3, cut9 cs 2 1 3 rfl, cut9 cs 1 1 2 rfl, cut9 cs 0 1 1 rfl]
  rfl
end
end Go.Proofs.YtolnagbahceebaaGreat
