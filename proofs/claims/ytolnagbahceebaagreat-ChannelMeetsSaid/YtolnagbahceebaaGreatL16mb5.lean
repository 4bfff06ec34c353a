/- Texts of the proof: Cw1, Mk1, Jn2, Cw2, Lcw, Cm1, Cm2, Cm3, Cm4, Cm5, Cm6, Cm7, Cm8, Cm9, Cm11, Cm12, Cm13. -/
import Derived.Test.YtolnagbahceebaaGreatL16mb4
set_option linter.unusedSimpArgs false
set_option linter.unusedVariables false
namespace Go.Proofs.YtolnagbahceebaaGreat
open Go.RowKit Go.Shelf
set_option maxRecDepth 100000
theorem to_off (br:Nat) (c:Cl) (s:List Int) (hs:s.length=32) (m1 m2:Nat) (e:TypeId) (n:Int) (h:n < 1 ∨ n > 65535) (w:World) (hb:w.heap[br]? = some (.cells ⟨ringC c s m1 m2⟩ e (0,0))) :
    CallM Tryz.prog 178 [.pointer (some ⟨br,0,none⟩),.int .i64 n] [] w fun v L=>v = .tuple #[.pointer none,.int .i64 10]∧L=[]:=by
  refine enterK (tb:=tb) Tryz.func178 rfl Tryz.ntmps178 rfl ?_
  repeat' (first|(apply R.is1;first|(apply R.isBin;(apply R.pure;exact rfl;(apply Ok1.eqlP;(iterate 5 exact rfl))))|(apply R.isCall;first|(apply R.callE (vs:=[.agg ⟨tkC c s⟩]);(iterate 3 exact rfl);exact Ext.none _;intro w1 hw1;exact key_ok c s hs w1;rintro v Lo ⟨bk2,ov2,rfl,hov2,rfl⟩)|apply R.callP rfl rfl rfl (sender_off _ n h))|(apply R.pure;exact rfl;first|(apply Ok1.load;exact rfl;apply Ld.blkk;exact rfl;exact rfl;exact hb;exact List.not_mem_nil;exact ring_tk c hs m1 m2)|(apply Ok1.move;exact rfl)|(apply Ok1.fieldAddr;(iterate 5 exact rfl))|(apply Ok1.assign;exact rfl)|(apply Ok1.extract;exact rfl;exact rfl)|(apply Ok1.nilCheck;exact rfl)))|apply R.nil|(apply T.is;first|apply T.seq|apply T.region|apply T.skip|apply T.ret|(apply T.cond_f;exact rfl)))
  all_goals (apply RetOk.tt;exact rfl;exact rfl)
  all_goals exact ⟨_,by (focus ((repeat' (exact Keep.nil _));done)),rfl,rfl⟩
theorem rseed_off (br:Nat) (c:Cl) (s:List Int) (hs:s.length=32) (m1 m2:Nat) (e:TypeId) (n:Int) (h:n < 0 ∨ n > 3) (w:World) (hb:w.heap[br]? = some (.cells ⟨ringC c s m1 m2⟩ e (0,0))) :
    CallM Tryz.prog 177 [.pointer (some ⟨br,0,none⟩),.int .i64 n] [] w fun v L=>v = .tuple #[.pointer none,.int .i64 10]∧L=[]:=by
  refine enterK (tb:=tb) Tryz.func177 rfl Tryz.ntmps177 rfl ?_
  repeat' (first|(apply R.is1;first|(apply R.isBin;(apply R.pure;exact rfl;(apply Ok1.eqlP;(iterate 5 exact rfl))))|(apply R.isCall;first|(apply R.callE (vs:=[.agg ⟨tkC c s⟩]);(iterate 3 exact rfl);exact Ext.none _;intro w1 hw1;exact key_ok c s hs w1;rintro v Lo ⟨bk2,ov2,rfl,hov2,rfl⟩)|apply R.callP rfl rfl rfl (seed_off _ n h))|(apply R.pure;exact rfl;first|(apply Ok1.load;exact rfl;apply Ld.blkk;exact rfl;exact rfl;exact hb;exact List.not_mem_nil;exact ring_tk c hs m1 m2)|(apply Ok1.move;exact rfl)|(apply Ok1.fieldAddr;(iterate 5 exact rfl))|(apply Ok1.assign;exact rfl)|(apply Ok1.extract;exact rfl;exact rfl)|(apply Ok1.nilCheck;exact rfl)))|apply R.nil|(apply T.is;first|apply T.seq|apply T.region|apply T.skip|apply T.ret|(apply T.cond_f;exact rfl)))
  all_goals (apply RetOk.tt;exact rfl;exact rfl)
  all_goals exact ⟨_,by (focus ((repeat' (exact Keep.nil _));done)),rfl,rfl⟩
theorem rseed_ok (br:Nat) (c:Cl) (s:List Int) (hs:s.length=32) (hsb:Byt s) (m1 m2:Nat) (e:TypeId) (n:Int) (h1:0≤n) (h2:n≤3) (w:World) (hb:w.heap[br]? = some (.cells ⟨ringC c s m1 m2⟩ e (0,0))) :
    CallM Tryz.prog 177 [.pointer (some ⟨br,0,none⟩),.int .i64 n] [] w fun v L=>∃ bk' ov,v = .tuple #[.pointer (some ⟨bk',0,none⟩),.int .i64 0]∧OvOk 1 ov 32 (u8s (seedI s n))∧L=KL bk' ov (seedI s n):=by
  refine enterK (tb:=tb) Tryz.func177 rfl Tryz.ntmps177 rfl ?_
  repeat' (first|(apply R.is1;first|(apply R.isBin;(apply R.pure;exact rfl;(apply Ok1.eqlP;(iterate 5 exact rfl))))|(apply R.isCall;first|(apply R.callE (vs:=[.agg ⟨tkC c s⟩]);(iterate 3 exact rfl);exact Ext.none _;intro w1 hw1;exact key_ok c s hs w1;rintro v Lo ⟨bk2,ov2,rfl,hov2,rfl⟩)|(apply R.callE (vs:=[.pointer (some ⟨bk2,0,none⟩),.int .i64 n]);(iterate 3 exact rfl);exact Ext.none _;intro w1 hw1;exact seed_ok bk2 s (by rw [hs];decide) hsb n h1 h2 w1 (KeyR.of (by rw [hs];exact hov2) hw1 (Ext.mem (by (focus ((repeat' (exact Ext.here _ _));done)))));rintro v Lo ⟨bk3,ov3,rfl,hov3,rfl⟩))|(apply R.pure;exact rfl;first|(apply Ok1.load;exact rfl;apply Ld.blkk;exact rfl;exact rfl;exact hb;exact List.not_mem_nil;exact ring_tk c hs m1 m2)|(apply Ok1.move;exact rfl)|(apply Ok1.fieldAddr;(iterate 5 exact rfl))|(apply Ok1.assign;exact rfl)|(apply Ok1.extract;exact rfl;exact rfl)|(apply Ok1.nilCheck;exact rfl)))|apply R.nil|(apply T.is;first|apply T.seq|apply T.region|apply T.skip|apply T.ret|(apply T.cond_f;exact rfl)))
  all_goals (apply RetOk.tt;exact rfl;exact rfl)
  all_goals refine ⟨_,?_,bk3,ov3,rfl,hov3,rfl⟩
  all_goals (focus (repeat' first|exact Ext.one _ _|exact Ext.here _ _|apply Keep.cons|apply Keep.last);done)
/-- What is wrong with a kind and its place;the key for it. -/
def chE (k to:Int):Int:=if wayI k=1 then (if 0≤to∧to≤3 then 0 else 10) else if wayI k=3 then (if 1≤to∧to≤65535 then 0 else 10) else 13
def chK (s:List Int) (k to:Int):List Int:=if wayI k=1 then seedI s to else senderI s to
theorem chK_len (s:List Int) (k to:Int):(chK s k to).length=32:=by
  unfold chK
  split<;>exact derive_len _ _ _
theorem chK_byt (s:List Int) (k to:Int):Byt (chK s k to):=by
  unfold chK
  split<;>exact derive_byt _ _ _
def ChKey (s:List Int) (k to:Int) (v:Value) (L:Lst):Prop:=(chE k to≠0∧v = .tuple #[.pointer none,.int .i64 (chE k to)]∧L=[]) ∨ (chE k to=0∧∃ bk' ov,v = .tuple #[.pointer (some ⟨bk',0,none⟩),.int .i64 0]∧OvOk 1 ov 32 (u8s (chK s k to))∧L=KL bk' ov (chK s k to))
theorem chkeyG (bc bn br bb bd:Nat) (sd:List Value) (e1:TypeId) (f1:Nat × Nat) (c:Cl) (s:List Int) (hs:s.length=32) (hsb:Byt s) (m1 m2:Nat) (e:TypeId) (k to:Int) (w:World) (hc:w.heap[bc]? = some (.cells ⟨chC bn br bb bd sd⟩ e1 f1)) (hb:w.heap[br]? = some (.cells ⟨ringC c s m1 m2⟩ e (0,0))) :
    CallM Tryz.prog 120 [.pointer (some ⟨bc,0,none⟩),.int .i64 k,.int .i64 to] [] w (ChKey s k to):=by
  have hw:=way_ok k
  unfold chC at hc
  by_cases h1:wayI k=1
  · rw [h1] at hw
    by_cases ht:0≤to∧to≤3
    · have hE:chE k to=0:=by unfold chE;rw [if_pos h1,if_pos ht]
      have hK:chK s k to=seedI s to:=by unfold chK;rw [if_pos h1]
      unfold ChKey
      rw [hK]
      have hto:=fun w1 (h:Chg [] w w1)=>rseed_ok br c s hs hsb m1 m2 e to ht.1 ht.2 w1 (h.heap hb List.not_mem_nil)
      refine enterK (tb:=tb) Tryz.func120 rfl Tryz.ntmps120 rfl ?_
      repeat' (first|(apply R.is1;first|(apply R.isBin;(apply R.pure;exact rfl;(apply Ok1.eql_t;exact rfl;exact rfl;omega)))|(apply R.isCall;first|apply R.callP rfl rfl rfl hw|(apply R.callE (vs:=[.pointer (some ⟨br,0,none⟩),.int .i64 to]);(iterate 3 exact rfl);exact Ext.none _;intro w1 hw1;exact hto w1 hw1.chg;rintro x Lo ⟨bk,ov,rfl,hov,rfl⟩))|(apply R.pure;exact rfl;first|(apply Ok1.load;exact rfl;(apply Ld.blk1;exact rfl;exact rfl;exact hc;exact List.not_mem_nil;exact rfl))|(apply Ok1.move;exact rfl)|(apply Ok1.fieldAddr;(iterate 5 exact rfl))|(apply Ok1.assign;exact rfl)|(apply Ok1.extract;exact rfl;exact rfl)|(apply Ok1.nilCheck;exact rfl)))|apply R.nil|(apply T.is;first|apply T.seq|apply T.region|apply T.block|apply T.ret|(apply T.cond_t;exact rfl)))
      (apply RetOk.tt;exact rfl;exact rfl)
      exact ⟨_,by (focus (repeat' first|exact Ext.one _ _|exact Ext.here _ _|apply Keep.cons|apply Keep.last);done),.inr ⟨hE,bk,ov,rfl,hov,rfl⟩⟩
    · have hE:chE k to=10:=by unfold chE;rw [if_pos h1,if_neg ht]
      have hto:=fun w1 (h:Chg [] w w1)=>rseed_off br c s hs m1 m2 e to (by omega) w1 (h.heap hb List.not_mem_nil)
      refine enterK (tb:=tb) Tryz.func120 rfl Tryz.ntmps120 rfl ?_
      repeat' (first|(apply R.is1;first|(apply R.isBin;(apply R.pure;exact rfl;(apply Ok1.eql_t;exact rfl;exact rfl;omega)))|(apply R.isCall;first|apply R.callP rfl rfl rfl hw|(apply R.callE (vs:=[.pointer (some ⟨br,0,none⟩),.int .i64 to]);(iterate 3 exact rfl);exact Ext.none _;intro w1 hw1;exact hto w1 hw1.chg;rintro x Lo ⟨rfl,rfl⟩))|(apply R.pure;exact rfl;first|(apply Ok1.load;exact rfl;(apply Ld.blk1;exact rfl;exact rfl;exact hc;exact List.not_mem_nil;exact rfl))|(apply Ok1.move;exact rfl)|(apply Ok1.fieldAddr;(iterate 5 exact rfl))|(apply Ok1.assign;exact rfl)|(apply Ok1.extract;exact rfl;exact rfl)|(apply Ok1.nilCheck;exact rfl)))|apply R.nil|(apply T.is;first|apply T.seq|apply T.region|apply T.block|apply T.ret|(apply T.cond_t;exact rfl)))
      (apply RetOk.tt;exact rfl;exact rfl)
      exact ⟨_,by (focus ((repeat' (exact Keep.nil _));done)),.inl ⟨by rw [hE];decide,by rw [hE],rfl⟩⟩
  by_cases h3:wayI k=3
  · rw [h3] at hw
    by_cases ht:1≤to∧to≤65535
    · have hE:chE k to=0:=by unfold chE;rw [if_neg h1,if_pos h3,if_pos ht]
      have hK:chK s k to=senderI s to:=by unfold chK;rw [if_neg h1]
      unfold ChKey
      rw [hK]
      have hto:=fun w1 (h:Chg [] w w1)=>to_ok br c s hs hsb m1 m2 e to ht.1 ht.2 w1 (h.heap hb List.not_mem_nil)
      refine enterK (tb:=tb) Tryz.func120 rfl Tryz.ntmps120 rfl ?_
      repeat' (first|(apply R.is1;first|(apply R.isBin;(apply R.pure;exact rfl;first|(apply Ok1.eql_t;exact rfl;exact rfl;omega)|(apply Ok1.eql_f;exact rfl;exact rfl;omega)))|(apply R.isCall;first|apply R.callP rfl rfl rfl hw|(apply R.callE (vs:=[.pointer (some ⟨br,0,none⟩),.int .i64 to]);(iterate 3 exact rfl);exact Ext.none _;intro w1 hw1;exact hto w1 hw1.chg;rintro x Lo ⟨bk,ov,rfl,hov,rfl⟩))|(apply R.pure;exact rfl;first|(apply Ok1.load;exact rfl;(apply Ld.blk1;exact rfl;exact rfl;exact hc;exact List.not_mem_nil;exact rfl))|(apply Ok1.move;exact rfl)|(apply Ok1.fieldAddr;(iterate 5 exact rfl))|(apply Ok1.assign;exact rfl)|(apply Ok1.extract;exact rfl;exact rfl)|(apply Ok1.nilCheck;exact rfl)))|apply R.nil|(apply T.is;first|apply T.seq|apply T.region|apply T.block|apply T.ret|(apply T.cond_t;exact rfl)|(apply T.cond_f;exact rfl)))
      (apply RetOk.tt;exact rfl;exact rfl)
      exact ⟨_,by (focus (repeat' first|exact Ext.one _ _|exact Ext.here _ _|apply Keep.cons|apply Keep.last);done),.inr ⟨hE,bk,ov,rfl,hov,rfl⟩⟩
    · have hE:chE k to=10:=by unfold chE;rw [if_neg h1,if_pos h3,if_neg ht]
      have hto:=fun w1 (h:Chg [] w w1)=>to_off br c s hs m1 m2 e to (by omega) w1 (h.heap hb List.not_mem_nil)
      refine enterK (tb:=tb) Tryz.func120 rfl Tryz.ntmps120 rfl ?_
      repeat' (first|(apply R.is1;first|(apply R.isBin;(apply R.pure;exact rfl;first|(apply Ok1.eql_t;exact rfl;exact rfl;omega)|(apply Ok1.eql_f;exact rfl;exact rfl;omega)))|(apply R.isCall;first|apply R.callP rfl rfl rfl hw|(apply R.callE (vs:=[.pointer (some ⟨br,0,none⟩),.int .i64 to]);(iterate 3 exact rfl);exact Ext.none _;intro w1 hw1;exact hto w1 hw1.chg;rintro x Lo ⟨rfl,rfl⟩))|(apply R.pure;exact rfl;first|(apply Ok1.load;exact rfl;(apply Ld.blk1;exact rfl;exact rfl;exact hc;exact List.not_mem_nil;exact rfl))|(apply Ok1.move;exact rfl)|(apply Ok1.fieldAddr;(iterate 5 exact rfl))|(apply Ok1.assign;exact rfl)|(apply Ok1.extract;exact rfl;exact rfl)|(apply Ok1.nilCheck;exact rfl)))|apply R.nil|(apply T.is;first|apply T.seq|apply T.region|apply T.block|apply T.ret|(apply T.cond_t;exact rfl)|(apply T.cond_f;exact rfl)))
      (apply RetOk.tt;exact rfl;exact rfl)
      exact ⟨_,by (focus ((repeat' (exact Keep.nil _));done)),.inl ⟨by rw [hE];decide,by rw [hE],rfl⟩⟩
  · have hE:chE k to=13:=by unfold chE;rw [if_neg h1,if_neg h3]
    generalize wayI k=wk at *
    refine enterK (tb:=tb) Tryz.func120 rfl Tryz.ntmps120 rfl ?_
    repeat' (first|(apply R.is1;first|(apply R.isBin;(apply R.pure;exact rfl;(apply Ok1.eql_f;exact rfl;exact rfl;omega)))|(apply R.isCall;apply R.callP rfl rfl rfl hw)|(apply R.pure;exact rfl;first|(apply Ok1.move;exact rfl)|(apply Ok1.assign;exact rfl)))|apply R.nil|(apply T.is;first|apply T.seq|apply T.region|apply T.block|apply T.skip|apply T.ret|(apply T.cond_f;exact rfl)))
    all_goals (apply RetOk.tt;exact rfl;exact rfl)
    all_goals exact ⟨_,by (focus ((repeat' (exact Keep.nil _));done)),.inl ⟨by rw [hE];decide,by rw [hE],rfl⟩⟩
/-- What is wrong with what is to be written;its bytes. -/
def wrE (k to:Int) (n:Nat):Int:=if chE k to≠0 then chE k to else if 512 < n then 2 else 0
def wrT (s:List Int) (k:Int) (c:Cl) (to boot n:Int) (body:List Int):List Int:=if k=1 then zI 32 else pkT (chK s k to) k c to boot n body
def wrG (c:Cl) (s:List Int) (k to boot n:Int) (body:List Int):List Int:=pkB k c to boot n body (wrT s k c to boot n body)
theorem wrT_len (s:List Int) (k:Int) (c:Cl) (to boot n:Int) (body:List Int):(wrT s k c to boot n body).length=32:=by
  unfold wrT
  split
  · rfl
  · unfold pkT;exact hmac_len _ _
theorem way_kind {k:Int} (h:wayI k=1 ∨ wayI k=3):0 < k∧k < 15∧k≠2:=by
  unfold wayI at h
  (repeat' split at h)<;>omega
theorem chE_zero {k to:Int} (h:chE k to=0):(0 < k∧k < 15∧k≠2)∧0≤to∧to≤65535:=by
  unfold chE at h
  by_cases h1:wayI k=1
  · rw [if_pos h1] at h
    by_cases ht:0≤to∧to≤3
    · exact ⟨way_kind (.inl h1),by omega,by omega⟩
    · rw [if_neg ht] at h;exact absurd h (by decide)
  · rw [if_neg h1] at h
    by_cases h3:wayI k=3
    · rw [if_pos h3] at h
      by_cases ht:1≤to∧to≤65535
      · exact ⟨way_kind (.inr h3),by omega,by omega⟩
      · rw [if_neg ht] at h;exact absurd h (by decide)
    · rw [if_neg h3] at h;exact absurd h (by decide)
theorem wr_check {k to:Int} {n:Nat} (h:wrE k to n=0) {c:Cl} (hr:c.right) {boot cnt:Int} (hn:NR boot cnt) (s body:List Int):pckE k c to boot cnt n (wrT s k c to boot cnt body)=0:=by
  unfold wrE at h
  by_cases h0:chE k to=0
  · rw [if_neg (fun g=>g h0)] at h
    by_cases h5:512 < n
    · rw [if_pos h5] at h;exact absurd h (by decide)
    obtain ⟨hk,ht⟩:=chE_zero h0
    unfold pckE
    rw [if_neg (fun g=>g ⟨hk.1,hk.2.1⟩),if_neg (fun g=>g ⟨hr,ht.1,ht.2,hn⟩),if_neg h5]
    by_cases h1:k=1
    · have:wrT s k c to boot cnt body=zI 32:=by unfold wrT;rw [if_pos h1]
      rw [this,if_neg (fun g=>g.2 rfl)]
    · rw [if_neg (fun g=>by have:=g.1;omega)]
  · rw [if_pos h0] at h;exact absurd h h0
def ChWr (bn:Nat) (c:Cl) (s:List Int) (k to boot cnt:Int) (n:Nat) (body:List Int) (v:Value) (L:Lst):Prop:=(wrE k to n≠0∧v = .tuple #[.slice none 0 0,.int .i64 (wrE k to n)]∧L=[(bn,.cells ⟨[.int .i64 boot,.int .i64 cnt]⟩ 324 (0,0))]) ∨ (wrE k to n=0∧∃ ov,OvOk 1 ov (wrG c s k to boot (cnt+1) body).length (u8s (wrG c s k to boot (cnt+1) body))∧v = .tuple #[slV ov (wrG c s k to boot (cnt+1) body).length,.int .i64 0]∧L=(bn,.cells ⟨[.int .i64 boot,.int .i64 (cnt+1)]⟩ 324 (0,0))::blkL 5 ov (u8s (wrG c s k to boot (cnt+1) body)))
theorem chwriteG (bc bn br bb bd:Nat) (sd:List Value) (e1:TypeId) (f1:Nat × Nat) (c:Cl) (hr:c.right) (s:List Int) (hs:s.length=32) (hsb:Byt s) (m1 m2:Nat) (e:TypeId) (k to:Int) (boot cnt:Int) (hnr:NR boot (cnt+1)) (h0:0≤cnt) (p:Option Addr) (n cap:Nat) (body:List Int) (hn:n=body.length) (hbb:Byt body) (w:World) (hc:w.heap[bc]? = some (.cells ⟨chC bn br bb bd sd⟩ e1 f1)) (hb:w.heap[br]? = some (.cells ⟨ringC c s m1 m2⟩ e (0,0))) (hne1:bc≠bn) (hne2:br≠bn) (hbd:RdSl w p u8V body) (hq:body≠[]→Off p [bn]) :
    CallM Tryz.prog 43 [.pointer (some ⟨bc,0,none⟩),.int .i64 k,.int .i64 to,.slice p n cap] [(bn,.cells ⟨[.int .i64 boot,.int .i64 cnt]⟩ 324 (0,0))] w (ChWr bn c s k to boot cnt n body):=by
  have h3:cnt < 2147483647:=by unfold NR at hnr;omega
  have hm1:bc ∉ [bn]:=by simpa using hne1
  have hm2:br ∉ [bn]:=by simpa using hne2
  have hky:=fun w1 (h:Chg [bn] w w1)=>chkeyG bc bn br bb bd sd e1 f1 c s hs hsb m1 m2 e k to w1 (h.heap hc hm1) (h.heap hb hm2)
  by_cases hE0:chE k to=0
  case neg =>
    have hw:wrE k to n=chE k to:=by unfold wrE;rw [if_pos hE0]
    have hky2:=fun w1 h=>(hky w1 h).imp (R':=fun v L=>v = .tuple #[.pointer none,.int .i64 (chE k to)]∧L=[]) (by rintro v L (⟨_,g⟩|⟨g,_⟩);exact g;exact absurd g hE0)
    clear hky
    unfold ChWr
    rw [hw]
    generalize chE k to=E at *
    refine enterK (tb:=tb) Tryz.func43 rfl Tryz.ntmps43 rfl ?_
    repeat' (first|(apply R.is1;first|(apply R.isBin;(apply R.pure;exact rfl;first|(apply Ok1.eqlP;(iterate 5 exact rfl))|(apply Ok1.neq_t;exact rfl;exact rfl;omega)))|(apply R.isCall;(apply R.callE (vs:=[.pointer (some ⟨bc,0,none⟩),.int .i64 k,.int .i64 to]);(iterate 3 exact rfl);exact Ext.none _;intro w1 hw1;exact hky2 w1 hw1.chg;rintro x Lo ⟨rfl,rfl⟩))|(apply R.pure;exact rfl;first|(apply Ok1.move;exact rfl)|(apply Ok1.assign;exact rfl)|(apply Ok1.extract;exact rfl;exact rfl)))|apply R.nil|(apply T.is;first|apply T.seq|apply T.region|apply T.block|apply T.skip|apply T.ret|(apply T.cond_t;exact rfl)|(apply T.cond_f;exact rfl)))
    all_goals (apply RetOk.tt;exact rfl;exact rfl)
    all_goals exact ⟨_,by (focus (repeat' first|exact Keep.nil _|exact Ext.one _ _|apply Keep.cons);done),.inl ⟨hE0,rfl,rfl⟩⟩
  have hky2:=fun w1 h=>(hky w1 h).imp (R':=fun v L=>∃ bk' ov,v = .tuple #[.pointer (some ⟨bk',0,none⟩),.int .i64 0]∧OvOk 1 ov 32 (u8s (chK s k to))∧L=KL bk' ov (chK s k to)) (by rintro v L (⟨g,_⟩|⟨_,g⟩);exact absurd hE0 g;exact g)
  clear hky
  have hKl:=chK_len s k to
  have hKb:=chK_byt s k to
  by_cases h5:512 < n
  · have hw:wrE k to n=2:=by unfold wrE;rw [if_neg (fun g=>g hE0),if_pos h5]
    unfold ChWr
    rw [hw]
    generalize chK s k to=SD at *
    refine enterK (tb:=tb) Tryz.func43 rfl Tryz.ntmps43 rfl ?_
    repeat' (first|(apply R.is1;first|(apply R.isBin;(apply R.pure;exact rfl;first|(apply Ok1.eqlP;(iterate 5 exact rfl))|(apply Ok1.gtr_t;exact rfl;exact rfl;omega)|(apply Ok1.neq_f;exact rfl;exact rfl;omega)))|(apply R.isCall;first|(apply R.callE (vs:=[.pointer (some ⟨bc,0,none⟩),.int .i64 k,.int .i64 to]);(iterate 3 exact rfl);exact Ext.none _;intro w1 hw1;exact hky2 w1 hw1.chg;rintro x Lo ⟨bk,ovk,rfl,hovk,rfl⟩)|(apply R.pure;exact rfl;(apply Ok1.lenS;(iterate 3 exact rfl))))|(apply R.pure;exact rfl;first|(apply Ok1.move;exact rfl)|(apply Ok1.assign;exact rfl)|(apply Ok1.extract;exact rfl;exact rfl)))|apply R.nil|(apply T.is;first|apply T.seq|apply T.region|apply T.block|apply T.skip|apply T.ret|(apply T.cond_t;exact rfl)|(apply T.cond_f;exact rfl)))
    all_goals (apply RetOk.tt;exact rfl;exact rfl)
    all_goals exact ⟨_,by (focus (repeat' first|exact Keep.nil _|exact Ext.one _ _|apply Keep.cons|apply Ext.cons|apply Ext.app);done),.inl ⟨by decide,rfl,rfl⟩⟩
  have hw:wrE k to n=0:=by unfold wrE;rw [if_neg (fun g=>g hE0),if_neg h5]
  have hck:=wr_check hw hr hnr s body
  have hwl:=wrT_len s k c to boot (cnt+1) body
  obtain ⟨hkk,htt⟩:=chE_zero hE0
  have hz:(zI 32).length=32:=rfl
  have how:=fun w1 (h:Chg [bn] w w1)=>chown_ok bc bn br bb bd sd e1 f1 c s hs m1 m2 e w1 (h.heap hc hm1) (h.heap hb hm2)
  have hpl:=pplain_ok k
  unfold ChWr
  rw [hw]
  unfold wrG
  by_cases h1:k=1
  · have hT:wrT s k c to boot (cnt+1) body=zI 32:=by unfold wrT;rw [if_pos h1]
    rw [hT] at hck ⊢
    rw [decide_eq_true (.inl h1)] at hpl
    have hby:=fun w1 (h:Chg [bn] w w1)=>pbytes_ok k c to boot (cnt+1) p n cap (zI 32) body hz hck hn w1 (hbd.chg' h hq)
    have hl1:=pk_len k c to boot (cnt+1) p n cap hz
    have ho1:=pk_one k c to boot (cnt+1) p n cap (zI 32)
    generalize pkB k c to boot (cnt+1) body (zI 32)=PB at *
    generalize chK s k to=SD at *
    refine enterK (tb:=tb) Tryz.func43 rfl Tryz.ntmps43 rfl ?_
    simp only [pkC] at hl1 ho1 hby
    repeat' (first|(apply R.is1;first|(apply R.isBin;(apply R.pure;exact rfl;first|(apply Ok1.eqlP;(iterate 5 exact rfl))|(apply Ok1.gtr_f;exact rfl;exact rfl;omega)|(apply Ok1.neq_f;exact rfl;exact rfl;omega)))|(apply R.isCall;first|(apply R.callE (vs:=[.pointer (some ⟨bc,0,none⟩),.int .i64 k,.int .i64 to]);(iterate 3 exact rfl);exact Ext.none _;intro w1 hw1;exact hky2 w1 hw1.chg;rintro x Lo ⟨bk,ovk,rfl,hovk,rfl⟩)|(apply R.pure;exact rfl;(apply Ok1.lenS;(iterate 3 exact rfl))))|(apply R.pure;exact rfl;first|(apply Ok1.load;exact rfl;(apply Ld.blk1;exact rfl;exact rfl;exact hc;exact hm1;exact rfl))|(apply Ok1.move;exact rfl)|(apply Ok1.fieldAddr;(iterate 5 exact rfl))|(apply Ok1.assign;exact rfl)|(apply Ok1.extract;exact rfl;exact rfl)|(apply Ok1.nilCheck;exact rfl)))|apply R.nil|(apply T.is;first|apply T.seq|apply T.region|apply T.block|apply T.skip|(apply T.cond_f;exact rfl)))
    generalize KL bk ovk SD=KK at *
    repeat' (first|(apply R.is1;first|(apply R.isBin;(apply R.pure;exact rfl;(apply Ok1.neq_f;exact rfl;exact rfl;omega)))|(apply R.isCall;(apply R.callE (Li:=[(bn,.cells ⟨[.int .i64 boot,.int .i64 cnt]⟩ 324 (0,0))]) (vs:=[.pointer (some ⟨bn,0,none⟩)]);(iterate 3 exact rfl);(focus (repeat' first|exact Ext.one _ _|apply Ext.app);done);intro w1 hw1;exact wnext_ok bn boot cnt h0 h3 w1;rintro x Lo ⟨rfl,rfl⟩))|(apply R.pure;exact rfl;first|(apply Ok1.move;exact rfl)|(apply Ok1.assign;exact rfl)|(apply Ok1.extract;exact rfl;exact rfl))|(apply R.alloc;(iterate 3 exact rfl);intro))|(apply R.is0;(apply R.store;(iterate 6 exact rfl);exact Upd.head;exact rfl))|apply R.nil|(apply T.is;first|(apply T.drawC (id:=11) [0] (by decide);((apply A.tk 0;exact rfl;kernel_rfl;(apply Ok1.move;exact rfl))<;>(apply A.tk 1;exact rfl;kernel_rfl;(apply Ok1.move;exact rfl))<;>(apply A.tk 3;exact rfl;kernel_rfl;(apply Ok1.move;exact rfl))<;>(apply A.tk 4;exact rfl;kernel_rfl;(apply Ok1.load;exact rfl;(apply Ld.ownk;exact rfl;exact rfl;exact At.head;exact rfl)))<;>(apply A.tk 5;exact rfl;kernel_rfl;(apply Ok1.move;exact rfl))<;>(apply A.two 2 7;kernel_rfl;exact rfl;exact rfl;rotate_left 1;(focus (((((apply R.alloc;(iterate 3 exact rfl);intro)));apply R.nil;refine ⟨?_,?_⟩;(focus (repeat' first|exact trivial|exact At.head|apply At.tail|refine ⟨?_,?_⟩)))<;>(apply A.one 2;kernel_rfl;exact rfl;(((apply R.callE (vs:=[.pointer (some ⟨bc,0,none⟩)]);(iterate 3 exact rfl);exact Ext.none _;intro w1 hw1;exact how w1 hw1.chg;rintro x Lo ⟨rfl,rfl⟩)));apply R.nil;refine ⟨?_,?_⟩;(focus (repeat' first|exact trivial|exact At.head|apply At.tail|refine ⟨?_,?_⟩)))<;>(apply A.tk 6;exact rfl;kernel_rfl;(apply Ok1.build;(iterate 5 exact rfl)))<;>(apply A.one 8;kernel_rfl;exact rfl;(((apply R.store;(iterate 6 exact rfl);exact Upd.head;exact rfl)));apply R.nil;refine ⟨?_,?_⟩;(focus (repeat' first|exact trivial|exact At.head|apply At.tail|refine ⟨?_,?_⟩)))<;>(apply A.done;kernel_rfl)));rotate_right 1;(focus (((((apply R.callE (vs:=[.pointer (some ⟨bc,0,none⟩)]);(iterate 3 exact rfl);exact Ext.none _;intro w1 hw1;exact how w1 hw1.chg;rintro x Lo ⟨rfl,rfl⟩)));apply R.nil;refine ⟨?_,?_⟩;(focus ((repeat' (first|exact trivial|(refine ⟨?_,?_⟩;exact At.head))))))<;>(apply A.tk 6;exact rfl;kernel_rfl;(apply Ok1.build;(iterate 5 exact rfl)))<;>(apply A.one 7;kernel_rfl;exact rfl;(((apply R.alloc;(iterate 3 exact rfl);intro)));apply R.nil;refine ⟨?_,?_⟩;(focus (repeat' first|exact trivial|exact At.head|apply At.tail|refine ⟨?_,?_⟩)))<;>(apply A.one 8;kernel_rfl;exact rfl;(((apply R.store;(iterate 6 exact rfl);exact Upd.head;exact rfl)));apply R.nil;refine ⟨?_,?_⟩;(focus (repeat' first|exact trivial|exact At.head|apply At.tail|refine ⟨?_,?_⟩)))<;>(apply A.done;kernel_rfl))))))|apply T.seq|apply T.region|apply T.skip|(apply T.cond_f;exact rfl)))
    all_goals repeat' (first|(apply R.is1;first|(apply R.isCall;first|apply R.callP rfl rfl rfl hpl|(apply R.callE (vs:=[.agg _]);(iterate 3 exact rfl);exact Ext.none _;intro w1 hw1;exact hby w1 hw1.chg;rintro x Lo ⟨ovb,hovb,rfl,rfl⟩))|(apply R.pure;exact rfl;first|(apply Ok1.load;exact rfl;(apply Ld.ownk;exact rfl;exact rfl;exact At.head;exact rfl))|(apply Ok1.assign;exact rfl)|(apply Ok1.extract;exact rfl;exact rfl)|(apply Ok1.not_t;exact rfl)))|apply R.nil|(apply T.is;first|apply T.seq|apply T.region|apply T.skip|apply T.ret|(apply T.cond_f;exact rfl)))
    all_goals (apply RetOk.tt;exact rfl;exact rfl)
    all_goals exact ⟨_,by (focus (repeat' first|exact Ext.one _ _|exact Ext.here _ _|apply Keep.cons|apply Keep.last|apply Ext.cons|apply Ext.app);done),.inr ⟨rfl,ovb,hovb,rfl,rfl⟩⟩
  · have hT:wrT s k c to boot (cnt+1) body=pkT (chK s k to) k c to boot (cnt+1) body:=by unfold wrT;rw [if_neg h1]
    have hnp:¬ (k=1 ∨ k=2):=by omega
    have hE:pckE k c to boot (cnt+1) n (zI 32)=0:=by rw [pckE_np _ (wrT s k c to boot (cnt+1) body) hnp];exact hck
    rw [hT] at hck hwl ⊢
    rw [decide_eq_false hnp] at hpl
    have htg:=fun bk w1 (h:Chg [bn] w w1) hK=>ptagged_ok k c to boot (cnt+1) p n cap (zI 32) body hz hnp hE hn hbb bk (chK s k to) (by rw [hKl];decide) hKb w1 hK (hbd.chg' h hq)
    have hby:=fun p2 cap2 w1 h=>pbytes_ok k c to boot (cnt+1) p2 n cap2 (pkT (chK s k to) k c to boot (cnt+1) body) body hwl hck hn w1 h
    have hl1:=fun p2 cap2=>pk_len k c to boot (cnt+1) p2 n cap2 hwl
    have ho1:=fun p2 cap2=>pk_one k c to boot (cnt+1) p2 n cap2 (pkT (chK s k to) k c to boot (cnt+1) body)
    generalize pkT (chK s k to) k c to boot (cnt+1) body=TG at *
    generalize pkB k c to boot (cnt+1) body TG=PB at *
    generalize hSD:chK s k to=SD at *
    refine enterK (tb:=tb) Tryz.func43 rfl Tryz.ntmps43 rfl ?_
    simp only [pkC] at hl1 ho1 htg hby
    repeat' (first|(apply R.is1;first|(apply R.isBin;(apply R.pure;exact rfl;first|(apply Ok1.eqlP;(iterate 5 exact rfl))|(apply Ok1.gtr_f;exact rfl;exact rfl;omega)|(apply Ok1.neq_f;exact rfl;exact rfl;omega)))|(apply R.isCall;first|(apply R.callE (vs:=[.pointer (some ⟨bc,0,none⟩),.int .i64 k,.int .i64 to]);(iterate 3 exact rfl);exact Ext.none _;intro w1 hw1;exact hky2 w1 hw1.chg;rintro x Lo ⟨bk,ovk,rfl,hovk,rfl⟩)|(apply R.pure;exact rfl;(apply Ok1.lenS;(iterate 3 exact rfl))))|(apply R.pure;exact rfl;first|(apply Ok1.load;exact rfl;(apply Ld.blk1;exact rfl;exact rfl;exact hc;exact hm1;exact rfl))|(apply Ok1.move;exact rfl)|(apply Ok1.fieldAddr;(iterate 5 exact rfl))|(apply Ok1.assign;exact rfl)|(apply Ok1.extract;exact rfl;exact rfl)|(apply Ok1.nilCheck;exact rfl)))|apply R.nil|(apply T.is;first|apply T.seq|apply T.region|apply T.block|apply T.skip|(apply T.cond_f;exact rfl)))
    have hovk2:OvOk 1 ovk SD.length (u8s SD):=by rw [hKl];exact hovk
    have hkr:∀ L w1,Hp w [bn] L w1→(∀ z∈KL bk ovk SD,z∈L)→KeyR w1 bk SD:=fun L w1 h4 h5=>KeyR.of hovk2 h4 h5
    generalize KL bk ovk SD=KK at hkr ⊢
    repeat' (first|(apply R.is1;first|(apply R.isBin;(apply R.pure;exact rfl;(apply Ok1.neq_f;exact rfl;exact rfl;omega)))|(apply R.isCall;(apply R.callE (Li:=[(bn,.cells ⟨[.int .i64 boot,.int .i64 cnt]⟩ 324 (0,0))]) (vs:=[.pointer (some ⟨bn,0,none⟩)]);(iterate 3 exact rfl);(focus (repeat' first|exact Ext.one _ _|apply Ext.app);done);intro w1 hw1;exact wnext_ok bn boot cnt h0 h3 w1;rintro x Lo ⟨rfl,rfl⟩))|(apply R.pure;exact rfl;first|(apply Ok1.move;exact rfl)|(apply Ok1.assign;exact rfl)|(apply Ok1.extract;exact rfl;exact rfl))|(apply R.alloc;(iterate 3 exact rfl);intro))|(apply R.is0;(apply R.store;(iterate 6 exact rfl);exact Upd.head;exact rfl))|apply R.nil|(apply T.is;first|(apply T.drawC (id:=11) [0] (by decide);((apply A.tk 0;exact rfl;kernel_rfl;(apply Ok1.move;exact rfl))<;>(apply A.tk 1;exact rfl;kernel_rfl;(apply Ok1.move;exact rfl))<;>(apply A.tk 3;exact rfl;kernel_rfl;(apply Ok1.move;exact rfl))<;>(apply A.tk 4;exact rfl;kernel_rfl;(apply Ok1.load;exact rfl;(apply Ld.ownk;exact rfl;exact rfl;exact At.head;exact rfl)))<;>(apply A.tk 5;exact rfl;kernel_rfl;(apply Ok1.move;exact rfl))<;>(apply A.two 2 7;kernel_rfl;exact rfl;exact rfl;rotate_left 1;(focus (((((apply R.alloc;(iterate 3 exact rfl);intro)));apply R.nil;refine ⟨?_,?_⟩;(focus (repeat' first|exact trivial|exact At.head|apply At.tail|refine ⟨?_,?_⟩)))<;>(apply A.one 2;kernel_rfl;exact rfl;(((apply R.callE (vs:=[.pointer (some ⟨bc,0,none⟩)]);(iterate 3 exact rfl);exact Ext.none _;intro w1 hw1;exact how w1 hw1.chg;rintro x Lo ⟨rfl,rfl⟩)));apply R.nil;refine ⟨?_,?_⟩;(focus (repeat' first|exact trivial|exact At.head|apply At.tail|refine ⟨?_,?_⟩)))<;>(apply A.tk 6;exact rfl;kernel_rfl;(apply Ok1.build;(iterate 5 exact rfl)))<;>(apply A.one 8;kernel_rfl;exact rfl;(((apply R.store;(iterate 6 exact rfl);exact Upd.head;exact rfl)));apply R.nil;refine ⟨?_,?_⟩;(focus (repeat' first|exact trivial|exact At.head|apply At.tail|refine ⟨?_,?_⟩)))<;>(apply A.done;kernel_rfl)));rotate_right 1;(focus (((((apply R.callE (vs:=[.pointer (some ⟨bc,0,none⟩)]);(iterate 3 exact rfl);exact Ext.none _;intro w1 hw1;exact how w1 hw1.chg;rintro x Lo ⟨rfl,rfl⟩)));apply R.nil;refine ⟨?_,?_⟩;(focus ((repeat' (first|exact trivial|(refine ⟨?_,?_⟩;exact At.head))))))<;>(apply A.tk 6;exact rfl;kernel_rfl;(apply Ok1.build;(iterate 5 exact rfl)))<;>(apply A.one 7;kernel_rfl;exact rfl;(((apply R.alloc;(iterate 3 exact rfl);intro)));apply R.nil;refine ⟨?_,?_⟩;(focus (repeat' first|exact trivial|exact At.head|apply At.tail|refine ⟨?_,?_⟩)))<;>(apply A.one 8;kernel_rfl;exact rfl;(((apply R.store;(iterate 6 exact rfl);exact Upd.head;exact rfl)));apply R.nil;refine ⟨?_,?_⟩;(focus (repeat' first|exact trivial|exact At.head|apply At.tail|refine ⟨?_,?_⟩)))<;>(apply A.done;kernel_rfl))))))|apply T.seq|apply T.region|apply T.skip|(apply T.cond_f;exact rfl)))
    all_goals repeat' (first|(apply R.is1;first|(apply R.isBin;(apply R.pure;exact rfl;(apply Ok1.neq_f;exact rfl;exact rfl;omega)))|(apply R.isCall;first|apply R.callP rfl rfl rfl hpl|(apply R.callE (vs:=[.agg _,.pointer (some ⟨bk,0,none⟩)]);(iterate 3 exact rfl);exact Ext.none _;intro w1 hw1;exact htg bk w1 hw1.chg (hkr _ w1 hw1 (Ext.mem (by (focus (repeat' first|exact Ext.here _ _|apply Ext.cons|apply Ext.app);done))));rintro x Lo ⟨ovt,hovt,rfl,rfl⟩)|(apply R.callE (vs:=[.agg _]);(iterate 3 exact rfl);exact Ext.none _;intro w1 hw1;exact hby (ovp ovt) (ovc ovt n) w1 (RdSl.own' hw1 (Ext.mem (by rw [fl_u8];(focus ((repeat' (exact Ext.here _ _));done)))) (by rw [fl_u8,← hn];exact hovt) u8V_len);rintro x Lo ⟨ovb,hovb,rfl,rfl⟩))|(apply R.pure;exact rfl;first|(apply Ok1.load;exact rfl;first|(apply Ld.ownk;exact rfl;exact rfl;(focus (repeat' first|exact At.head|apply At.right);done);exact rfl)|(apply Ld.ownk;exact rfl;exact rfl;(focus (repeat' first|exact At.head|apply At.right);done);exact subE_all (hl1 _ _)))|(apply Ok1.move;exact rfl)|(apply Ok1.assign;exact rfl)|(apply Ok1.extract;exact rfl;exact rfl)|(apply Ok1.not_f;exact rfl)))|(apply R.is0;(apply R.store;(iterate 4 exact rfl);exact (hl1 _ _);exact (ho1 _ _);(focus (repeat' first|exact Upd.head|apply Upd.right);done);exact setE_all (hl1 _ _)))|apply R.nil|(apply T.is;first|apply T.seq|apply T.region|apply T.skip|apply T.ret|(apply T.cond_t;exact rfl)|(apply T.cond_f;exact rfl)))
    all_goals (apply RetOk.tt;exact rfl;exact rfl)
    all_goals exact ⟨_,by (focus (repeat' first|exact Ext.one _ _|exact Ext.here _ _|apply Keep.cons|apply Keep.last|apply Ext.cons|apply Ext.app);done),.inr ⟨rfl,ovb,hovb,rfl,rfl⟩⟩
theorem u64_rangeM (v:Int):0≤IntKind.u64.wrap v∧IntKind.u64.wrap v≤18446744073709551615:=by
  have:IntKind.u64.wrap v=v % 18446744073709551616:=by simp [IntKind.wrap,IntKind.bits,IntKind.signed]
  omega
theorem Hp.neT {w0 w:World} {S:List Nat} {L:Lst} {b1 b2:Nat} {c1 c2:Array Value} {e1 e2:TypeId} {f1 f2:Nat × Nat} (hw:Hp w0 S L w) (h1:At L b1 (.cells c1 e1 f1)) (h2:At L b2 (.cells c2 e2 f2)) (he:e1≠e2):b1≠b2:=by
  rintro rfl
  have g1:=hw.get _ _ h1.mem
  have g2:=hw.get _ _ h2.mem
  rw [g1] at g2
  injection g2 with g3
  injection g3 with _ g4
  exact he g4
/-- A letter that is to be written. -/
structure LT where
  k:Int
  to:Int
  p:Option Addr
  cap:Nat
  xs:List Int
instance:Inhabited LT:=⟨⟨0,0,none,0,[]⟩⟩
def LT.v (x:LT):List Value:=[.int .i64 x.k,.int .i64 x.to,.slice x.p x.xs.length x.cap]
theorem LT.v_len (x:LT):x.v.length=3:=rfl
structure LT.okR (w:World) (x:LT):Prop where
  rd:RdSl w x.p u8V x.xs
  byt:Byt x.xs
  cap:x.xs.length≤x.cap
end Go.Proofs.YtolnagbahceebaaGreat
set_option linter.unusedSimpArgs false
set_option linter.unusedVariables false
namespace Go.Proofs.YtolnagbahceebaaGreat
open Go.ChangeShapes Go.WideShapes Go.ChangeAt Go.RowKit
theorem int1_decJ {cs:List Value} (h:allW [.int .i64] cs):∃ a:Int,cs=[.int .i64 a]:=by
  match cs,h with
  | [.int k1 a],h =>
    obtain ⟨⟨rfl,_⟩,_⟩:=h
    exact ⟨a,rfl⟩
section
variable {H:Type} {enc:TypeId × Value→H} {w:World} {base:Nat} {spare:Nat→Bool} {held:Bool}
theorem u8_opensJ:Opens enc Tryz.prog w base spare held 5 fun cs=>∃ x:Int,u8V x=cs∧(0≤x∧x≤255) :=
  (Opens.flat (ks:=[.int .u8]) tb rfl rfl rfl).mono fun cs h=>by
    match cs,h with
    | [.int k1 a],h =>
      obtain ⟨⟨rfl,h2⟩,_⟩:=h
      have e0:IntKind.u8.min=0:=rfl
      have e1:IntKind.u8.max=255:=rfl
      exact ⟨a,rfl,by omega⟩
theorem lt_opens:Opens enc Tryz.prog w base spare held 116 fun cs=>∃ x:LT,x.v=cs∧x.okR w:=by
  have hi:Opens enc Tryz.prog w base spare held 3 fun cs=>∃ a:Int,cs=[.int .i64 a]:=(Opens.flat (ks:=[.int .i64]) tb rfl rfl rfl).mono fun cs h=>int1_decJ h
  have h0:=Opens.field (enc:=enc) (w:=w) (base:=base) (spare:=spare) (held:=held) tb (t:=116) rfl rfl 0 rfl hi
  have h1:=Opens.field (enc:=enc) (w:=w) (base:=base) (spare:=spare) (held:=held) tb (t:=116) rfl rfl 1 rfl hi
  have h3:=Opens.field (enc:=enc) (w:=w) (base:=base) (spare:=spare) (held:=held) tb (t:=116) rfl rfl 2 rfl (Opens.slice u8V (fun x=>0≤x∧x≤255) tb rfl rfl rfl rfl (fun _=>rfl) u8_opensJ)
  refine ((h0.and h1).and h3).mono ?_
  rintro cs ⟨⟨⟨hl,a,g0⟩,⟨_,b,g1⟩⟩,⟨_,g3⟩⟩
  obtain ⟨p,xs,cap,e3,q1,q2,_,q4,_⟩:=g3
  refine ⟨⟨a,b,p,cap,xs⟩,?_,q1,q4,q2⟩
  replace hl:cs.length=3:=hl
  match cs,hl,g0,g1,e3 with
  | [x0,x1,x2],_,g0,g1,e3 =>
    simp at g0 g1 e3
    rw [g0,g1,e3]
    rfl
end
end Go.Proofs.YtolnagbahceebaaGreat
set_option linter.unusedSimpArgs false
set_option linter.unusedVariables false
namespace Go.Proofs.YtolnagbahceebaaGreat
open Go.RowKit Go.Shelf
set_option maxRecDepth 100000
def lookW (x:En) (a b:Int):Int:=if a > x.boot ∨ (a=x.boot∧x.ctr - b < 0) then 0 else if a < x.boot ∨ 64≤x.ctr - b then 9 else if andI .u64 (x.bits / pw (x.ctr - b).toNat) 1=1 then 8 else 0
def takeW (x:En) (a b:Int):En :=
  if lookW x a b≠0 then x
  else if a > x.boot then ⟨a,b,1,x.key,x.asked⟩
  else if b > x.ctr then ⟨a,b,orI .u64 (IntKind.u64.wrap (x.bits * pw (b - x.ctr).toNat)) 1,x.key,x.asked⟩
  else ⟨x.boot,x.ctr,orI .u64 x.bits (IntKind.u64.wrap (1 * pw (x.ctr - b).toNat)),x.key,x.asked⟩
theorem wlook_ok (e:Nat) (x:En) (a b:Int) (hN:NR a b) (hc:0≤x.ctr∧x.ctr≤2147483647) (w:World) (hb:w.heap[e]? = some (.cells ⟨x.v⟩ 245 (0,0))):CallW Tryz.prog 260 [.pointer (some ⟨e,0,none⟩),.agg ⟨[.int .i64 a,.int .i64 b]⟩] w fun v _=>v = .int .i64 (lookW x a b):=by
  have hck:=nonce_ok a b
  rw [if_pos hN] at hck
  obtain ⟨n1,n2,n3,n4⟩:=hN
  obtain ⟨c1,c2⟩:=hc
  have hb64:∀ j:Int,j < 64→j.toNat≤IntKind.u64.bits:=fun j h=>by show j.toNat≤64;omega
  obtain ⟨wb,wc,bits,key,asked⟩:=x
  have e0:En.v ⟨wb,wc,bits,key,asked⟩=[.int .i64 wb,.int .i64 wc,.int .u64 bits,.pointer key,.int .i64 asked]:=rfl
  rw [e0] at hb
  simp only at c1 c2
  unfold lookW
  simp only
  refine enterW (tb:=tb) Tryz.func260 rfl Tryz.ntmps260 rfl ?_
  repeat' (first|(apply R.is1;first|(apply R.isBin;first|(apply R.pure;exact rfl;first|(apply Ok1.eqlP;(iterate 5 exact rfl))|(apply Ok1.shr;exact rfl;exact rfl;omega;(apply hb64;omega);exact rfl)|(apply Ok1.andK;exact rfl;exact rfl)|(apply Ok1.neq_f;exact rfl;exact rfl;omega))|(apply R.eql rfl rfl rfl<;>intro))|(apply R.isCall;apply R.callP rfl rfl rfl hck)|(apply R.pure;exact rfl;first|(apply Ok1.load;exact rfl;first|(apply Ld.ownk;exact rfl;exact rfl;exact At.head;exact rfl)|(apply Ld.blk1;exact rfl;exact rfl;exact hb;exact List.not_mem_nil;exact rfl))|(apply Ok1.move;exact rfl)|(apply Ok1.fieldAddr;(iterate 5 exact rfl))|(apply Ok1.assign;exact rfl)|(apply Ok1.nilCheck;exact rfl))|(apply R.box;(iterate 3 exact rfl);intro))|apply R.nil|(apply T.is;first|(apply T.drawC (id:=6) [0] (by decide);((apply A.tk 0;exact rfl;kernel_rfl;(apply Ok1.move;exact rfl))<;>(apply A.tk 1;exact rfl;kernel_rfl;(apply Ok1.nilCheck;exact rfl))<;>(apply A.tk 2;exact rfl;kernel_rfl;(apply Ok1.fieldAddr;(iterate 5 exact rfl)))<;>(apply A.tk 3;exact rfl;kernel_rfl;(apply Ok1.fieldAddr;(iterate 5 exact rfl)))<;>(apply A.tk 4;exact rfl;kernel_rfl;(apply Ok1.load;exact rfl;(apply Ld.blk1;exact rfl;exact rfl;exact hb;exact List.not_mem_nil;exact rfl)))<;>(apply A.tk 5;exact rfl;kernel_rfl;(apply Ok1.fieldAddr;(iterate 5 exact rfl)))<;>(apply A.tk 6;exact rfl;kernel_rfl;(apply Ok1.load;exact rfl;(apply Ld.own1;exact rfl;exact rfl;exact At.head;exact rfl)))<;>(apply A.tk 7;exact rfl;kernel_rfl;(apply Ok1.sub64;exact rfl;exact rfl;omega;omega))<;>(apply A.tk 8;exact rfl;kernel_rfl;(apply Ok1.assign;exact rfl))<;>(apply A.done;kernel_rfl)))|(apply T.drawC (id:=7) [0] (by decide);((apply A.tk 0;exact rfl;kernel_rfl;(apply Ok1.fieldAddr;(iterate 5 exact rfl)))<;>(apply A.tk 1;exact rfl;kernel_rfl;(apply Ok1.load;exact rfl;(apply Ld.own1;exact rfl;exact rfl;exact At.head;exact rfl)))<;>(apply A.tk 2;exact rfl;kernel_rfl;(apply Ok1.move;exact rfl))<;>(apply A.tk 3;exact rfl;kernel_rfl;(apply Ok1.nilCheck;exact rfl))<;>(apply A.tk 4;exact rfl;kernel_rfl;(apply Ok1.fieldAddr;(iterate 5 exact rfl)))<;>(apply A.tk 5;exact rfl;kernel_rfl;(apply Ok1.fieldAddr;(iterate 5 exact rfl)))<;>(apply A.tk 6;exact rfl;kernel_rfl;(apply Ok1.load;exact rfl;(apply Ld.blk1;exact rfl;exact rfl;exact hb;exact List.not_mem_nil;exact rfl)))<;>((apply A.tk 7;exact rfl;kernel_rfl;((apply Ok1.gtr;exact rfl;exact rfl));apply A.dec (t:=30);exact rfl;all_goals intro))<;>(apply A.tk 8;exact rfl;kernel_rfl;(apply Ok1.move;exact rfl))<;>(first|(apply A.skG 9;(iterate 3 exact rfl);kernel_rfl)|(apply A.tkG 9;(iterate 3 exact rfl);kernel_rfl;(apply Ok1.fieldAddr;(iterate 5 exact rfl))))<;>(first|(apply A.skG 10;(iterate 3 exact rfl);kernel_rfl)|(apply A.tkG 10;(iterate 3 exact rfl);kernel_rfl;(apply Ok1.load;exact rfl;(apply Ld.own1;exact rfl;exact rfl;exact At.head;exact rfl))))<;>(first|(apply A.skG 11;(iterate 3 exact rfl);kernel_rfl)|(apply A.tkG 11;(iterate 3 exact rfl);kernel_rfl;(apply Ok1.move;exact rfl)))<;>(first|(apply A.skG 12;(iterate 3 exact rfl);kernel_rfl)|(apply A.tkG 12;(iterate 3 exact rfl);kernel_rfl;(apply Ok1.nilCheck;exact rfl)))<;>(first|(apply A.skG 13;(iterate 3 exact rfl);kernel_rfl)|(apply A.tkG 13;(iterate 3 exact rfl);kernel_rfl;(apply Ok1.fieldAddr;(iterate 5 exact rfl))))<;>(first|(apply A.skG 14;(iterate 3 exact rfl);kernel_rfl)|(apply A.tkG 14;(iterate 3 exact rfl);kernel_rfl;(apply Ok1.fieldAddr;(iterate 5 exact rfl))))<;>(first|(apply A.skG 15;(iterate 3 exact rfl);kernel_rfl)|(apply A.tkG 15;(iterate 3 exact rfl);kernel_rfl;(apply Ok1.load;exact rfl;(apply Ld.blk1;exact rfl;exact rfl;exact hb;exact List.not_mem_nil;exact rfl))))<;>(first|(apply A.skG 16;(iterate 3 exact rfl);kernel_rfl)|(apply A.tkG 16;(iterate 3 exact rfl);kernel_rfl;((apply Ok1.eql;exact rfl;exact rfl));apply A.dec (t:=39);exact rfl;all_goals intro))<;>(first|(apply A.skG 17;(iterate 3 exact rfl);kernel_rfl)|(apply A.tkG 17;(iterate 3 exact rfl);kernel_rfl;(apply Ok1.move;exact rfl)))<;>(first|(apply A.skG 18;(iterate 3 exact rfl);kernel_rfl)|(apply A.skipU 18;exact rfl;exact rfl;rotate_left 3;exact rfl;exact rfl;rotate_right 3;kernel_rfl;kernel_rfl;kernel_rfl)|(apply A.tkG 18;(iterate 3 exact rfl);kernel_rfl;(apply Ok1.move;exact rfl)))<;>(first|(apply A.skG 19;(iterate 3 exact rfl);kernel_rfl)|(apply A.skipU 19;exact rfl;exact rfl;rotate_left 3;exact rfl;exact rfl;rotate_right 3;kernel_rfl;kernel_rfl;kernel_rfl)|(apply A.tkG 19;(iterate 3 exact rfl);kernel_rfl;((apply Ok1.lss;exact rfl;exact rfl));apply A.dec (t:=42);exact rfl;all_goals intro))<;>(first|(apply A.skG 20;(iterate 3 exact rfl);kernel_rfl)|(apply A.tkG 20;(iterate 3 exact rfl);kernel_rfl;first|(apply Ok1.pick_t;exact rfl;exact rfl)|(apply Ok1.pick_f;exact rfl;exact rfl)))<;>(apply A.tk 21;exact rfl;kernel_rfl;first|(apply Ok1.pick_t;exact rfl;exact rfl)|(apply Ok1.pick_f;exact rfl;exact rfl))<;>(apply A.tk 22;exact rfl;kernel_rfl;(apply Ok1.assign;exact rfl))<;>(apply A.done;kernel_rfl)))|(apply T.drawC (id:=9) [0] (by decide);((apply A.tk 0;exact rfl;kernel_rfl;(apply Ok1.fieldAddr;(iterate 5 exact rfl)))<;>(apply A.tk 1;exact rfl;kernel_rfl;(apply Ok1.load;exact rfl;(apply Ld.own1;exact rfl;exact rfl;exact At.head;exact rfl)))<;>(apply A.tk 2;exact rfl;kernel_rfl;(apply Ok1.move;exact rfl))<;>(apply A.tk 3;exact rfl;kernel_rfl;(apply Ok1.nilCheck;exact rfl))<;>(apply A.tk 4;exact rfl;kernel_rfl;(apply Ok1.fieldAddr;(iterate 5 exact rfl)))<;>(apply A.tk 5;exact rfl;kernel_rfl;(apply Ok1.fieldAddr;(iterate 5 exact rfl)))<;>(apply A.tk 6;exact rfl;kernel_rfl;(apply Ok1.load;exact rfl;(apply Ld.blk1;exact rfl;exact rfl;exact hb;exact List.not_mem_nil;exact rfl)))<;>((apply A.tk 7;exact rfl;kernel_rfl;first|(apply Ok1.lss_t;exact rfl;exact rfl;omega)|(apply Ok1.lss_f;exact rfl;exact rfl;omega)))<;>(apply A.tk 8;exact rfl;kernel_rfl;(apply Ok1.move;exact rfl))<;>(first|(apply A.skG 9;(iterate 3 exact rfl);kernel_rfl)|(apply A.tkG 9;(iterate 3 exact rfl);kernel_rfl;(apply Ok1.move;exact rfl)))<;>(first|(apply A.skG 10;(iterate 3 exact rfl);kernel_rfl)|(apply A.tkG 10;(iterate 3 exact rfl);kernel_rfl;((apply Ok1.geq;exact rfl;exact rfl));apply A.dec (t:=56);exact rfl;all_goals intro))<;>(apply A.tk 11;exact rfl;kernel_rfl;first|(apply Ok1.pick_t;exact rfl;exact rfl)|(apply Ok1.pick_f;exact rfl;exact rfl))<;>(apply A.tk 12;exact rfl;kernel_rfl;(apply Ok1.assign;exact rfl))<;>(apply A.done;kernel_rfl)))|apply T.seq|apply T.region|apply T.block|apply T.skip|apply T.ret|(apply T.cond_t;exact rfl)|(apply T.cond_f;exact rfl)))
  all_goals (apply RetOk.t;exact rfl)
  all_goals (repeat' split)<;>first|rfl|(exfalso;omega)
theorem wtake_ok (e:Nat) (x:En) (a b:Int) (hN:NR a b) (hc:0≤x.ctr∧x.ctr≤64) (hb6:b≤64) (w:World):CallM Tryz.prog 236 [.pointer (some ⟨e,0,none⟩),.agg ⟨[.int .i64 a,.int .i64 b]⟩] [(e,.cells ⟨x.v⟩ 245 (0,0))] w fun v L=>v = .int .i64 (lookW x a b)∧L=[(e,.cells ⟨(takeW x a b).v⟩ 245 (0,0))]:=by
  have hlk:=fun w1 h=>wlook_ok e x a b hN ⟨hc.1,by omega⟩ w1 h
  obtain ⟨n1,n2,n3,n4⟩:=hN
  obtain ⟨c1,c2⟩:=hc
  have hb64:∀ j:Int,j≤64→j.toNat≤IntKind.u64.bits:=fun j h=>by show j.toNat≤64;omega
  unfold takeW
  have hl8:lookW x a b=0→¬ a < x.boot:=fun h h2=>by
    unfold lookW at h
    rw [if_neg (by omega),if_pos (by omega)] at h
    omega
  generalize lookW x a b=E at *
  obtain ⟨wb,wc,bits,key,asked⟩:=x
  have e0:En.v ⟨wb,wc,bits,key,asked⟩=[.int .i64 wb,.int .i64 wc,.int .u64 bits,.pointer key,.int .i64 asked]:=rfl
  rw [e0] at hlk ⊢
  simp only at c1 c2 hl8 ⊢
  refine enterK (tb:=tb) Tryz.func236 rfl Tryz.ntmps236 rfl ?_
  repeat' (first|(apply R.is1;first|(apply R.isBin;(apply R.neq rfl rfl rfl<;>intro))|(apply R.isCall;(apply R.callV (vs:=[.pointer (some ⟨e,0,none⟩),.agg ⟨[.int .i64 a,.int .i64 b]⟩]);(iterate 3 exact rfl);intro w1 hw1;exact hlk w1 (hw1.get _ _ (At.mem (by (focus (repeat' first|exact At.head|apply At.tail);done))))))|(apply R.pure;exact rfl;first|(apply Ok1.load;exact rfl;(apply Ld.ownk;exact rfl;exact rfl;exact At.head;exact rfl))|(apply Ok1.move;exact rfl)|(apply Ok1.fieldAddr;(iterate 5 exact rfl))|(apply Ok1.assign;exact rfl)|(apply Ok1.nilCheck;exact rfl))|(apply R.box;(iterate 3 exact rfl);intro))|(apply R.is0;(apply R.store;(iterate 6 exact rfl);(focus (repeat' first|exact Upd.head|apply Upd.tail);done);exact rfl))|apply R.nil|(apply T.is;first|(apply T.drawC (id:=5) [0,1] (by decide);((apply A.tk 0;exact rfl;kernel_rfl;(apply Ok1.fieldAddr;(iterate 5 exact rfl)))<;>(apply A.tk 1;exact rfl;kernel_rfl;(apply Ok1.load;exact rfl;(apply Ld.own1;exact rfl;exact rfl;exact At.head;exact rfl)))<;>(apply A.tk 2;exact rfl;kernel_rfl;(apply Ok1.move;exact rfl))<;>(apply A.tk 3;exact rfl;kernel_rfl;(apply Ok1.nilCheck;exact rfl))<;>(apply A.tk 4;exact rfl;kernel_rfl;(apply Ok1.fieldAddr;(iterate 5 exact rfl)))<;>(apply A.tk 5;exact rfl;kernel_rfl;(apply Ok1.fieldAddr;(iterate 5 exact rfl)))<;>(apply A.tk 6;exact rfl;kernel_rfl;(apply Ok1.load;exact rfl;(apply Ld.own1;exact rfl;exact rfl;(focus (repeat' first|exact At.head|apply At.tail);done);exact rfl)))<;>((apply A.tk 7;exact rfl;kernel_rfl;((apply Ok1.gtr;exact rfl;exact rfl));apply A.dec (t:=36);exact rfl;all_goals intro))<;>(apply A.tk 8;exact rfl;kernel_rfl;(apply Ok1.assign;exact rfl))<;>(apply A.done;kernel_rfl)))|(apply T.drawC (id:=7) [0,1] (by decide);((apply A.tk 0;exact rfl;kernel_rfl;(apply Ok1.fieldAddr;(iterate 5 exact rfl)))<;>(apply A.tk 1;exact rfl;kernel_rfl;(apply Ok1.load;exact rfl;(apply Ld.own1;exact rfl;exact rfl;exact At.head;exact rfl)))<;>(apply A.tk 2;exact rfl;kernel_rfl;(apply Ok1.move;exact rfl))<;>(apply A.tk 3;exact rfl;kernel_rfl;(apply Ok1.nilCheck;exact rfl))<;>(apply A.tk 4;exact rfl;kernel_rfl;(apply Ok1.fieldAddr;(iterate 5 exact rfl)))<;>(apply A.tk 5;exact rfl;kernel_rfl;(apply Ok1.fieldAddr;(iterate 5 exact rfl)))<;>(apply A.tk 6;exact rfl;kernel_rfl;(apply Ok1.load;exact rfl;(apply Ld.own1;exact rfl;exact rfl;(focus (repeat' first|exact At.head|apply At.tail);done);exact rfl)))<;>((apply A.tk 7;exact rfl;kernel_rfl;((apply Ok1.gtr;exact rfl;exact rfl));apply A.dec (t:=52);exact rfl;all_goals intro))<;>(apply A.tk 8;exact rfl;kernel_rfl;(apply Ok1.assign;exact rfl))<;>(apply A.done;kernel_rfl)))|(apply T.drawC (id:=8) [0] (by decide);((apply A.tk 0;exact rfl;kernel_rfl;(apply Ok1.move;exact rfl))<;>(apply A.tk 1;exact rfl;kernel_rfl;(apply Ok1.move;exact rfl))<;>(apply A.tk 2;exact rfl;kernel_rfl;(apply Ok1.nilCheck;exact rfl))<;>(apply A.tk 3;exact rfl;kernel_rfl;(apply Ok1.fieldAddr;(iterate 5 exact rfl)))<;>(apply A.tk 5;exact rfl;kernel_rfl;(apply Ok1.fieldAddr;(iterate 5 exact rfl)))<;>(apply A.tk 6;exact rfl;kernel_rfl;(apply Ok1.load;exact rfl;(apply Ld.own1;exact rfl;exact rfl;exact At.head;exact rfl)))<;>(apply A.tk 7;exact rfl;kernel_rfl;(apply Ok1.move;exact rfl))<;>(apply A.tk 8;exact rfl;kernel_rfl;(apply Ok1.nilCheck;exact rfl))<;>(apply A.tk 9;exact rfl;kernel_rfl;(apply Ok1.fieldAddr;(iterate 5 exact rfl)))<;>(apply A.tk 10;exact rfl;kernel_rfl;(apply Ok1.fieldAddr;(iterate 5 exact rfl)))<;>(apply A.two 4 11;kernel_rfl;exact rfl;exact rfl;rotate_left 1;(focus (((((apply R.pure;exact rfl;(apply Ok1.load;exact rfl;(apply Ld.own1;exact rfl;exact rfl;(focus (repeat' first|exact At.head|apply At.tail);done);exact rfl)))));apply R.nil;refine ⟨?_,?_⟩;(focus ((repeat' (first|exact trivial|(refine ⟨?_,?_⟩;exact At.head))))))<;>(apply A.tk 12;exact rfl;kernel_rfl;(apply Ok1.sub64;exact rfl;exact rfl;omega;omega))<;>(apply A.one 4;kernel_rfl;exact rfl;(((apply R.pure;exact rfl;(apply Ok1.load;exact rfl;(apply Ld.own1;exact rfl;exact rfl;(focus (repeat' first|exact At.head|apply At.tail);done);exact rfl)))));apply R.nil;refine ⟨?_,?_⟩;(focus ((repeat' (first|exact trivial|(refine ⟨?_,?_⟩;exact At.head))))))<;>(apply A.tk 13;exact rfl;kernel_rfl;(apply Ok1.shl;exact rfl;exact rfl;omega;(apply hb64;omega);exact rfl))<;>(apply A.tk 14;exact rfl;kernel_rfl;(apply Ok1.orK;exact rfl;exact rfl))<;>(apply A.tk 15;exact rfl;kernel_rfl;(apply Ok1.nilCheck;exact rfl))<;>(apply A.tk 16;exact rfl;kernel_rfl;(apply Ok1.fieldAddr;(iterate 5 exact rfl)))<;>(apply A.one 17;kernel_rfl;exact rfl;(((apply R.store;(iterate 6 exact rfl);(focus (repeat' first|exact Upd.head|apply Upd.tail);done);exact rfl)));apply R.nil;refine ⟨?_,?_⟩;(focus ((repeat' (first|exact trivial|(refine ⟨?_,?_⟩;exact At.head))))))<;>(apply A.done;kernel_rfl)));rotate_right 1;(focus (((((apply R.pure;exact rfl;(apply Ok1.load;exact rfl;(apply Ld.own1;exact rfl;exact rfl;(focus (repeat' first|exact At.head|apply At.tail);done);exact rfl)))));apply R.nil;refine ⟨?_,?_⟩;(focus ((repeat' (first|exact trivial|(refine ⟨?_,?_⟩;exact At.head))))))<;>(apply A.one 11;kernel_rfl;exact rfl;(((apply R.pure;exact rfl;(apply Ok1.load;exact rfl;(apply Ld.own1;exact rfl;exact rfl;(focus (repeat' first|exact At.head|apply At.tail);done);exact rfl)))));apply R.nil;refine ⟨?_,?_⟩;(focus ((repeat' (first|exact trivial|(refine ⟨?_,?_⟩;exact At.head))))))<;>(apply A.tk 12;exact rfl;kernel_rfl;(apply Ok1.sub64;exact rfl;exact rfl;omega;omega))<;>(apply A.tk 13;exact rfl;kernel_rfl;(apply Ok1.shl;exact rfl;exact rfl;omega;(apply hb64;omega);exact rfl))<;>(apply A.tk 14;exact rfl;kernel_rfl;(apply Ok1.orK;exact rfl;exact rfl))<;>(apply A.tk 15;exact rfl;kernel_rfl;(apply Ok1.nilCheck;exact rfl))<;>(apply A.tk 16;exact rfl;kernel_rfl;(apply Ok1.fieldAddr;(iterate 5 exact rfl)))<;>(apply A.one 17;kernel_rfl;exact rfl;(((apply R.store;(iterate 6 exact rfl);(focus (repeat' first|exact Upd.head|apply Upd.tail);done);exact rfl)));apply R.nil;refine ⟨?_,?_⟩;(focus ((repeat' (first|exact trivial|(refine ⟨?_,?_⟩;exact At.head))))))<;>(apply A.done;kernel_rfl))))))|(apply T.drawC (id:=4) [0] (by decide);((apply A.tk 0;exact rfl;kernel_rfl;(apply Ok1.move;exact rfl))<;>(apply A.tk 1;exact rfl;kernel_rfl;(apply Ok1.nilCheck;exact rfl))<;>(apply A.tk 2;exact rfl;kernel_rfl;(apply Ok1.fieldAddr;(iterate 5 exact rfl)))<;>(apply A.tk 4;exact rfl;kernel_rfl;(apply Ok1.move;exact rfl))<;>(apply A.tk 5;exact rfl;kernel_rfl;(apply Ok1.nilCheck;exact rfl))<;>(apply A.tk 6;exact rfl;kernel_rfl;(apply Ok1.fieldAddr;(iterate 5 exact rfl)))<;>(apply A.tk 7;exact rfl;kernel_rfl;(apply Ok1.fieldAddr;(iterate 5 exact rfl)))<;>(apply A.tk 9;exact rfl;kernel_rfl;(apply Ok1.fieldAddr;(iterate 5 exact rfl)))<;>(apply A.tk 10;exact rfl;kernel_rfl;(apply Ok1.load;exact rfl;(apply Ld.own1;exact rfl;exact rfl;exact At.head;exact rfl)))<;>(apply A.two 3 8;kernel_rfl;exact rfl;exact rfl;rotate_left 1;(focus (((((apply R.pure;exact rfl;(apply Ok1.load;exact rfl;(apply Ld.own1;exact rfl;exact rfl;(focus (repeat' first|exact At.head|apply At.tail);done);exact rfl)))));apply R.nil;refine ⟨?_,?_⟩;(focus ((repeat' (first|exact trivial|(refine ⟨?_,?_⟩;exact At.head))))))<;>(apply A.tk 11;exact rfl;kernel_rfl;(apply Ok1.sub64;exact rfl;exact rfl;omega;omega))<;>(apply A.tk 12;exact rfl;kernel_rfl;(apply Ok1.shl;exact rfl;exact rfl;omega;(apply hb64;omega);exact rfl))<;>(apply A.one 3;kernel_rfl;exact rfl;(((apply R.pure;exact rfl;(apply Ok1.load;exact rfl;(apply Ld.own1;exact rfl;exact rfl;(focus (repeat' first|exact At.head|apply At.tail);done);exact rfl)))));apply R.nil;refine ⟨?_,?_⟩;(focus ((repeat' (first|exact trivial|(refine ⟨?_,?_⟩;exact At.head))))))<;>(apply A.tk 13;exact rfl;kernel_rfl;(apply Ok1.orK;exact rfl;exact rfl))<;>(apply A.tk 14;exact rfl;kernel_rfl;(apply Ok1.nilCheck;exact rfl))<;>(apply A.tk 15;exact rfl;kernel_rfl;(apply Ok1.fieldAddr;(iterate 5 exact rfl)))<;>(apply A.one 16;kernel_rfl;exact rfl;(((apply R.store;(iterate 6 exact rfl);(focus (repeat' first|exact Upd.head|apply Upd.tail);done);exact rfl)));apply R.nil;refine ⟨?_,?_⟩;(focus ((repeat' (first|exact trivial|(refine ⟨?_,?_⟩;exact At.head))))))<;>(apply A.done;kernel_rfl)));rotate_right 1;(focus (((((apply R.pure;exact rfl;(apply Ok1.load;exact rfl;(apply Ld.own1;exact rfl;exact rfl;(focus (repeat' first|exact At.head|apply At.tail);done);exact rfl)))));apply R.nil;refine ⟨?_,?_⟩;(focus ((repeat' (first|exact trivial|(refine ⟨?_,?_⟩;exact At.head))))))<;>(apply A.one 8;kernel_rfl;exact rfl;(((apply R.pure;exact rfl;(apply Ok1.load;exact rfl;(apply Ld.own1;exact rfl;exact rfl;(focus (repeat' first|exact At.head|apply At.tail);done);exact rfl)))));apply R.nil;refine ⟨?_,?_⟩;(focus ((repeat' (first|exact trivial|(refine ⟨?_,?_⟩;exact At.head))))))<;>(apply A.tk 11;exact rfl;kernel_rfl;(apply Ok1.sub64;exact rfl;exact rfl;omega;omega))<;>(apply A.tk 12;exact rfl;kernel_rfl;(apply Ok1.shl;exact rfl;exact rfl;omega;(apply hb64;omega);exact rfl))<;>(apply A.tk 13;exact rfl;kernel_rfl;(apply Ok1.orK;exact rfl;exact rfl))<;>(apply A.tk 14;exact rfl;kernel_rfl;(apply Ok1.nilCheck;exact rfl))<;>(apply A.tk 15;exact rfl;kernel_rfl;(apply Ok1.fieldAddr;(iterate 5 exact rfl)))<;>(apply A.one 16;kernel_rfl;exact rfl;(((apply R.store;(iterate 6 exact rfl);(focus (repeat' first|exact Upd.head|apply Upd.tail);done);exact rfl)));apply R.nil;refine ⟨?_,?_⟩;(focus ((repeat' (first|exact trivial|(refine ⟨?_,?_⟩;exact At.head))))))<;>(apply A.done;kernel_rfl))))))|apply T.seq|apply T.region|apply T.block|apply T.skip|apply T.ret|(apply T.cond_t;exact rfl)|(apply T.cond_f;exact rfl)))
  · (apply RetOk.t;exact rfl)
    rename_i h
    simp only [if_pos h]
    exact ⟨_,by rw [e0];(focus (repeat' first|exact Keep.nil _|exact Ext.one _ _|apply Keep.cons|apply Ext.cons);done),trivial,rfl⟩
  all_goals (apply RetOk.t;exact rfl)
  · rename_i h0 h1
    subst h0
    simp only [if_neg (show ¬ ((0:Int)≠0) from fun h=>h rfl),if_pos (show a > wb from h1)]
    simp only [En.v]
    exact ⟨_,by (focus (repeat' first|exact Keep.nil _|exact Ext.one _ _|apply Keep.cons|apply Ext.cons);done),trivial,rfl⟩
  all_goals rename_i h0 h1 h2
  all_goals subst h0
  all_goals simp only [if_neg (show ¬ ((0:Int)≠0) from fun h=>h rfl),if_neg (show ¬ a > wb from h1)]
  all_goals first
    | (simp only [if_pos (show b > wc from h2),En.v];exact ⟨_,by (focus (repeat' first|exact Keep.nil _|exact Ext.one _ _|apply Keep.cons|apply Ext.cons);done),trivial,rfl⟩)
    | (simp only [if_neg (show ¬ b > wc from h2),En.v];exact ⟨_,by (focus (repeat' first|exact Keep.nil _|exact Ext.one _ _|apply Keep.cons|apply Ext.cons);done),trivial,rfl⟩)
/-- A book with one entry. -/
def B1 (b bm blk:Nat) (c:Cl) (x:En):Lst:=BL b bm [⟨c,blk,0,x⟩] 1
theorem b1_get (blk:Nat) (c:Cl) (x:En):mget c (bms [⟨c,blk,0,x⟩])=some blk:=by simp [bms,mget]
theorem B1.eq (b bm blk:Nat) (c:Cl) (x:En):B1 b bm blk c x=[(b,.cells ⟨[.map (some bm)]⟩ 243 (0,0)),(bm,mobj kvC vvP (bms [⟨c,blk,0,x⟩]) 1),(blk,.cells ⟨x.v⟩ 245 (0,0))]:=rfl
theorem known_ok1 (b bm blk:Nat) (c:Cl) (x:En) (k:Addr) (hk:x.key=some k) (w:World):CallM Tryz.prog 261 [.pointer (some ⟨b,0,none⟩),kvC c] (B1 b bm blk c x) w fun v L=>v = .tuple #[.pointer (some ⟨blk,0,none⟩),.int .i64 0]∧L=B1 b bm blk c x:=by
  have hm:=b1_get blk c x
  obtain ⟨wb,wc,bits,key,asked⟩:=x
  simp only at hk
  subst hk
  rw [B1.eq]
  have e0:En.v ⟨wb,wc,bits,some k,asked⟩=[.int .i64 wb,.int .i64 wc,.int .u64 bits,.pointer (some k),.int .i64 asked]:=rfl
  rw [e0]
  generalize bms [⟨c,blk,0,⟨wb,wc,bits,some k,asked⟩⟩]=ms at *
  refine enterK (tb:=tb) Tryz.func261 rfl Tryz.ntmps261 rfl ?_
  simp only [kvC]
  repeat' (first|(apply R.is1;first|(apply R.isBin;(apply R.pure;exact rfl;(apply Ok1.eqlP;(iterate 5 exact rfl))))|(apply R.pure;exact rfl;first|(apply Ok1.move;exact rfl)|(apply Ok1.assign;exact rfl))|(apply R.box;(iterate 3 exact rfl);intro))|apply R.nil|(apply T.is;first|(apply T.drawC (id:=3) [0,1,2] (by decide);((apply A.tk 0;exact rfl;kernel_rfl;(apply Ok1.move;exact rfl))<;>(apply A.tk 1;exact rfl;kernel_rfl;(apply Ok1.nilCheck;exact rfl))<;>(apply A.tk 2;exact rfl;kernel_rfl;(apply Ok1.fieldAddr;(iterate 5 exact rfl)))<;>(apply A.tk 3;exact rfl;kernel_rfl;(apply Ok1.load;exact rfl;(apply Ld.own1;exact rfl;exact rfl;(focus (repeat' first|exact At.head|apply At.tail);done);exact rfl)))<;>(apply A.tk 4;exact rfl;kernel_rfl;(apply Ok1.load;exact rfl;(apply Ld.ownk;exact rfl;exact rfl;exact At.head;exact rfl)))<;>(apply A.tk 5;exact rfl;kernel_rfl;(apply Ok1.lookup_some (kv:=kvC) (vv:=vvP) c ktK;(iterate 6 exact rfl);(focus (repeat' first|exact At.head|apply At.tail);done);assumption;(exact (if_neg Bool.false_ne_true).symm)))<;>((apply A.tk 6;exact rfl;kernel_rfl;(apply Ok1.eqlP;(iterate 5 exact rfl))))<;>(apply A.tk 7;exact rfl;kernel_rfl;(apply Ok1.assign;exact rfl))<;>(apply A.done;kernel_rfl)))|(apply T.drawC (id:=5) [0,1,2,3] (by decide);((apply A.tk 0;exact rfl;kernel_rfl;(apply Ok1.move;exact rfl))<;>(apply A.tk 1;exact rfl;kernel_rfl;(apply Ok1.nilCheck;exact rfl))<;>(apply A.tk 2;exact rfl;kernel_rfl;(apply Ok1.fieldAddr;(iterate 5 exact rfl)))<;>(apply A.tk 3;exact rfl;kernel_rfl;(apply Ok1.load;exact rfl;(apply Ld.own1;exact rfl;exact rfl;(focus (repeat' first|exact At.head|apply At.tail);done);exact rfl)))<;>(apply A.tk 4;exact rfl;kernel_rfl;(apply Ok1.load;exact rfl;(apply Ld.ownk;exact rfl;exact rfl;exact At.head;exact rfl)))<;>(apply A.tk 5;exact rfl;kernel_rfl;(apply Ok1.lookup_some (kv:=kvC) (vv:=vvP) c ktK;(iterate 6 exact rfl);(focus (repeat' first|exact At.head|apply At.tail);done);assumption;(exact (if_neg Bool.false_ne_true).symm)))<;>(apply A.tk 6;exact rfl;kernel_rfl;(apply Ok1.nilCheck;exact rfl))<;>(apply A.tk 7;exact rfl;kernel_rfl;(apply Ok1.fieldAddr;(iterate 5 exact rfl)))<;>(apply A.tk 8;exact rfl;kernel_rfl;(apply Ok1.load;exact rfl;(apply Ld.own1;exact rfl;exact rfl;(focus (repeat' first|exact At.head|apply At.tail);done);exact rfl)))<;>((apply A.tk 9;exact rfl;kernel_rfl;(apply Ok1.eqlP;(iterate 5 exact rfl))))<;>(apply A.tk 10;exact rfl;kernel_rfl;(apply Ok1.assign;exact rfl))<;>(apply A.done;kernel_rfl)))|(apply T.drawC (id:=7) [0,1,2] (by decide);((apply A.tk 0;exact rfl;kernel_rfl;(apply Ok1.move;exact rfl))<;>(apply A.tk 1;exact rfl;kernel_rfl;(apply Ok1.nilCheck;exact rfl))<;>(apply A.tk 2;exact rfl;kernel_rfl;(apply Ok1.fieldAddr;(iterate 5 exact rfl)))<;>(apply A.tk 3;exact rfl;kernel_rfl;(apply Ok1.load;exact rfl;(apply Ld.own1;exact rfl;exact rfl;(focus (repeat' first|exact At.head|apply At.tail);done);exact rfl)))<;>(apply A.tk 4;exact rfl;kernel_rfl;(apply Ok1.load;exact rfl;(apply Ld.ownk;exact rfl;exact rfl;exact At.head;exact rfl)))<;>(apply A.tk 5;exact rfl;kernel_rfl;(apply Ok1.lookup_some (kv:=kvC) (vv:=vvP) c ktK;(iterate 6 exact rfl);(focus (repeat' first|exact At.head|apply At.tail);done);assumption;(exact (if_neg Bool.false_ne_true).symm)))<;>(apply A.tk 6;exact rfl;kernel_rfl;(apply Ok1.assign;exact rfl))<;>(apply A.tk 7;exact rfl;kernel_rfl;(apply Ok1.assign;exact rfl))<;>(apply A.done;kernel_rfl)))|apply T.seq|apply T.region|apply T.block|apply T.skip|apply T.ret|(apply T.cond_f;exact rfl)))
  (apply RetOk.tt;exact rfl;exact rfl)
  exact ⟨_,by (focus (repeat' first|exact Keep.nil _|exact Ext.one _ _|apply Keep.cons|apply Ext.cons);done),rfl,rfl⟩
theorem btake_ok (b bm blk:Nat) (c:Cl) (x:En) (k:Addr) (hk:x.key=some k) (n1 n2:Int) (hN:NR n1 n2) (hc:0≤x.ctr∧x.ctr≤64) (hb6:n2≤64) (w:World):CallM Tryz.prog 239 [.pointer (some ⟨b,0,none⟩),kvC c,.agg ⟨[.int .i64 n1,.int .i64 n2]⟩] (B1 b bm blk c x) w fun v L=>v = .int .i64 (lookW x n1 n2)∧L=B1 b bm blk c (takeW x n1 n2):=by
  have hkn:=fun w1=>known_ok1 b bm blk c x k hk w1
  have htk:=fun w1=>wtake_ok blk x n1 n2 hN hc hb6 w1
  have hbs:∀ y:En,bms [⟨c,blk,0,y⟩]=bms [⟨c,blk,0,x⟩]:=fun y=>rfl
  simp only [B1.eq,hbs] at hkn ⊢
  generalize bms [⟨c,blk,0,x⟩]=ms at *
  generalize lookW x n1 n2=E at *
  generalize (takeW x n1 n2).v=V2 at *
  generalize x.v=V1 at *
  refine enterK (tb:=tb) Tryz.func239 rfl Tryz.ntmps239 rfl ?_
  simp only [kvC] at hkn ⊢
  repeat' (first|(apply R.is1;first|(apply R.isBin;(apply R.pure;exact rfl;(apply Ok1.neq_f;exact rfl;exact rfl;omega)))|(apply R.isCall;(apply R.callE (Li:=[(b,.cells ⟨[.map (some bm)]⟩ 243 (0,0)),(bm,mobj kvC vvP ms 1),(blk,.cells ⟨V1⟩ 245 (0,0))]) (vs:=[.pointer (some ⟨b,0,none⟩),.agg ⟨[.int .i64 c.id,.int .i64 c.roles,.int .i64 c.exp,.int .i64 c.ser]⟩]);(iterate 3 exact rfl);(focus (repeat' first|exact Ext.all _|apply Ext.cons);done);intro w1 hw1;exact hkn w1;rintro v Lo ⟨rfl,rfl⟩;simp only [List.cons_append,List.nil_append]))|(apply R.pure;exact rfl;first|(apply Ok1.load;exact rfl;(apply Ld.ownk;exact rfl;exact rfl;(focus (repeat' first|exact At.head|apply At.tail);done);exact rfl))|(apply Ok1.move;exact rfl)|(apply Ok1.assign;exact rfl)|(apply Ok1.extract;exact rfl;exact rfl))|(apply R.box;(iterate 3 exact rfl);intro))|apply R.nil|(apply T.is;first|(apply T.drawC (id:=4) [3] (by decide);((apply A.tk 0;exact rfl;kernel_rfl;(apply Ok1.move;exact rfl))<;>(apply A.tk 1;exact rfl;kernel_rfl;(apply Ok1.nilCheck;exact rfl))<;>(apply A.tk 2;exact rfl;kernel_rfl;(apply Ok1.fieldAddr;(iterate 5 exact rfl)))<;>(apply A.tk 3;exact rfl;kernel_rfl;(apply Ok1.load;exact rfl;(apply Ld.ownk;exact rfl;exact rfl;exact At.head;exact rfl)))<;>(apply A.one 4;kernel_rfl;exact rfl;(((apply R.callE (Li:=[(blk,.cells ⟨V1⟩ 245 (0,0))]) (vs:=[.pointer (some ⟨blk,0,none⟩),.agg ⟨[.int .i64 n1,.int .i64 n2]⟩]);(iterate 3 exact rfl);(focus (repeat' first|exact Ext.one _ _|apply Ext.cons);done);intro w1 hw1;exact htk w1;rintro v Lo ⟨rfl,rfl⟩)));apply R.nil;refine ⟨?_,?_⟩;(focus (repeat' first|exact trivial|exact At.head|apply At.tail|refine ⟨?_,?_⟩)))<;>(apply A.tk 5;exact rfl;kernel_rfl;(apply Ok1.assign;exact rfl))<;>(apply A.done;kernel_rfl)))|apply T.seq|apply T.region|apply T.skip|apply T.ret|(apply T.cond_f;exact rfl)))
  (apply RetOk.t;exact rfl)
  exact ⟨_,by (focus (repeat' first|exact Keep.nil _|exact Ext.one _ _|apply Keep.cons|apply Ext.cons);done),rfl,rfl⟩
theorem KeyR.stay {ov:Ov} {bk:Nat} {xs:List Int} (hov:OvOk 1 ov xs.length (u8s xs)) {w0 w:World} {S:List Nat} {L Li Lr:Lst} (hw:Hp w0 S L w) (he:Ext L Li Lr) (hin:∀ z∈KL bk ov xs,z∈Lr):∀ w1,Chg (blks Li) w w1→KeyR w1 bk xs:=fun w1 hc=>by
  refine ⟨ovp ov,ovc ov xs.length,?_,(rdown hov hw fun z hz=>he.perm.subset (List.mem_append_right _ (hin z (List.mem_cons_of_mem _ hz)))).chg' hc fun _=>ovoff hw he fun z hz=>hin z (List.mem_cons_of_mem _ hz)⟩
  rw [← slV_eq hov]
  exact hc.heap (hw.get _ _ (he.perm.subset (List.mem_append_right _ (hin _ List.mem_cons_self)))) (RdSl.off hw he (hin _ List.mem_cons_self))
theorem bkey_ok (b bm blk:Nat) (c:Cl) (x:En) (bk:Nat) (K:List Int) (hk:x.key=some ⟨bk,0,none⟩) (hK:K.length≤1000000) (w:World) (hkc:∀ w1,Chg (blks (B1 b bm blk c x)) w w1→KeyR w1 bk K):CallM Tryz.prog 238 [.pointer (some ⟨b,0,none⟩),kvC c] (B1 b bm blk c x) w fun v L=>∃ bk2 ov2,v = .tuple #[.pointer (some ⟨bk2,0,none⟩),.int .i64 0]∧OvOk 1 ov2 K.length (u8s K)∧L=KL bk2 ov2 K++B1 b bm blk c x:=by
  have hkn:=fun w1=>known_ok1 b bm blk c x ⟨bk,0,none⟩ hk w1
  have hby:=fun w1 h=>bytes_ok bk K (by omega) w1 h
  have hkv:x.v[3]? = some (.pointer (some ⟨bk,0,none⟩)):=by rw [← hk];rfl
  simp only [B1.eq] at hkn hkc ⊢
  generalize bms [⟨c,blk,0,x⟩]=ms at *
  generalize x.v=V1 at *
  refine enterK (tb:=tb) Tryz.func238 rfl Tryz.ntmps238 rfl ?_
  simp only [kvC] at hkn ⊢
  repeat' (first|(apply R.is1;first|(apply R.isBin;(apply R.pure;exact rfl;(apply Ok1.neq_f;exact rfl;exact rfl;omega)))|(apply R.isCall;first|(apply R.callE (Li:=[(b,.cells ⟨[.map (some bm)]⟩ 243 (0,0)),(bm,mobj kvC vvP ms 1),(blk,.cells ⟨V1⟩ 245 (0,0))]) (vs:=[.pointer (some ⟨b,0,none⟩),.agg ⟨[.int .i64 c.id,.int .i64 c.roles,.int .i64 c.exp,.int .i64 c.ser]⟩]);(iterate 3 exact rfl);(focus (repeat' first|exact Ext.all _|apply Ext.cons);done);intro w1 hw1;exact hkn w1;rintro v Lo ⟨rfl,rfl⟩;simp only [List.cons_append,List.nil_append])|(apply R.callE (vs:=[.pointer (some ⟨bk,0,none⟩)]);(iterate 3 exact rfl);exact Ext.none _;intro w1 hw1;exact hby w1 (hkc w1 hw1.chg);rintro v Lo ⟨oc,hoc,rfl,rfl⟩;rw [slV_eq hoc])|(apply R.callE (vs:=[.slice (ovp oc) K.length (ovc oc K.length)]);(iterate 3 exact rfl);exact Ext.none _;intro w1 hw1;exact new_ok (ovp oc) K.length (ovc oc K.length) K rfl (by omega) w1 (rdown hoc hw1 (Ext.mem (by (focus ((repeat' (exact Ext.here _ _));done)))));rintro v Lo ⟨bk2,ov2,rfl,hov2,_,rfl⟩))|(apply R.pure;exact rfl;first|(apply Ok1.load;exact rfl;first|(apply Ld.ownk;exact rfl;exact rfl;exact At.head;exact rfl)|(apply Ld.own1;exact rfl;exact rfl;(focus (repeat' first|exact At.head|apply At.tail);done);exact hkv))|(apply Ok1.move;exact rfl)|(apply Ok1.fieldAddr;(iterate 5 exact rfl))|(apply Ok1.assign;exact rfl)|(apply Ok1.extract;exact rfl;exact rfl)|(apply Ok1.nilCheck;exact rfl))|(apply R.box;(iterate 3 exact rfl);intro))|apply R.nil|(apply T.is;first|apply T.seq|apply T.region|apply T.skip|apply T.ret|(apply T.cond_f;exact rfl)))
  (apply RetOk.tt;exact rfl;exact rfl)
  refine ⟨_,?_,bk2,ov2,rfl,hov2,rfl⟩
  simp only [KL]
  generalize blkL 5 ov2 (u8s K)=K2
  (focus (repeat' first|exact Keep.nil _|exact Ext.one _ _|exact Ext.here _ _|apply Keep.cons|apply Keep.app|apply Ext.app);done)
theorem bput_ok (b bm blk:Nat) (c:Cl) (x:En) (hx:x.key=none) (bk:Nat) (K:List Int) (hK:K.length≤1000000) (w:World) (hkc:∀ w1,Chg (blks (B1 b bm blk c x)) w w1→KeyR w1 bk K):CallM Tryz.prog 42 [.pointer (some ⟨b,0,none⟩),kvC c,.pointer (some ⟨bk,0,none⟩)] (B1 b bm blk c x) w fun v L=>v = .int .i64 0∧∃ bk2 ov2,OvOk 1 ov2 K.length (u8s K)∧L=KL bk2 ov2 K++B1 b bm blk c ⟨x.boot,x.ctr,x.bits,some ⟨bk2,0,none⟩,x.asked⟩:=by
  have hm:=b1_get blk c x
  have hby:=fun w1 h=>bytes_ok bk K (by omega) w1 h
  have hbs:∀ y:En,bms [⟨c,blk,0,y⟩]=bms [⟨c,blk,0,x⟩]:=fun y=>rfl
  simp only [B1.eq,hbs] at hm hkc ⊢
  obtain ⟨wb,wc,bits,key,asked⟩:=x
  simp only at hx
  subst hx
  have e0:∀ k,En.v ⟨wb,wc,bits,k,asked⟩=[.int .i64 wb,.int .i64 wc,.int .u64 bits,.pointer k,.int .i64 asked]:=fun k=>rfl
  simp only [e0] at hkc ⊢
  generalize bms [⟨c,blk,0,⟨wb,wc,bits,none,asked⟩⟩]=ms at *
  refine enterK (tb:=tb) Tryz.func42 rfl Tryz.ntmps42 rfl ?_
  simp only [kvC]
  repeat' (first|(apply R.is1;first|(apply R.isBin;(apply R.pure;exact rfl;(apply Ok1.eqlP;(iterate 5 exact rfl))))|(apply R.pure;exact rfl;first|(apply Ok1.move;exact rfl)|(apply Ok1.assign;exact rfl))|(apply R.box;(iterate 3 exact rfl);intro))|apply R.nil|(apply T.is;first|(apply T.drawC (id:=5) [0,1,2,3] (by decide);((apply A.tk 0;exact rfl;kernel_rfl;(apply Ok1.move;exact rfl))<;>(apply A.tk 1;exact rfl;kernel_rfl;(apply Ok1.nilCheck;exact rfl))<;>(apply A.tk 2;exact rfl;kernel_rfl;(apply Ok1.fieldAddr;(iterate 5 exact rfl)))<;>(apply A.tk 3;exact rfl;kernel_rfl;(apply Ok1.load;exact rfl;(apply Ld.own1;exact rfl;exact rfl;(focus (repeat' first|exact At.head|apply At.tail);done);exact rfl)))<;>(apply A.tk 4;exact rfl;kernel_rfl;(apply Ok1.load;exact rfl;(apply Ld.ownk;exact rfl;exact rfl;exact At.head;exact rfl)))<;>(apply A.tk 5;exact rfl;kernel_rfl;(apply Ok1.lookup_some (kv:=kvC) (vv:=vvP) c ktK;(iterate 6 exact rfl);(focus (repeat' first|exact At.head|apply At.tail);done);assumption;(exact (if_neg Bool.false_ne_true).symm)))<;>((apply A.tk 6;exact rfl;kernel_rfl;(apply Ok1.eqlP;(iterate 5 exact rfl))))<;>(apply A.tk 7;exact rfl;kernel_rfl;(apply Ok1.move;exact rfl))<;>((apply A.tkG 8;(iterate 3 exact rfl);kernel_rfl;(apply Ok1.move;exact rfl)))<;>((apply A.tkG 9;(iterate 3 exact rfl);kernel_rfl;(apply Ok1.nilCheck;exact rfl)))<;>((apply A.tkG 10;(iterate 3 exact rfl);kernel_rfl;(apply Ok1.fieldAddr;(iterate 5 exact rfl))))<;>((apply A.tkG 11;(iterate 3 exact rfl);kernel_rfl;(apply Ok1.load;exact rfl;(apply Ld.own1;exact rfl;exact rfl;(focus (repeat' first|exact At.head|apply At.tail);done);exact rfl))))<;>((apply A.tkG 12;(iterate 3 exact rfl);kernel_rfl;(apply Ok1.load;exact rfl;(apply Ld.ownk;exact rfl;exact rfl;exact At.head;exact rfl))))<;>((apply A.tkG 13;(iterate 3 exact rfl);kernel_rfl;(apply Ok1.lookup_some (kv:=kvC) (vv:=vvP) c ktK;(iterate 6 exact rfl);(focus (repeat' first|exact At.head|apply At.tail);done);assumption;(exact (if_neg Bool.false_ne_true).symm))))<;>((apply A.tkG 14;(iterate 3 exact rfl);kernel_rfl;(apply Ok1.nilCheck;exact rfl)))<;>((apply A.tkG 15;(iterate 3 exact rfl);kernel_rfl;(apply Ok1.fieldAddr;(iterate 5 exact rfl))))<;>((apply A.tkG 16;(iterate 3 exact rfl);kernel_rfl;(apply Ok1.load;exact rfl;(apply Ld.own1;exact rfl;exact rfl;(focus (repeat' first|exact At.head|apply At.tail);done);exact rfl))))<;>((apply A.tkG 17;(iterate 3 exact rfl);kernel_rfl;(apply Ok1.neqP;(iterate 5 exact rfl))))<;>(apply A.tk 18;exact rfl;kernel_rfl;(apply Ok1.pick_f;exact rfl;exact rfl))<;>(apply A.tk 19;exact rfl;kernel_rfl;(apply Ok1.assign;exact rfl))<;>(apply A.done;kernel_rfl)))|(apply T.drawC (id:=7) [0,1,2] (by decide);((apply A.tk 0;exact rfl;kernel_rfl;(apply Ok1.move;exact rfl))<;>(apply A.tk 1;exact rfl;kernel_rfl;(apply Ok1.nilCheck;exact rfl))<;>(apply A.tk 2;exact rfl;kernel_rfl;(apply Ok1.fieldAddr;(iterate 5 exact rfl)))<;>(apply A.tk 3;exact rfl;kernel_rfl;(apply Ok1.load;exact rfl;(apply Ld.own1;exact rfl;exact rfl;(focus (repeat' first|exact At.head|apply At.tail);done);exact rfl)))<;>(apply A.tk 4;exact rfl;kernel_rfl;(apply Ok1.load;exact rfl;(apply Ld.ownk;exact rfl;exact rfl;exact At.head;exact rfl)))<;>(apply A.tk 5;exact rfl;kernel_rfl;(apply Ok1.lookup_some (kv:=kvC) (vv:=vvP) c ktK;(iterate 6 exact rfl);(focus (repeat' first|exact At.head|apply At.tail);done);assumption;(exact (if_neg Bool.false_ne_true).symm)))<;>(apply A.tk 6;exact rfl;kernel_rfl;(apply Ok1.move;exact rfl))<;>(apply A.one 7;kernel_rfl;exact rfl;(((apply R.callE (vs:=[.pointer (some ⟨bk,0,none⟩)]);(iterate 3 exact rfl);exact Ext.none _;intro w1 hw1;exact hby w1 (hkc w1 hw1.chg);rintro v Lo ⟨oc,hoc,rfl,rfl⟩;rw [slV_eq hoc])));apply R.nil;refine ⟨?_,?_⟩;(focus (repeat' first|exact trivial|exact At.head|apply At.tail|apply At.right|refine ⟨?_,?_⟩)))<;>(apply A.one 8;kernel_rfl;exact rfl;(((apply R.callE (vs:=[.slice (ovp oc) K.length (ovc oc K.length)]);(iterate 3 exact rfl);exact Ext.none _;intro w1 hw1;exact new_ok (ovp oc) K.length (ovc oc K.length) K rfl (by omega) w1 (rdown hoc hw1 (Ext.mem (by (focus ((repeat' (exact Ext.here _ _));done)))));rintro v Lo ⟨bk2,ov2,rfl,hov2,_,rfl⟩)));apply R.nil;refine ⟨?_,?_⟩;(focus (repeat' first|exact trivial|exact At.head|apply At.tail|apply At.right|refine ⟨?_,?_⟩)))<;>(apply A.tk 9;exact rfl;kernel_rfl;(apply Ok1.nilCheck;exact rfl))<;>(apply A.tk 10;exact rfl;kernel_rfl;(apply Ok1.fieldAddr;(iterate 5 exact rfl)))<;>(apply A.one 11;kernel_rfl;exact rfl;(((apply R.store;(iterate 6 exact rfl);(focus (repeat' first|exact Upd.head|apply Upd.tail|apply Upd.right);done);exact rfl)));apply R.nil;refine ⟨?_,?_⟩;(focus (repeat' first|exact trivial|exact At.head|apply At.tail|apply At.right|refine ⟨?_,?_⟩)))<;>(apply A.done;kernel_rfl)))|apply T.seq|apply T.region|apply T.block|apply T.skip|apply T.ret|(apply T.cond_f;exact rfl)))
  (apply RetOk.t;exact rfl)
  refine ⟨_,?_,rfl,bk2,ov2,hov2,rfl⟩
  simp only [KL]
  generalize blkL 5 ov2 (u8s K)=K2
  (focus (repeat' first|exact Keep.nil _|exact Ext.one _ _|exact Ext.here _ _|apply Keep.cons|apply Keep.app|apply Ext.cons|apply Ext.app);done)
/-- A counter's cells. -/
def drpC (ns:List Int):List Value:=.int .i64 2147483647::iis ns
def DrpL (bd:Nat) (ns:List Int):Lst:=[(bd,.cells ⟨drpC ns⟩ 326 (0,0))]
theorem drpC_at {ns:List Int} {e:Nat} (he:e < ns.length):(drpC ns)[0+1+e * 1]? = some (.int .i64 ns[e]):=by
  rw [show 0+1+e * 1=e+1 by omega,drpC,List.getElem?_cons_succ,iis,List.getElem?_map,List.getElem?_eq_getElem he]
  rfl
theorem drpC_set {ns:List Int} {e:Nat} (he:e < ns.length) (x:Int):setE (drpC ns) (0+1+e * 1) [.int .i64 x]=some (drpC (ns.set e x)):=by
  rw [show 0+1+e * 1=e+1 by omega,setE_one (by rw [drpC,List.length_cons,iis_len];omega),drpC,List.set_cons_succ,drpC,iis,iis,List.map_set]
theorem dnew2_ok (w:World):CallM Tryz.prog 115 [.int .i64 2147483647] [] w fun v L=>∃ b,v = .tuple #[.pointer (some ⟨b,0,none⟩),.int .i64 0]∧L=DrpL b (List.replicate 16 0):=by
  refine enterK (tb:=tb) Tryz.func115 rfl Tryz.ntmps115 rfl ?_
  repeat' (first|(apply R.is1;first|(apply R.isBin;(apply R.pure;exact rfl;first|(apply Ok1.lss_f;exact rfl;exact rfl;omega)|(apply Ok1.gtr_f;exact rfl;exact rfl;omega)))|(apply R.pure;exact rfl;first|(apply Ok1.move;exact rfl)|(apply Ok1.assign;exact rfl)|(apply Ok1.build;(iterate 5 exact rfl))|(apply Ok1.pick_f;exact rfl;exact rfl))|(apply R.box;(iterate 3 exact rfl);intro))|(apply R.isG;(apply R.guard_run;exact rfl;exact rfl))|apply R.nil|(apply T.is;first|apply T.seq|apply T.region|apply T.skip|apply T.ret|(apply T.cond_f;exact rfl)))
  (apply RetOk.tt;exact rfl;exact rfl)
  exact ⟨_,by (focus (repeat' first|exact Keep.nil _|exact Ext.one _ _|apply Keep.cons);done),_,rfl,rfl⟩
theorem dreason_ok (e:Int):CallP Tryz.prog 130 [.int .i64 e] (.bool (decide (1≤e∧e≤15))):=by
  refine enterP (tb:=tb) Tryz.func130 rfl Tryz.ntmps130 rfl fun w=>?_
  by_cases h1:1≤e
  · by_cases h2:e≤15
    · rw [decide_eq_true ⟨h1,h2⟩]
      repeat' (first|(apply R.is1;first|(apply R.isBin;(apply R.pure;exact rfl;first|(apply Ok1.leq_t;exact rfl;exact rfl;omega)|(apply Ok1.geq_t;exact rfl;exact rfl;omega)))|(apply R.pure;exact rfl;first|(apply Ok1.move;exact rfl)|(apply Ok1.assign;exact rfl)|(apply Ok1.pick_t;exact rfl;exact rfl)))|(apply R.isG;(apply R.guard_run;exact rfl;exact rfl))|apply R.nil|(apply T.is;first|apply T.seq|apply T.region|apply T.ret))
      all_goals skip
      (apply RetOk.t;exact rfl)
      rfl
    · rw [decide_eq_false (fun h=>h2 h.2)]
      repeat' (first|(apply R.is1;first|(apply R.isBin;(apply R.pure;exact rfl;first|(apply Ok1.leq_f;exact rfl;exact rfl;omega)|(apply Ok1.geq_t;exact rfl;exact rfl;omega)))|(apply R.pure;exact rfl;first|(apply Ok1.move;exact rfl)|(apply Ok1.assign;exact rfl)|(apply Ok1.pick_t;exact rfl;exact rfl)))|(apply R.isG;(apply R.guard_run;exact rfl;exact rfl))|apply R.nil|(apply T.is;first|apply T.seq|apply T.region|apply T.ret))
      all_goals skip
      (apply RetOk.t;exact rfl)
      rfl
  · rw [decide_eq_false (fun h=>h1 h.1)]
    repeat' (first|(apply R.is1;first|(apply R.isBin;(apply R.pure;exact rfl;(apply Ok1.geq_f;exact rfl;exact rfl;omega)))|(apply R.pure;exact rfl;first|(apply Ok1.move;exact rfl)|(apply Ok1.assign;exact rfl)|(apply Ok1.pick_f;exact rfl;exact rfl)))|(apply R.isG;(apply R.guard_not;(iterate 3 exact rfl)))|apply R.nil|(apply T.is;first|apply T.seq|apply T.region|apply T.ret))
    all_goals skip
    (apply RetOk.t;exact rfl)
    rfl
theorem dadd_ok (bd:Nat) (ns:List Int) (hl:ns.length=16) (e:Nat) (x:Int) (hx:ns[e]? = some x) (h0:0≤x) (h1:x < 2147483647) (w:World):CallM Tryz.prog 189 [.pointer (some ⟨bd,0,none⟩),.int .i64 e,.int .i64 1] (DrpL bd ns) w fun v L=>v = .tuple #[]∧L=DrpL bd (ns.set e (x+1)):=by
  have he:=(List.getElem?_eq_some_iff.1 hx).1
  have hat:=drpC_at he
  rw [(List.getElem?_eq_some_iff.1 hx).2] at hat
  have hst:=drpC_set he (x+1)
  have htp:(drpC ns)[0]? = some (.int .i64 2147483647):=rfl
  have hmin:min (x+1) 2147483647=x+1:=by omega
  unfold DrpL
  generalize drpC ns=D at *
  generalize drpC (ns.set e (x+1))=D2 at *
  refine enterK (tb:=tb) Tryz.func189 rfl Tryz.ntmps189 rfl ?_
  repeat' ((apply T.is;(apply T.drawC (id:=0) [] (by decide);((apply A.tk 0;exact rfl;kernel_rfl;(apply Ok1.move;exact rfl))<;>(apply A.tk 1;exact rfl;kernel_rfl;(apply Ok1.move;exact rfl))<;>(apply A.tk 2;exact rfl;kernel_rfl;(apply Ok1.move;exact rfl))<;>(apply A.tk 3;exact rfl;kernel_rfl;(apply Ok1.move;exact rfl))<;>(apply A.tk 4;exact rfl;kernel_rfl;(apply Ok1.nilCheck;exact rfl))<;>(apply A.tk 5;exact rfl;kernel_rfl;(apply Ok1.fieldAddr;(iterate 5 exact rfl)))<;>(apply A.tk 6;exact rfl;kernel_rfl;(apply Ok1.indexAddrA;(iterate 5 exact rfl);omega;omega))<;>(apply A.tk 8;exact rfl;kernel_rfl;(apply Ok1.move;exact rfl))<;>(apply A.tk 10;exact rfl;kernel_rfl;(apply Ok1.move;exact rfl))<;>(apply A.tk 11;exact rfl;kernel_rfl;(apply Ok1.nilCheck;exact rfl))<;>(apply A.tk 12;exact rfl;kernel_rfl;(apply Ok1.fieldAddr;(iterate 5 exact rfl)))<;>(apply A.tk 15;exact rfl;kernel_rfl;(apply Ok1.nilCheck;exact rfl))<;>(apply A.tk 16;exact rfl;kernel_rfl;(apply Ok1.fieldAddr;(iterate 5 exact rfl)))<;>(apply A.two 7 13;kernel_rfl;exact rfl;exact rfl;rotate_left 1;(focus (((((apply R.pure;exact rfl;(apply Ok1.load;exact rfl;(apply Ld.own1;exact rfl;exact rfl;exact At.head;exact htp)))));apply R.nil;refine ⟨?_,?_⟩;(focus ((repeat' (exact trivial)))))<;>(apply A.one 7;kernel_rfl;exact rfl;(((apply R.pure;exact rfl;(apply Ok1.load;exact rfl;(apply Ld.own1;exact rfl;exact rfl;exact At.head;exact hat)))));apply R.nil;refine ⟨?_,?_⟩;(focus ((repeat' (exact trivial)))))<;>(apply A.tk 9;exact rfl;kernel_rfl;(apply Ok1.add64;exact rfl;exact rfl;omega;omega))<;>(apply A.tk 14;exact rfl;kernel_rfl;(apply Ok1.min2E;exact rfl;exact rfl;exact hmin))<;>(apply A.tk 17;exact rfl;kernel_rfl;(apply Ok1.indexAddrA;(iterate 5 exact rfl);omega;omega))<;>(apply A.one 18;kernel_rfl;exact rfl;(((apply R.store;(iterate 6 exact rfl);exact Upd.head;exact hst)));apply R.nil;refine ⟨?_,?_⟩;(focus ((repeat' (exact trivial)))))<;>(apply A.done;kernel_rfl)));rotate_right 1;(focus (((((apply R.pure;exact rfl;(apply Ok1.load;exact rfl;(apply Ld.own1;exact rfl;exact rfl;exact At.head;exact hat)))));apply R.nil;refine ⟨?_,?_⟩;(focus ((repeat' (exact trivial)))))<;>(apply A.tk 9;exact rfl;kernel_rfl;(apply Ok1.add64;exact rfl;exact rfl;omega;omega))<;>(apply A.one 13;kernel_rfl;exact rfl;(((apply R.pure;exact rfl;(apply Ok1.load;exact rfl;(apply Ld.own1;exact rfl;exact rfl;exact At.head;exact htp)))));apply R.nil;refine ⟨?_,?_⟩;(focus ((repeat' (exact trivial)))))<;>(apply A.tk 14;exact rfl;kernel_rfl;(apply Ok1.min2E;exact rfl;exact rfl;exact hmin))<;>(apply A.tk 17;exact rfl;kernel_rfl;(apply Ok1.indexAddrA;(iterate 5 exact rfl);omega;omega))<;>(apply A.one 18;kernel_rfl;exact rfl;(((apply R.store;(iterate 6 exact rfl);exact Upd.head;exact hst)));apply R.nil;refine ⟨?_,?_⟩;(focus ((repeat' (exact trivial)))))<;>(apply A.done;kernel_rfl))))))))
  all_goals (apply RetOk.n)
  all_goals exact ⟨_,by (focus (repeat' first|exact Keep.nil _|exact Ext.one _ _|apply Keep.cons);done),rfl,rfl⟩
theorem dcount_ok (bd:Nat) (ns:List Int) (hl:ns.length=16) (e:Nat) (he1:1≤e) (x:Int) (hx:ns[e]? = some x) (h0:0≤x) (h1:x < 2147483647) (p:Option Addr) (cap:Nat) (w:World) (hp:RdSl w p iV [(e:Int)]) (hoff:Off p [bd]):CallM Tryz.prog 129 [.pointer (some ⟨bd,0,none⟩),.slice p 1 cap] (DrpL bd ns) w fun v L=>v = .int .i64 1∧L=DrpL bd (ns.set e (x+1)):=by
  have he:=(List.getElem?_eq_some_iff.1 hx).1
  have hre:=dreason_ok e
  rw [decide_eq_true (show 1≤(e:Int)∧(e:Int)≤15 by omega)] at hre
  have had:=fun w1=>dadd_ok bd ns hl e x hx h0 h1 w1
  obtain ⟨bb,o,hpe,H⟩:=hp.at (i:=0) rfl
  replace H:=H 1 iV_len
  have hS:bb ∉ [bd]:=hoff _ hpe
  generalize DrpL bd (ns.set e (x+1))=D2 at *
  generalize hD:DrpL bd ns=D at *
  refine enterK (tb:=tb) Tryz.func129 rfl Tryz.ntmps129 rfl ?_
  have hS2:bb ∉ blks D:=by rw [← hD];exact hS
  repeat' (first|(apply R.is1;first|(apply R.isBin;(apply R.pure;exact rfl;first|(apply Ok1.eqlP;(iterate 5 exact rfl))|(apply Ok1.add64;exact rfl;exact rfl;omega;omega)|(apply Ok1.lss_t;exact rfl;exact rfl;omega)|(apply Ok1.lss_f;exact rfl;exact rfl;omega)))|(apply R.isCall;first|apply R.callP rfl rfl rfl hre|(apply R.callE (Li:=D) (vs:=[.pointer (some ⟨bd,0,none⟩),.int .i64 e,.int .i64 1]);(iterate 3 exact rfl);(focus ((repeat' (exact Ext.all _));done));intro w1 hw1;exact had w1;rintro v Lo ⟨rfl,rfl⟩)|(apply R.pure;exact rfl;(apply Ok1.lenS;(iterate 3 exact rfl))))|(apply R.pure;exact rfl;first|(apply Ok1.indexAddrP;(iterate 4 exact rfl);exact hpe;exact rfl;omega;omega)|(apply Ok1.load;exact rfl;apply Ld.row0 H;exact rfl;exact hS2;(iterate 3 exact rfl))|(apply Ok1.move;exact rfl)|(apply Ok1.assign;exact rfl)))|apply R.nil|(apply T.is;first|apply T.rounds 2|apply T.seq|apply T.region|apply T.block|apply T.skip|apply T.exit|apply T.ret|(apply T.cond_t;exact rfl)|(apply T.cond_f;exact rfl)))
  (apply RetOk.t;exact rfl)
  exact ⟨_,by rw [List.append_nil];(focus (repeat' first|exact Ext.all _|apply Keep.last);done),rfl,rfl⟩
theorem drpC_sub {ns:List Int} (hl:ns.length=16):subE (drpC ns) (0+1) 16=some (iis ns):=by
  match ns,hl with
  | [a0,a1,a2,a3,a4,a5,a6,a7,a8,a9,a10,a11,a12,a13,a14,a15],_=>rfl
theorem dall_ok (bd:Nat) (ns:List Int) (hl:ns.length=16) (w:World) (hb:w.heap[bd]? = some (.cells ⟨drpC ns⟩ 326 (0,0))):CallW Tryz.prog 131 [.pointer (some ⟨bd,0,none⟩)] w fun v _=>v = .agg ⟨iis ns⟩:=by
  have hil:(iis ns).length=16:=by rw [iis_len,hl]
  have hsb:=drpC_sub hl
  refine enterW (tb:=tb) Tryz.func131 rfl Tryz.ntmps131 rfl ?_
  generalize hI:iis ns=I at *
  have hone:I.all Value.oneCell'=true:=by rw [← hI];exact iis_one _
  repeat' (first|(apply R.is1;first|(apply R.isBin;(apply R.pure;exact rfl;(apply Ok1.eqlP;(iterate 5 exact rfl))))|(apply R.pure;exact rfl;first|(apply Ok1.load;exact rfl;(apply Ld.blkk;exact rfl;exact rfl;exact hb;exact List.not_mem_nil;exact hsb))|(apply Ok1.move;exact rfl)|(apply Ok1.fieldAddr;(iterate 5 exact rfl))|(apply Ok1.nilCheck;exact rfl))|(apply R.alloc;(iterate 3 exact rfl);intro))|(apply R.is0;(apply R.store;(iterate 4 exact rfl);exact hil;exact hone;exact Upd.head;exact setE_all (by rw [hil];rfl)))|apply R.nil|(apply T.is;first|apply T.seq|apply T.region|apply T.skip|apply T.ret|(apply T.cond_f;exact rfl)))
  apply RetOk.c;exact rfl;apply Ld.ownk;exact rfl;exact rfl;exact At.head;exact subE_all hil
  rfl
theorem dof_ok (bd:Nat) (ns:List Int) (hl:ns.length=16) (e:Nat) (he1:1≤e) (x:Int) (hx:ns[e]? = some x) (w:World) (hb:w.heap[bd]? = some (.cells ⟨drpC ns⟩ 326 (0,0))):CallW Tryz.prog 47 [.pointer (some ⟨bd,0,none⟩),.int .i64 e] w fun v _=>v = .int .i64 x:=by
  have he:=(List.getElem?_eq_some_iff.1 hx).1
  have hre:=dreason_ok e
  rw [decide_eq_true (show 1≤(e:Int)∧(e:Int)≤15 by omega)] at hre
  have hal:=fun w1 h=>dall_ok bd ns hl w1 h
  have hix:(iis ns)[(e:Int).toNat * 1]? = some (.int .i64 x):=by
    rw [Nat.mul_one,Int.toNat_natCast,iis,List.getElem?_map,hx];rfl
  refine enterW (tb:=tb) Tryz.func47 rfl Tryz.ntmps47 rfl ?_
  repeat' (first|(apply R.is1;first|(apply R.isCall;first|apply R.callP rfl rfl rfl hre|(apply R.callV (vs:=[.pointer (some ⟨bd,0,none⟩)]);(iterate 3 exact rfl);intro w1 hw1;exact hal w1 (hw1.chg.heap hb List.not_mem_nil)))|(apply R.pure;exact rfl;first|(apply Ok1.index1;(iterate 6 exact rfl);omega;omega;exact hix)|(apply Ok1.move;exact rfl)|(apply Ok1.assign;exact rfl)|(apply Ok1.not_t;exact rfl)))|apply R.nil|(apply T.is;first|apply T.seq|apply T.region|apply T.skip|apply T.ret|(apply T.cond_f;exact rfl)))
  (apply RetOk.t;exact rfl)
  rfl
theorem RdSl.mid9 {pre:List Value} {xs:List Int} {b o:Nat} {te:TypeId} {fz:Nat × Nat} {w0 w:World} {S:List Nat} {L:Lst} (hw:Hp w0 S L w) (hat:(b,.cells ⟨pre++u8s xs⟩ te fz)∈L) (ho:o=pre.length):RdSl w (some ⟨b,o,none⟩) u8V xs:=.inr ⟨b,o,rfl,fun k hk=>by
  have h:=hw.get _ _ hat
  subst ho
  rw [fl_u8] at hk ⊢
  simp only [World.cell?,h]
  show (pre++u8s xs).toArray[pre.length+k]? = _
  rw [List.getElem?_toArray,List.getElem?_append_right (by omega),Nat.add_sub_cancel_left]⟩
theorem holds_ok (k:Int) (c:Cl) (to a b:Int) (p:Option Addr) (n cap:Nat) (t body:List Int) (ht:t.length=32) (htb:Byt t) (hp:¬ (k=1 ∨ k=2)) (hE:pckE k c to a b n t=0) (hn:n=body.length) (hbb:Byt body) (bk:Nat) (key:List Int) (hkl:key.length≤999999000) (hkb:Byt key) (w:World) (hK:KeyR w bk key) (hb:RdSl w p u8V body) (htt:t=pkT key k c to a b body):CallW Tryz.prog 235 [.agg ⟨pkC k c to a b p n cap t⟩,.pointer (some ⟨bk,0,none⟩)] w fun v _=>v = .bool true:=by
  have htg:=fun w1 (hc:Chg [] w w1)=>ptagged_ok k c to a b p n cap t body ht hp hE hn hbb bk key hkl hkb w1 (hK.chg hc) (hb.chg hc (Off.nil _))
  rw [← htt] at htg
  have hl0:=pk_len k c to a b p n cap ht
  have hl1:=fun p2 cap2=>pk_len k c to a b p2 n cap2 ht
  have ho1:=fun p2 cap2=>pk_one k c to a b p2 n cap2 t
  have heq:=fun p1 p2 w1 h1 h2=>equal_ok p1 p2 32 32 32 t ht.symm (by decide) htb w1 h1 h2
  have hsp:∀ q c2,pkC k c to a b q n c2 t=[.int .i64 k,.int .i64 c.id,.int .i64 c.roles,.int .i64 c.exp,.int .i64 c.ser,.int .i64 to,.int .i64 a,.int .i64 b,.slice q n c2]++u8s t:=fun q c2=>rfl
  refine enterW (tb:=tb) Tryz.func235 rfl Tryz.ntmps235 rfl ?_
  simp only [pkC] at htg hl0 hl1 ho1 ⊢
  repeat' (first|(apply R.is1;first|(apply R.isCall;(apply R.callE (vs:=[.agg _,.pointer (some ⟨bk,0,none⟩)]);(iterate 3 exact rfl);exact Ext.none _;intro w1 hw1;exact htg w1 hw1.chg;rintro v Lo ⟨ov,hov,rfl,rfl⟩))|(apply R.pure;exact rfl;first|(apply Ok1.load;exact rfl;(apply Ld.ownk;exact rfl;exact rfl;exact At.head;exact subE_all hl0))|(apply Ok1.move;exact rfl)|(apply Ok1.assign;exact rfl)|(apply Ok1.extract;exact rfl;exact rfl))|(apply R.box;(iterate 3 exact rfl);intro)|(apply R.alloc;(iterate 3 exact rfl);intro))|(apply R.is0;(apply R.store;(iterate 4 exact rfl);exact (hl1 _ _);exact (ho1 _ _);exact Upd.head;exact setE_all (hl1 _ _)))|apply R.nil|(apply T.is;first|(apply T.stop1 2)|apply T.seq|apply T.region))
  rename_i b2 b5
  refine ⟨?_⟩
  refine T.weakK (σ':=[(2,.pointer (some ⟨b2,0,none⟩)),(5,.pointer (some ⟨b5,0,none⟩)),(6,.int .i64 0)]) (L':=[(b5,.cells ⟨[.int .i64 k,.int .i64 c.id,.int .i64 c.roles,.int .i64 c.exp,.int .i64 c.ser,.int .i64 to,.int .i64 a,.int .i64 b,.slice (ovp ov) n (ovc ov n)]++u8s t⟩ 120 (0,0)),(b2,.cells ⟨[.int .i64 k,.int .i64 c.id,.int .i64 c.roles,.int .i64 c.exp,.int .i64 c.ser,.int .i64 to,.int .i64 a,.int .i64 b,.slice p n cap]++u8s t⟩ 120 (0,0))]) ?_ (by (focus (repeat' first|exact Keep.nil _|exact Ext.one _ _|apply Keep.cons|apply Ext.app);done)) ⟨rfl,rfl,rfl,trivial⟩
  repeat' ((apply T.is;first|(apply T.drawC (id:=2) [0,1] (by decide);((apply A.tk 0;exact rfl;kernel_rfl;(apply Ok1.move;exact rfl))<;>((apply A.tk 1;exact rfl;kernel_rfl;(apply Ok1.eql_t;exact rfl;exact rfl;omega)))<;>(apply A.tk 2;exact rfl;kernel_rfl;(apply Ok1.move;exact rfl))<;>((apply A.tkG 3;(iterate 3 exact rfl);kernel_rfl;(apply Ok1.fieldAddr;(iterate 5 exact rfl))))<;>((apply A.tkG 4;(iterate 3 exact rfl);kernel_rfl;(apply Ok1.sliceArr;(iterate 4 exact rfl))))<;>((apply A.tkG 5;(iterate 3 exact rfl);kernel_rfl;(apply Ok1.fieldAddr;(iterate 5 exact rfl))))<;>((apply A.tkG 6;(iterate 3 exact rfl);kernel_rfl;(apply Ok1.sliceArr;(iterate 4 exact rfl))))<;>(apply A.one 7;kernel_rfl;exact rfl;(((apply R.isG;apply R.guard_run;exact rfl;exact rfl;((apply R.callV (vs:=[.slice (some ⟨b5,_,none⟩) 32 32,.slice (some ⟨b2,_,none⟩) 32 32]);(iterate 3 exact rfl);intro w1 hw1;exact heq _ _ w1 (RdSl.mid9 hw1 (At.mem (by exact At.head)) rfl) (RdSl.mid9 hw1 (At.mem (by (focus (repeat' first|exact At.head|apply At.tail);done))) rfl))))));apply R.nil;refine ⟨?_,?_⟩;(focus (repeat' first|exact trivial|exact At.head|apply At.tail|refine ⟨?_,?_⟩)))<;>(apply A.tk 8;exact rfl;kernel_rfl;(apply Ok1.pick_t;exact rfl;exact rfl))<;>(apply A.tk 9;exact rfl;kernel_rfl;(apply Ok1.assign;exact rfl))<;>(apply A.done;kernel_rfl)))|apply T.seq|apply T.ret))
  (apply RetOk.t;exact rfl)
  rfl
def lookV:List Value:=[.func (.func 186) #[] #[],.func (.func 186) #[] #[],.func (.func 187) #[] #[],.func (.func 188) #[] #[]]
theorem looks_ok:CallP Tryz.prog 127 [] (.agg ⟨lookV⟩):=by
  refine enterP (tb:=tb) Tryz.func127 rfl Tryz.ntmps127 rfl fun w=>?_
  repeat' (first|(apply R.is1;first|(apply R.pure;exact rfl;(apply Ok1.buildA;(iterate 6 exact rfl)))|(apply R.alloc;(iterate 3 exact rfl);intro))|(apply R.is0;(apply R.store;(iterate 6 exact rfl);exact Upd.head;exact rfl))|apply R.nil|(apply T.is;first|apply T.seq|apply T.region|apply T.ret))
  (apply RetOk.c;exact rfl;((apply Ld.ownk;exact rfl;exact rfl;exact At.head;exact rfl)))
  rfl
theorem expd16_ok (c:Cl) (t:Int):CallP Tryz.prog 237 [kvC c,.int .i64 t] (.bool (decide (t ≥ c.exp))):=by
  refine enterP (tb:=tb) Tryz.func237 rfl Tryz.ntmps237 rfl fun w=>?_
  simp only [kvC]
  by_cases h:t ≥ c.exp
  · rw [decide_eq_true h]
    repeat' (first|(apply R.is1;first|(apply R.isBin;(apply R.pure;exact rfl;(apply Ok1.geq_t;exact rfl;exact rfl;omega)))|(apply R.pure;exact rfl;first|(apply Ok1.move;exact rfl)|(apply Ok1.fieldAddr;(iterate 5 exact rfl))|(apply Ok1.load;exact rfl;(apply Ld.own1;exact rfl;exact rfl;exact At.head;exact rfl))|(apply Ok1.assign;exact rfl))|(apply R.box;(iterate 3 exact rfl);intro))|apply R.nil|(apply T.is;first|apply T.seq|apply T.region|apply T.ret))
    all_goals skip
    (apply RetOk.t;exact rfl)
    rfl
  · rw [decide_eq_false h]
    repeat' (first|(apply R.is1;first|(apply R.isBin;(apply R.pure;exact rfl;(apply Ok1.geq_f;exact rfl;exact rfl;omega)))|(apply R.pure;exact rfl;first|(apply Ok1.move;exact rfl)|(apply Ok1.fieldAddr;(iterate 5 exact rfl))|(apply Ok1.load;exact rfl;(apply Ld.own1;exact rfl;exact rfl;exact At.head;exact rfl))|(apply Ok1.assign;exact rfl))|(apply R.box;(iterate 3 exact rfl);intro))|apply R.nil|(apply T.is;first|apply T.seq|apply T.region|apply T.ret))
    all_goals skip
    (apply RetOk.t;exact rfl)
    rfl
theorem side_arg (bc bn br bb bd:Nat) (sd:List Value) (e1:TypeId) (f1:Nat × Nat) (c:Cl) (s:List Int) (hs:s.length=32) (m1 m2:Nat) (e:TypeId) (k:Int) (c2:Cl) (to a b:Int) (p:Option Addr) (n cap:Nat) (t:List Int) (ht:t.length=32) (tick:Int) (rv:Option Addr) (h:to≠c.id ∨ c2.id=c.id) (w:World) (hc:w.heap[bc]? = some (.cells ⟨chC bn br bb bd sd⟩ e1 f1)) (hb:w.heap[br]? = some (.cells ⟨ringC c s m1 m2⟩ e (0,0))) :
    CallW Tryz.prog 188 [.pointer (some ⟨bc,0,none⟩),.agg ⟨pkC k c2 to a b p n cap t⟩,.int .i64 tick,.pointer rv] w fun v _=>v = .int .i64 1:=by
  have how:=fun w1 (h:Chg [] w w1)=>chown_ok bc bn br bb bd sd e1 f1 c s hs m1 m2 e w1 (h.heap hc List.not_mem_nil) (h.heap hb List.not_mem_nil)
  refine enterW (tb:=tb) Tryz.func188 rfl Tryz.ntmps188 rfl ?_
  simp only [pkC,clC] at how ⊢
  repeat' (first|(apply R.is1;first|(apply R.isBin;first|(apply R.pure;exact rfl;(apply Ok1.eql_t;exact rfl;exact rfl;omega))|(apply R.neq rfl rfl rfl<;>intro))|(apply R.isCall;(apply R.callE (vs:=[.pointer (some ⟨bc,0,none⟩)]);(iterate 3 exact rfl);exact Ext.none _;intro w1 hw1;exact how w1 hw1.chg;rintro x Lo ⟨rfl,rfl⟩))|(apply R.pure;exact rfl;first|(apply Ok1.load;exact rfl;(apply Ld.own1;exact rfl;exact rfl;exact At.head;exact rfl))|(apply Ok1.move;exact rfl)|(apply Ok1.fieldAddr;(iterate 5 exact rfl))|(apply Ok1.assign;exact rfl)|(apply Ok1.pick_t;exact rfl;exact rfl)|(apply Ok1.pick_f;exact rfl;exact rfl)|(apply Ok1.field1;(iterate 7 exact rfl)))|(apply R.box;(iterate 3 exact rfl);intro))|(apply R.isG;first|(apply R.guard_run;exact rfl;exact rfl)|(apply R.guard_not;(iterate 3 exact rfl)))|apply R.nil|(apply T.is;first|apply T.seq|apply T.region|apply T.block|apply T.ret|(apply T.cond_t;exact rfl)))
  all_goals (apply RetOk.t;exact rfl)
  all_goals rfl
theorem side_gone (bc bn br bb bd:Nat) (sd:List Value) (e1:TypeId) (f1:Nat × Nat) (c:Cl) (s:List Int) (hs:s.length=32) (m1 m2:Nat) (e:TypeId) (k:Int) (c2:Cl) (to a b:Int) (p:Option Addr) (n cap:Nat) (t:List Int) (ht:t.length=32) (tick:Int) (rv:Option Addr) (h1:to=c.id) (h2:c2.id≠c.id) (h3:tick ≥ c2.exp) (w:World) (hc:w.heap[bc]? = some (.cells ⟨chC bn br bb bd sd⟩ e1 f1)) (hb:w.heap[br]? = some (.cells ⟨ringC c s m1 m2⟩ e (0,0))) :
    CallW Tryz.prog 188 [.pointer (some ⟨bc,0,none⟩),.agg ⟨pkC k c2 to a b p n cap t⟩,.int .i64 tick,.pointer rv] w fun v _=>v = .int .i64 14:=by
  have how:=fun w1 (h:Chg [] w w1)=>chown_ok bc bn br bb bd sd e1 f1 c s hs m1 m2 e w1 (h.heap hc List.not_mem_nil) (h.heap hb List.not_mem_nil)
  have hex:=expd16_ok c2 tick
  rw [decide_eq_true h3] at hex
  refine enterW (tb:=tb) Tryz.func188 rfl Tryz.ntmps188 rfl ?_
  simp only [pkC,clC,kvC] at how hex ⊢
  repeat' (first|(apply R.is1;first|(apply R.isBin;(apply R.pure;exact rfl;first|(apply Ok1.eql_f;exact rfl;exact rfl;omega)|(apply Ok1.neq_f;exact rfl;exact rfl;omega)))|(apply R.isCall;first|(apply R.callE (vs:=[.pointer (some ⟨bc,0,none⟩)]);(iterate 3 exact rfl);exact Ext.none _;intro w1 hw1;exact how w1 hw1.chg;rintro x Lo ⟨rfl,rfl⟩)|apply R.callP rfl rfl rfl hex)|(apply R.pure;exact rfl;first|(apply Ok1.load;exact rfl;first|(apply Ld.own1;exact rfl;exact rfl;exact At.head;exact rfl)|(apply Ld.ownk;exact rfl;exact rfl;exact At.head;exact rfl))|(apply Ok1.move;exact rfl)|(apply Ok1.fieldAddr;(iterate 5 exact rfl))|(apply Ok1.assign;exact rfl)|(apply Ok1.pick_t;exact rfl;exact rfl)|(apply Ok1.pick_f;exact rfl;exact rfl)|(apply Ok1.field1;(iterate 7 exact rfl)))|(apply R.box;(iterate 3 exact rfl);intro))|(apply R.isG;first|(apply R.guard_run;exact rfl;exact rfl)|(apply R.guard_not;(iterate 3 exact rfl)))|apply R.nil|(apply T.is;first|apply T.seq|apply T.region|apply T.block|apply T.ret|(apply T.cond_t;exact rfl)|(apply T.cond_f;exact rfl)))
  all_goals skip
  all_goals (apply RetOk.t;exact rfl)
  all_goals rfl
theorem side_take (bc bn br bb bd bm blk:Nat) (sd:List Value) (e1:TypeId) (f1:Nat × Nat) (c:Cl) (s:List Int) (hs:s.length=32) (m1 m2:Nat) (e:TypeId) (k:Int) (c2:Cl) (to a b:Int) (p:Option Addr) (n cap:Nat) (t body:List Int) (ht:t.length=32) (htb:Byt t) (tick:Int) (h1:to=c.id) (h2:c2.id≠c.id) (h3:¬ tick ≥ c2.exp) (hp:¬ (k=1 ∨ k=2)) (hE:pckE k c2 to a b n t=0) (hn:n=body.length) (hbb:Byt body) (K:List Int) (hKl:K.length≤1000000) (hKb:Byt K) (htt:t=pkT K k c2 to a b body) (x:En) (bk:Nat) (hk:x.key=some ⟨bk,0,none⟩) (hN:NR a b) (hcx:0≤x.ctr∧x.ctr≤64) (hb6:b≤64) (w:World) (hkc:∀ w1,Chg (blks (B1 bb bm blk c2 x)) w w1→KeyR w1 bk K) (hm1:bc ∉ blks (B1 bb bm blk c2 x)) (hm2:br ∉ blks (B1 bb bm blk c2 x)) (hc:w.heap[bc]? = some (.cells ⟨chC bn br bb bd sd⟩ e1 f1)) (hb:w.heap[br]? = some (.cells ⟨ringC c s m1 m2⟩ e (0,0))) (hbd:RdSl w p u8V body) (hq:body≠[]→Off p (blks (B1 bb bm blk c2 x))) :
    CallM Tryz.prog 188 [.pointer (some ⟨bc,0,none⟩),.agg ⟨pkC k c2 to a b p n cap t⟩,.int .i64 tick,.pointer none] (B1 bb bm blk c2 x) w fun v L=>v = .int .i64 (lookW x a b)∧L=B1 bb bm blk c2 (takeW x a b):=by
  have hkey:=fun w1 h=>bkey_ok bb bm blk c2 x bk K hk hKl w1 h
  have htak:=fun w1=>btake_ok bb bm blk c2 x ⟨bk,0,none⟩ hk a b hN hcx hb6 w1
  generalize B1 bb bm blk c2 x=BB at *
  generalize B1 bb bm blk c2 (takeW x a b)=B9 at *
  have how:=fun w1 (h:Chg (blks BB) w w1)=>chown_ok bc bn br bb bd sd e1 f1 c s hs m1 m2 e w1 (h.heap hc hm1) (h.heap hb hm2)
  have hex:=expd16_ok c2 tick
  rw [decide_eq_false h3] at hex
  have hho:=fun bk2 w1 hK h=>holds_ok k c2 to a b p n cap t body ht htb hp hE hn hbb bk2 K (by omega) hKb w1 hK h htt
  have hhn:=fun w1=>has_nil c2.ser w1
  have hl0:=pk_len k c2 to a b p n cap ht
  refine enterK (tb:=tb) Tryz.func188 rfl Tryz.ntmps188 rfl ?_
  unfold chC at hc
  simp only [pkC,clC,kvC] at how hex hho hkey htak hl0 ⊢
  repeat' (first|(apply R.is1;first|(apply R.isBin;(apply R.pure;exact rfl;first|(apply Ok1.eql_f;exact rfl;exact rfl;omega)|(apply Ok1.neq_f;exact rfl;exact rfl;omega)))|(apply R.isCall;first|(apply R.callE (vs:=[.pointer (some ⟨bc,0,none⟩)]);(iterate 3 exact rfl);exact Ext.none _;intro w1 hw1;exact how w1 hw1.chg;rintro x Lo ⟨rfl,rfl⟩;rw [List.nil_append])|apply R.callP rfl rfl rfl hex|(apply R.callE (vs:=[.pointer none,.int .i64 c2.ser]);(iterate 3 exact rfl);exact Ext.none _;intro w1 hw1;exact hhn w1;rintro x Lo ⟨rfl,rfl⟩;rw [List.nil_append])|(apply R.callV (vs:=[.agg _,.pointer (some ⟨bk2,0,none⟩)]);(iterate 3 exact rfl);intro w1 hw1;exact hho bk2 w1 (hk9 _ w1 hw1 (Ext.mem (by (focus ((repeat' (exact Ext.here _ _));done))))) (hbd.chg' hw1.chg hq)))|(apply R.pure;exact rfl;first|(apply Ok1.load;exact rfl;first|(apply Ld.own1;exact rfl;exact rfl;exact At.head;exact rfl)|(apply Ld.ownk;exact rfl;exact rfl;(focus (repeat' first|exact At.head|apply At.right);done);exact rfl)|(apply Ld.ownk;exact rfl;exact rfl;(focus (repeat' first|exact At.head|apply At.right);done);exact subE_all hl0))|(apply Ok1.move;exact rfl)|(apply Ok1.fieldAddr;(iterate 5 exact rfl))|(apply Ok1.assign;exact rfl)|(apply Ok1.pick_f;exact rfl;exact rfl)|(apply Ok1.not_t;exact rfl)|(apply Ok1.field1;(iterate 7 exact rfl)))|(apply R.box;(iterate 3 exact rfl);intro))|(apply R.isG;(apply R.guard_run;exact rfl;exact rfl))|apply R.nil|(apply T.is;first|(apply T.drawC (id:=6) [0] (by decide);((apply A.tk 0;exact rfl;kernel_rfl;(apply Ok1.move;exact rfl))<;>(apply A.tk 1;exact rfl;kernel_rfl;(apply Ok1.nilCheck;exact rfl))<;>(apply A.tk 2;exact rfl;kernel_rfl;(apply Ok1.fieldAddr;(iterate 5 exact rfl)))<;>(apply A.tk 3;exact rfl;kernel_rfl;(apply Ok1.load;exact rfl;(apply Ld.blk1;exact rfl;exact rfl;exact hc;exact hm1;exact rfl)))<;>(apply A.tk 4;exact rfl;kernel_rfl;(apply Ok1.fieldAddr;(iterate 5 exact rfl)))<;>(apply A.tk 5;exact rfl;kernel_rfl;(apply Ok1.load;exact rfl;(apply Ld.ownk;exact rfl;exact rfl;exact At.head;exact rfl)))<;>(apply A.one 6;kernel_rfl;exact rfl;(((apply R.callE (Li:=BB) (vs:=[.pointer (some ⟨bb,0,none⟩),.agg ⟨[.int .i64 c2.id,.int .i64 c2.roles,.int .i64 c2.exp,.int .i64 c2.ser]⟩]);(iterate 3 exact rfl);(focus (repeat' first|exact Ext.all _|apply Ext.cons);done);intro w1 hw1;exact hkey w1 (fun w2 h=>hkc w2 (hw1.chg.trans h));rintro v Lo ⟨bk2,ov2,rfl,hov2,rfl⟩;have hk9:=fun L w1 (h4:Hp w (blks BB) L w1) (h5:∀ z∈KL bk2 ov2 K,z∈L)=>KeyR.of hov2 h4 h5;generalize KL bk2 ov2 K=KK at *;rw [List.append_assoc])));apply R.nil;refine ⟨?_,?_⟩;(focus (repeat' first|exact trivial|exact At.head|apply At.right|refine ⟨?_,?_⟩)))<;>(apply A.tk 7;exact rfl;kernel_rfl;(apply Ok1.move;exact rfl))<;>(apply A.tk 8;exact rfl;kernel_rfl;(apply Ok1.extract;exact rfl;exact rfl))<;>(apply A.tk 9;exact rfl;kernel_rfl;(apply Ok1.extract;exact rfl;exact rfl))<;>(apply A.tk 10;exact rfl;kernel_rfl;(apply Ok1.assign;exact rfl))<;>(apply A.tk 11;exact rfl;kernel_rfl;(apply Ok1.assign;exact rfl))<;>(apply A.done;kernel_rfl)))|apply T.seq|apply T.region|apply T.block|apply T.skip|(apply T.cond_f;exact rfl)))
  rename_i b5
  refine T.weakK (σ':=[(0,.pointer (some ⟨bc,0,none⟩)),(5,.pointer (some ⟨b5,0,none⟩))]) (L':=(b5,.cells ⟨[.int .i64 k,.int .i64 c2.id,.int .i64 c2.roles,.int .i64 c2.exp,.int .i64 c2.ser,.int .i64 to,.int .i64 a,.int .i64 b,.slice p n cap]++u8s t⟩ 120 (0,0))::BB) ?_ (by (focus (repeat' first|exact Ext.one _ _|exact Ext.here _ _|apply Keep.cons|apply Keep.last|apply Ext.app);done)) ⟨rfl,rfl,trivial⟩
  repeat' ((apply T.is;first|(apply T.drawC (id:=11) [0] (by decide);((apply A.tk 0;exact rfl;kernel_rfl;(apply Ok1.move;exact rfl))<;>(apply A.tk 1;exact rfl;kernel_rfl;(apply Ok1.nilCheck;exact rfl))<;>(apply A.tk 2;exact rfl;kernel_rfl;(apply Ok1.fieldAddr;(iterate 5 exact rfl)))<;>(apply A.tk 3;exact rfl;kernel_rfl;(apply Ok1.load;exact rfl;(apply Ld.blk1;exact rfl;exact rfl;exact hc;exact hm1;exact rfl)))<;>(apply A.tk 4;exact rfl;kernel_rfl;(apply Ok1.fieldAddr;(iterate 5 exact rfl)))<;>(apply A.tk 5;exact rfl;kernel_rfl;(apply Ok1.load;exact rfl;(apply Ld.ownk;exact rfl;exact rfl;exact At.head;exact rfl)))<;>(apply A.tk 6;exact rfl;kernel_rfl;(apply Ok1.fieldAddr;(iterate 5 exact rfl)))<;>(apply A.tk 7;exact rfl;kernel_rfl;(apply Ok1.load;exact rfl;(apply Ld.ownk;exact rfl;exact rfl;exact At.head;exact rfl)))<;>(apply A.one 8;kernel_rfl;exact rfl;(((apply R.callE (Li:=BB) (vs:=[.pointer (some ⟨bb,0,none⟩),.agg ⟨[.int .i64 c2.id,.int .i64 c2.roles,.int .i64 c2.exp,.int .i64 c2.ser]⟩,.agg ⟨[.int .i64 a,.int .i64 b]⟩]);(iterate 3 exact rfl);(focus (repeat' first|exact Ext.all _|apply Ext.cons);done);intro w1 hw1;exact htak w1;rintro v Lo ⟨rfl,hq9⟩;rw [hq9];clear hq9)));apply R.nil;refine ⟨?_,?_⟩;(focus (repeat' first|exact trivial|exact At.head|apply At.right|refine ⟨?_,?_⟩)))<;>(apply A.tk 9;exact rfl;kernel_rfl;(apply Ok1.assign;exact rfl))<;>(apply A.done;kernel_rfl)))|apply T.ret))
  (apply RetOk.t;exact rfl)
  exact ⟨_,by (focus (repeat' first|exact Ext.here _ _|apply Keep.last);done),rfl,rfl⟩
theorem read_bad (bc bn br bb bd:Nat) (sd:List Value) (e1:TypeId) (f1:Nat × Nat) (k:Int) (hw3:wayI k=3) (c2:Cl) (to a b:Int) (body t:List Int) (ht:t.length=32) (htb:Byt t) (hbb:Byt body) (hE:pckE k c2 to a b body.length t=0) (tick:Int) (rv:Option Addr) (ns:List Int) (hl:ns.length=16) (E:Nat) (hE1:1≤E) (y:Int) (hy:ns[E]? = some y) (h0:0≤y) (h1:y < 2147483647) (p:Option Addr) (n cap:Nat) (hn:n=(pkB k c2 to a b body t).length) (w:World) (hp:RdSl w p u8V (pkB k c2 to a b body t)) (hq:Off p [bd]) (hc:w.heap[bc]? = some (.cells ⟨chC bn br bb bd sd⟩ e1 f1)) (hm1:bc ∉ [bd]) (hside:∀ q cap2 w1,Chg [bd] w w1→CallW Tryz.prog 188 [.pointer (some ⟨bc,0,none⟩),.agg ⟨pkC k c2 to a b q body.length cap2 t⟩,.int .i64 tick,.pointer rv] w1 fun v _=>v = .int .i64 E) :
    CallM Tryz.prog 44 [.pointer (some ⟨bc,0,none⟩),.slice p n cap,.int .i64 tick,.pointer rv] (DrpL bd ns) w fun v L=>v = .tuple #[.agg ⟨pkC 0 cl0 0 0 0 none 0 0 (zI 32)⟩,.int .i64 E]∧L=DrpL bd (ns.set E (y+1)):=by
  have hpa:=fun w1 (h:Chg [bd] w w1)=>parse_wr p n cap k c2 to a b body t ht htb hbb hE hn w1 (hp.chg h hq)
  have hcn:=fun q w1 hx hy2=>dcount_ok bd ns hl E hE1 y hy h0 h1 q 1 w1 hx hy2
  have hwy:=way_ok k
  rw [hw3] at hwy
  have hl1:=fun p2 cap2=>pk_len k c2 to a b p2 body.length cap2 ht
  have ho1:=fun p2 cap2=>pk_one k c2 to a b p2 body.length cap2 t
  have hzl:(pkC 0 cl0 0 0 0 none 0 0 (zI 32)).length=41:=rfl
  unfold chC at hc
  have hbl:blks (DrpL bd ns)=[bd]:=rfl
  generalize DrpL bd (ns.set E (y+1))=D9 at *
  rw [← hbl] at hm1 hpa hside hcn
  generalize DrpL bd ns=D0 at *
  refine enterK (tb:=tb) Tryz.func44 rfl Tryz.ntmps44 rfl ?_
  simp only [pkC] at hpa hl1 ho1 hside
  repeat' (first|(apply R.is1;first|(apply R.isBin;(apply R.pure;exact rfl;first|(apply Ok1.eqlP;(iterate 5 exact rfl))|(apply Ok1.eql_t;exact rfl;exact rfl;omega)|(apply Ok1.neq_t;exact rfl;exact rfl;omega)))|(apply R.isCall;first|(apply R.callE (vs:=[.slice p n cap]);(iterate 3 exact rfl);exact Ext.none _;intro w1 hw1;exact hpa w1 hw1.chg;rintro v Lo ⟨ov,hov,rfl,rfl⟩)|(apply R.callE (Li:=D0) (vs:=[.pointer (some ⟨bd,0,none⟩),.slice (some ⟨_,0,none⟩) 1 1]);(iterate 3 exact rfl);(focus (repeat' first|exact Ext.all _|apply Ext.cons|apply Ext.app);done);intro w1 hw1;exact hcn _ w1 (RdSl.of (junk:=[]) hw1 (by exact At.head) rfl) (Off.of hw1 (by (focus (repeat' first|exact Ext.all _|apply Ext.cons|apply Ext.app);done)) (by exact At.head));rintro v Lo ⟨rfl,hq9⟩;rw [hq9];clear hq9))|(apply R.pure;exact rfl;first|(apply Ok1.load;exact rfl;(apply Ld.blk1;exact rfl;exact rfl;exact hc;exact hm1;exact rfl))|(apply Ok1.move;exact rfl)|(apply Ok1.fieldAddr;(iterate 5 exact rfl))|(apply Ok1.assign;exact rfl)|(apply Ok1.build;(iterate 5 exact rfl))|(apply Ok1.extract;exact rfl;exact rfl)|(apply Ok1.nilCheck;exact rfl))|(apply R.alloc;(iterate 3 exact rfl);intro)|(apply R.buildSlice;(iterate 12 exact rfl);intro))|(apply R.is0;first|(apply R.store;(iterate 4 exact rfl);exact (hl1 _ _);exact (ho1 _ _);exact Upd.head;exact setE_all (hl1 _ _))|(apply R.store;(iterate 6 exact rfl);(focus (repeat' first|exact Upd.head|apply Upd.tail|apply Upd.right);done);exact rfl))|apply R.nil|(apply T.is;first|(apply T.drawC (id:=5) [0] (by decide);((apply A.call 0;exact rfl;exact rfl;kernel_rfl;kernel_rfl;kernel_rfl;exact rfl;exact rfl;(exact fun w1 hw1=>looks_ok.at w1))<;>(apply A.tk 1;exact rfl;kernel_rfl;(apply Ok1.fieldAddr;(iterate 5 exact rfl)))<;>(apply A.tk 2;exact rfl;kernel_rfl;(apply Ok1.load;exact rfl;(apply Ld.own1;exact rfl;exact rfl;exact At.head;exact rfl)))<;>(apply A.call 3;exact rfl;exact rfl;kernel_rfl;kernel_rfl;kernel_rfl;exact rfl;exact rfl;(exact fun w1 hw1=>hwy.at w1))<;>(apply A.tk 4;exact rfl;kernel_rfl;(apply Ok1.index1;(iterate 6 exact rfl);omega;omega;exact rfl))<;>(apply A.tk 5;exact rfl;kernel_rfl;(apply Ok1.move;exact rfl))<;>(apply A.tk 6;exact rfl;kernel_rfl;(apply Ok1.load;exact rfl;(apply Ld.ownk;exact rfl;exact rfl;exact At.head;exact subE_all (hl1 _ _))))<;>(apply A.tk 7;exact rfl;kernel_rfl;(apply Ok1.move;exact rfl))<;>(apply A.tk 8;exact rfl;kernel_rfl;(apply Ok1.move;exact rfl))<;>(apply A.one 9;kernel_rfl;exact rfl;(((apply R.callFE (f:=188) (fa:=[]) (cb:=[]) (Li:=[]) (vs:=[.pointer (some ⟨bc,0,none⟩),.agg _,.int .i64 tick,.pointer rv]);(iterate 4 exact rfl);exact Ext.none _;intro w1 hw1;exact (hside _ _ w1 hw1.chg).toM;rintro v Lo ⟨rfl,rfl⟩;rw [List.nil_append])));apply R.nil;refine ⟨?_,?_⟩;(focus ((repeat' (first|exact trivial|(refine ⟨?_,?_⟩;exact At.head))))))<;>(apply A.tk 10;exact rfl;kernel_rfl;(apply Ok1.assign;exact rfl))<;>(apply A.done;kernel_rfl)))|apply T.seq|apply T.region|apply T.skip|apply T.ret|(apply T.cond_t;exact rfl)|(apply T.cond_f;exact rfl)))
  all_goals skip
  (apply RetOk.ct;exact rfl;(apply Ld.ownk;exact rfl;exact rfl;(focus (repeat' first|exact At.head|apply At.tail|apply At.right);done);exact subE_all hzl);exact rfl)
  exact ⟨_,by (focus (repeat' first|exact Ext.here _ _|apply Keep.last);done),rfl,rfl⟩
theorem read_ok (bc bn br bb bd:Nat) (sd:List Value) (e1:TypeId) (f1:Nat × Nat) (k:Int) (hw3:wayI k=3) (c2:Cl) (to a b:Int) (body t:List Int) (ht:t.length=32) (htb:Byt t) (hbb:Byt body) (hE:pckE k c2 to a b body.length t=0) (tick:Int) (rv:Option Addr) (p:Option Addr) (n cap:Nat) (hn:n=(pkB k c2 to a b body t).length) (BB B9:Lst) (w:World) (hp:RdSl w p u8V (pkB k c2 to a b body t)) (hq:Off p (blks BB)) (hc:w.heap[bc]? = some (.cells ⟨chC bn br bb bd sd⟩ e1 f1)) (hm1:bc ∉ blks BB) (hside:∀ q cap2 w1,Chg (blks BB) w w1→RdSl w1 q u8V body→(body≠[]→Off q (blks BB))→CallM Tryz.prog 188 [.pointer (some ⟨bc,0,none⟩),.agg ⟨pkC k c2 to a b q body.length cap2 t⟩,.int .i64 tick,.pointer rv] BB w1 fun v L=>v = .int .i64 0∧L=B9) :
    CallM Tryz.prog 44 [.pointer (some ⟨bc,0,none⟩),.slice p n cap,.int .i64 tick,.pointer rv] BB w fun v L=>(∃ q cap2,v = .tuple #[.agg ⟨pkC k c2 to a b q body.length cap2 t⟩,.int .i64 0])∧L=B9:=by
  have hpa:=fun w1 (h:Chg (blks BB) w w1)=>parse_wr p n cap k c2 to a b body t ht htb hbb hE hn w1 (hp.chg h hq)
  have hwy:=way_ok k
  rw [hw3] at hwy
  have hl1:=fun p2 cap2=>pk_len k c2 to a b p2 body.length cap2 ht
  have ho1:=fun p2 cap2=>pk_one k c2 to a b p2 body.length cap2 t
  unfold chC at hc
  refine enterK (tb:=tb) Tryz.func44 rfl Tryz.ntmps44 rfl ?_
  simp only [pkC] at hpa hl1 ho1 hside ⊢
  repeat' (first|(apply R.is1;first|(apply R.isBin;(apply R.pure;exact rfl;first|(apply Ok1.eqlP;(iterate 5 exact rfl))|(apply Ok1.eql_t;exact rfl;exact rfl;omega)|(apply Ok1.neq_f;exact rfl;exact rfl;omega)))|(apply R.isCall;(apply R.callE (vs:=[.slice p n cap]);(iterate 3 exact rfl);exact Ext.none _;intro w1 hw1;exact hpa w1 hw1.chg;rintro v Lo ⟨ov,hov,rfl,rfl⟩))|(apply R.pure;exact rfl;first|(apply Ok1.load;exact rfl;(apply Ld.ownk;exact rfl;exact rfl;(focus (repeat' first|exact At.head|apply At.right);done);exact subE_all (hl1 _ _)))|(apply Ok1.move;exact rfl)|(apply Ok1.assign;exact rfl)|(apply Ok1.extract;exact rfl;exact rfl))|(apply R.alloc;(iterate 3 exact rfl);intro))|(apply R.is0;(apply R.store;(iterate 4 exact rfl);exact (hl1 _ _);exact (ho1 _ _);(focus (repeat' first|exact Upd.head|apply Upd.tail|apply Upd.right);done);exact setE_all (hl1 _ _)))|apply R.nil|(apply T.is;first|(apply T.drawC (id:=5) [0] (by decide);((apply A.call 0;exact rfl;exact rfl;kernel_rfl;kernel_rfl;kernel_rfl;exact rfl;exact rfl;(exact fun w1 hw1=>looks_ok.at w1))<;>(apply A.tk 1;exact rfl;kernel_rfl;(apply Ok1.fieldAddr;(iterate 5 exact rfl)))<;>(apply A.tk 2;exact rfl;kernel_rfl;(apply Ok1.load;exact rfl;(apply Ld.own1;exact rfl;exact rfl;exact At.head;exact rfl)))<;>(apply A.call 3;exact rfl;exact rfl;kernel_rfl;kernel_rfl;kernel_rfl;exact rfl;exact rfl;(exact fun w1 hw1=>hwy.at w1))<;>(apply A.tk 4;exact rfl;kernel_rfl;(apply Ok1.index1;(iterate 6 exact rfl);omega;omega;exact rfl))<;>(apply A.tk 5;exact rfl;kernel_rfl;(apply Ok1.move;exact rfl))<;>(apply A.tk 6;exact rfl;kernel_rfl;(apply Ok1.load;exact rfl;(apply Ld.ownk;exact rfl;exact rfl;exact At.head;exact subE_all (hl1 _ _))))<;>(apply A.tk 7;exact rfl;kernel_rfl;(apply Ok1.move;exact rfl))<;>(apply A.tk 8;exact rfl;kernel_rfl;(apply Ok1.move;exact rfl))<;>(apply A.one 9;kernel_rfl;exact rfl;(((apply R.callFE (f:=188) (fa:=[]) (cb:=[]) (Li:=BB) (vs:=[.pointer (some ⟨bc,0,none⟩),.agg _,.int .i64 tick,.pointer rv]);(iterate 4 exact rfl);(focus (repeat' first|exact Ext.all _|apply Ext.cons|apply Ext.app);done);intro w1 hw1;exact hside _ _ w1 hw1.chg (rdown hov hw1 (Ext.mem (by (focus (repeat' first|exact Ext.here _ _|apply Ext.cons);done)))) (fun _=>ovoff (xs:=u8s body) (e:=5) (Li:=BB) hw1 (by (focus (repeat' first|exact Ext.all _|apply Ext.cons|apply Ext.app);done)) (Ext.mem (by (focus (repeat' first|exact Ext.here _ _|apply Ext.cons);done))));rintro v Lo ⟨rfl,hq8⟩;rw [hq8];clear hq8)));apply R.nil;refine ⟨?_,?_⟩;(focus (repeat' first|exact trivial|exact At.head|apply At.right|refine ⟨?_,?_⟩)))<;>(apply A.tk 10;exact rfl;kernel_rfl;(apply Ok1.assign;exact rfl))<;>(apply A.done;kernel_rfl)))|apply T.seq|apply T.region|apply T.skip|apply T.ret|(apply T.cond_t;exact rfl)|(apply T.cond_f;exact rfl)))
  (apply RetOk.ct;exact rfl;(apply Ld.ownk;exact rfl;exact rfl;(focus (repeat' first|exact At.head|apply At.tail|apply At.right);done);exact subE_all (hl1 _ _));exact rfl)
  exact ⟨_,by (focus (repeat' first|exact Ext.here _ _|apply Keep.last);done),⟨_,_,rfl⟩,rfl⟩
theorem read_twice (bc bn br bb bd:Nat) (sd:List Value) (e1:TypeId) (f1:Nat × Nat) (k:Int) (hw3:wayI k=3) (c2:Cl) (to a b:Int) (body t:List Int) (ht:t.length=32) (htb:Byt t) (hbb:Byt body) (hE:pckE k c2 to a b body.length t=0) (tick:Int) (rv:Option Addr) (ns:List Int) (hl:ns.length=16) (E:Nat) (hE1:1≤E) (y:Int) (hy:ns[E]? = some y) (h0:0≤y) (h1:y < 2147483647) (p:Option Addr) (n cap:Nat) (hn:n=(pkB k c2 to a b body t).length) (BB B9:Lst) (w:World) (hp:RdSl w p u8V (pkB k c2 to a b body t)) (hq:Off p (blks (DrpL bd ns++BB))) (hc:w.heap[bc]? = some (.cells ⟨chC bn br bb bd sd⟩ e1 f1)) (hm1:bc ∉ blks (DrpL bd ns++BB)) (hside:∀ q cap2 w1,Chg (blks (DrpL bd ns++BB)) w w1→RdSl w1 q u8V body→(body≠[]→Off q (blks BB))→CallM Tryz.prog 188 [.pointer (some ⟨bc,0,none⟩),.agg ⟨pkC k c2 to a b q body.length cap2 t⟩,.int .i64 tick,.pointer rv] BB w1 fun v L=>v = .int .i64 E∧L=B9) :
    CallM Tryz.prog 44 [.pointer (some ⟨bc,0,none⟩),.slice p n cap,.int .i64 tick,.pointer rv] (DrpL bd ns++BB) w fun v L=>v = .tuple #[.agg ⟨pkC 0 cl0 0 0 0 none 0 0 (zI 32)⟩,.int .i64 E]∧L=DrpL bd (ns.set E (y+1))++B9:=by
  have hpa:=fun w1 (h:Chg (blks (DrpL bd ns++BB)) w w1)=>parse_wr p n cap k c2 to a b body t ht htb hbb hE hn w1 (hp.chg h hq)
  have hcn:=fun q w1 hx hy2=>dcount_ok bd ns hl E hE1 y hy h0 h1 q 1 w1 hx hy2
  have hwy:=way_ok k
  rw [hw3] at hwy
  have hl1:=fun p2 cap2=>pk_len k c2 to a b p2 body.length cap2 ht
  have ho1:=fun p2 cap2=>pk_one k c2 to a b p2 body.length cap2 t
  have hzl:(pkC 0 cl0 0 0 0 none 0 0 (zI 32)).length=41:=rfl
  unfold chC at hc
  have hbl:blks (DrpL bd ns)=[bd]:=rfl
  generalize DrpL bd (ns.set E (y+1))=D9 at *
  rw [← hbl] at hcn
  generalize DrpL bd ns=D0 at *
  refine enterK (tb:=tb) Tryz.func44 rfl Tryz.ntmps44 rfl ?_
  simp only [pkC] at hpa hl1 ho1 hside
  repeat' (first|(apply R.is1;first|(apply R.isBin;(apply R.pure;exact rfl;first|(apply Ok1.eqlP;(iterate 5 exact rfl))|(apply Ok1.eql_t;exact rfl;exact rfl;omega)|(apply Ok1.neq_t;exact rfl;exact rfl;omega)))|(apply R.isCall;first|(apply R.callE (vs:=[.slice p n cap]);(iterate 3 exact rfl);exact Ext.none _;intro w1 hw1;exact hpa w1 hw1.chg;rintro v Lo ⟨ov,hov,rfl,rfl⟩)|(apply R.callE (Li:=D0) (vs:=[.pointer (some ⟨bd,0,none⟩),.slice (some ⟨_,0,none⟩) 1 1]);(iterate 3 exact rfl);(focus (repeat' first|exact Ext.here _ _|apply Ext.cons|apply Ext.app);done);intro w1 hw1;exact hcn _ w1 (RdSl.of (junk:=[]) hw1 (by exact At.head) rfl) (Off.of hw1 (by (focus (repeat' first|exact Ext.here _ _|apply Ext.cons|apply Ext.app);done)) (by exact At.head));rintro v Lo ⟨rfl,hq9⟩;rw [hq9];clear hq9))|(apply R.pure;exact rfl;first|(apply Ok1.load;exact rfl;(apply Ld.blk1;exact rfl;exact rfl;exact hc;exact hm1;exact rfl))|(apply Ok1.move;exact rfl)|(apply Ok1.fieldAddr;(iterate 5 exact rfl))|(apply Ok1.assign;exact rfl)|(apply Ok1.build;(iterate 5 exact rfl))|(apply Ok1.extract;exact rfl;exact rfl)|(apply Ok1.nilCheck;exact rfl))|(apply R.alloc;(iterate 3 exact rfl);intro)|(apply R.buildSlice;(iterate 12 exact rfl);intro))|(apply R.is0;first|(apply R.store;(iterate 4 exact rfl);exact (hl1 _ _);exact (ho1 _ _);exact Upd.head;exact setE_all (hl1 _ _))|(apply R.store;(iterate 6 exact rfl);(focus (repeat' first|exact Upd.head|apply Upd.tail|apply Upd.right);done);exact rfl))|apply R.nil|(apply T.is;first|(apply T.drawC (id:=5) [0] (by decide);((apply A.call 0;exact rfl;exact rfl;kernel_rfl;kernel_rfl;kernel_rfl;exact rfl;exact rfl;(exact fun w1 hw1=>looks_ok.at w1))<;>(apply A.tk 1;exact rfl;kernel_rfl;(apply Ok1.fieldAddr;(iterate 5 exact rfl)))<;>(apply A.tk 2;exact rfl;kernel_rfl;(apply Ok1.load;exact rfl;(apply Ld.own1;exact rfl;exact rfl;exact At.head;exact rfl)))<;>(apply A.call 3;exact rfl;exact rfl;kernel_rfl;kernel_rfl;kernel_rfl;exact rfl;exact rfl;(exact fun w1 hw1=>hwy.at w1))<;>(apply A.tk 4;exact rfl;kernel_rfl;(apply Ok1.index1;(iterate 6 exact rfl);omega;omega;exact rfl))<;>(apply A.tk 5;exact rfl;kernel_rfl;(apply Ok1.move;exact rfl))<;>(apply A.tk 6;exact rfl;kernel_rfl;(apply Ok1.load;exact rfl;(apply Ld.ownk;exact rfl;exact rfl;exact At.head;exact subE_all (hl1 _ _))))<;>(apply A.tk 7;exact rfl;kernel_rfl;(apply Ok1.move;exact rfl))<;>(apply A.tk 8;exact rfl;kernel_rfl;(apply Ok1.move;exact rfl))<;>(apply A.one 9;kernel_rfl;exact rfl;(((apply R.callFE (f:=188) (fa:=[]) (cb:=[]) (Li:=BB) (vs:=[.pointer (some ⟨bc,0,none⟩),.agg _,.int .i64 tick,.pointer rv]);(iterate 4 exact rfl);(focus (repeat' first|exact Ext.all _|apply Ext.cons|apply Ext.app);done);intro w1 hw1;exact hside _ _ w1 hw1.chg (rdown hov hw1 (Ext.mem (by (focus (repeat' first|exact Ext.here _ _|apply Ext.cons);done)))) (fun _=>ovoff (xs:=u8s body) (e:=5) (Li:=BB) hw1 (by (focus (repeat' first|exact Ext.all _|apply Ext.cons|apply Ext.app);done)) (Ext.mem (by (focus (repeat' first|exact Ext.here _ _|apply Ext.cons);done))));rintro v Lo ⟨rfl,hq8⟩;rw [hq8];clear hq8)));apply R.nil;refine ⟨?_,?_⟩;(focus (repeat' first|exact trivial|exact At.head|apply At.right|refine ⟨?_,?_⟩)))<;>(apply A.tk 10;exact rfl;kernel_rfl;(apply Ok1.assign;exact rfl))<;>(apply A.done;kernel_rfl)))|apply T.seq|apply T.region|apply T.skip|apply T.ret|(apply T.cond_t;exact rfl)|(apply T.cond_f;exact rfl)))
  all_goals skip
  (apply RetOk.ct;exact rfl;(apply Ld.ownk;exact rfl;exact rfl;(focus (repeat' first|exact At.head|apply At.tail|apply At.right);done);exact subE_all hzl);exact rfl)
  exact ⟨_,by (focus (repeat' first|exact Ext.here _ _|apply Keep.app|apply Keep.last|apply Ext.cons);done),rfl,rfl⟩
theorem chnew2_ok (c:Cl) (hr:c.right) (s:List Int) (hs:s.length=32) (boot:Int) (hb:NR boot 1) (w:World):CallM Tryz.prog 36 [.agg ⟨tkC c s⟩,.int .i64 boot] [] w fun v L=>∃ bc bn br bb bd bm m1 m2 sd,v = .tuple #[.pointer (some ⟨bc,0,none⟩),.int .i64 0]∧L=ChL bc bn br bb bd bm m1 m2 c s boot sd (drpC (List.replicate 16 0)):=by
  have htl:=tk_len (c:=c) hs
  have h1:=fun w1=>ring_new c hr s hs w1
  have h2:=fun w1=>wstart_ok boot hb w1
  refine enterK (tb:=tb) Tryz.func36 rfl Tryz.ntmps36 rfl ?_
  repeat' (first|(apply R.is1;first|(apply R.isBin;(apply R.pure;exact rfl;(apply Ok1.neq_f;exact rfl;exact rfl;omega)))|(apply R.isCall;first|(apply R.callE (vs:=[.agg ⟨tkC c s⟩]);(iterate 3 exact rfl);exact Ext.none _;intro w1 hw1;exact h1 w1;rintro x Lo ⟨br,m1,m2,rfl,rfl⟩)|(apply R.callE (vs:=[.int .i64 boot]);(iterate 3 exact rfl);exact Ext.none _;intro w1 hw1;exact h2 w1;rintro x Lo ⟨bn,rfl,rfl⟩)|(apply R.callE (vs:=[.int .i64 2147483647]);(iterate 3 exact rfl);exact Ext.none _;intro w1 hw1;exact dnew2_ok w1;rintro x Lo ⟨bd,rfl,rfl⟩;unfold DrpL)|(apply R.callE (vs:=[]);(iterate 3 exact rfl);exact Ext.none _;intro w1 hw1;exact New_ok w1;rintro x Lo ⟨bb,bm,rfl,rfl⟩))|(apply R.pure;exact rfl;first|(apply Ok1.load;exact rfl;(apply Ld.ownk;exact rfl;exact rfl;exact At.head;exact subE_all htl))|(apply Ok1.move;exact rfl)|(apply Ok1.assign;exact rfl)|(apply Ok1.build;(iterate 5 exact rfl))|(apply Ok1.extract;exact rfl;exact rfl))|(apply R.box;(iterate 3 exact rfl);intro))|apply R.nil|(apply T.is;first|apply T.seq|apply T.region|apply T.skip|apply T.ret|(apply T.cond_f;exact rfl)))
  rename_i bc
  (apply RetOk.tt;exact rfl;exact rfl)
  refine ⟨_,?_,bc,bn,br,bb,bd,bm,m1,m2,wz4,rfl,rfl⟩
  unfold ChL chC wz4
  (focus (repeat' first|exact Keep.nil _|exact Ext.one _ _|apply Keep.cons|apply Ext.cons);done)
def stB (m:Nat):Int:=if m=0 then 0 else 1
def stC (m:Nat):Int:=if m=0 then 0 else ((Nat.log2 m+1:Nat):Int)
def stM (m:Nat):Int:=if m=0 then 0 else (((List.range 8).foldl (fun s j=>if m.testBit j then s+2 ^ (Nat.log2 m - j) else s) 0:Nat):Int)
/-- The entry once the counters of a mask were taken. -/
def stE (m:Nat) (key:Option Addr) (asked:Int):En:=⟨stB m,stC m,stM m,key,asked⟩
def okM (m j:Nat):Bool :=
  if m.testBit j then decide (lookW (stE m none 0) 1 (j+1)=8)
  else decide (lookW (stE m none 0) 1 (j+1)=0) && decide ((takeW (stE m none 0) 1 (j+1)).boot=stB (m ||| 2 ^ j)) && decide ((takeW (stE m none 0) 1 (j+1)).ctr=stC (m ||| 2 ^ j)) && decide ((takeW (stE m none 0) 1 (j+1)).bits=stM (m ||| 2 ^ j))
theorem okM_all:((List.range 256).all fun m=>(List.range 8).all fun j=>okM m j)=true:=by decide +kernel
theorem okM_at {m j:Nat} (hm:m < 256) (hj:j < 8):okM m j=true :=
  List.all_eq_true.1 (List.all_eq_true.1 okM_all m (List.mem_range.2 hm)) j (List.mem_range.2 hj)
theorem takeW_key (b c s:Int) (key:Option Addr) (asked x y:Int):takeW ⟨b,c,s,key,asked⟩ x y=⟨(takeW ⟨b,c,s,none,0⟩ x y).boot,(takeW ⟨b,c,s,none,0⟩ x y).ctr,(takeW ⟨b,c,s,none,0⟩ x y).bits,key,asked⟩:=by
  have e:lookW ⟨b,c,s,key,asked⟩ x y=lookW ⟨b,c,s,none,0⟩ x y:=rfl
  unfold takeW
  rw [e]
  simp only
  split
  · rfl
  · split
    · rfl
    · split<;>rfl
/-- Not taken yet: it is taken. -/
theorem st_take {m j:Nat} (hm:m < 256) (hj:j < 8) (hn:m.testBit j=false) (key:Option Addr) (asked:Int):lookW (stE m key asked) 1 (j+1)=0∧takeW (stE m key asked) 1 (j+1)=stE (m ||| 2 ^ j) key asked:=by
  have h:=okM_at hm hj
  unfold okM at h
  rw [hn] at h
  simp only [Bool.false_eq_true,if_false,Bool.and_eq_true,decide_eq_true_eq] at h
  obtain ⟨⟨⟨h1,h2⟩,h3⟩,h4⟩:=h
  refine ⟨h1,?_⟩
  rw [stE,takeW_key]
  rw [stE] at h2 h3 h4
  rw [h2,h3,h4,stE]
/-- Taken: it is not taken again. -/
theorem st_twice {m j:Nat} (hm:m < 256) (hj:j < 8) (hn:m.testBit j=true) (key:Option Addr) (asked:Int):lookW (stE m key asked) 1 (j+1)=8∧takeW (stE m key asked) 1 (j+1)=stE m key asked:=by
  have h:=okM_at hm hj
  unfold okM at h
  rw [hn] at h
  simp only [if_true,decide_eq_true_eq] at h
  have h8:lookW (stE m key asked) 1 (j+1)=8:=h
  exact ⟨h8,by rw [takeW,if_pos (by rw [h8];decide)]⟩
theorem st_lt {m j:Nat} (hm:m < 256) (hj:j < 8):m ||| 2 ^ j < 256:=Nat.or_lt_two_pow (n:=8) hm (Nat.pow_lt_pow_right (by decide) hj)
theorem st_bits {m:Nat} (hm:m < 256):0≤stC m∧stC m≤64:=by
  have h:((List.range 256).all fun m=>decide (0≤stC m∧stC m≤64))=true:=by decide +kernel
  exact of_decide_eq_true (List.all_eq_true.1 h m (List.mem_range.2 hm))
section
variable (bc bn br bb bd:Nat) (sd:List Value) (e1:TypeId) (f1:Nat × Nat) (w:World) (hc:w.heap[bc]? = some (.cells ⟨chC bn br bb bd sd⟩ e1 f1))
include hc
theorem chring_ok:CallW Tryz.prog 37 [.pointer (some ⟨bc,0,none⟩)] w fun v _=>v = .pointer (some ⟨br,0,none⟩):=by
  unfold chC at hc
  refine enterW (tb:=tb) Tryz.func37 rfl Tryz.ntmps37 rfl ?_
  repeat' (first|(apply R.is1;first|(apply R.isBin;(apply R.pure;exact rfl;(apply Ok1.eqlP;(iterate 5 exact rfl))))|(apply R.pure;exact rfl;first|(apply Ok1.load;exact rfl;(apply Ld.blk1;exact rfl;exact rfl;exact hc;exact List.not_mem_nil;exact rfl))|(apply Ok1.move;exact rfl)|(apply Ok1.fieldAddr;(iterate 5 exact rfl))|(apply Ok1.assign;exact rfl)|(apply Ok1.nilCheck;exact rfl)))|apply R.nil|(apply T.is;first|apply T.seq|apply T.region|apply T.skip|apply T.ret|(apply T.cond_f;exact rfl)))
  (apply RetOk.t;exact rfl)
  rfl
theorem chbook_ok:CallW Tryz.prog 40 [.pointer (some ⟨bc,0,none⟩)] w fun v _=>v = .pointer (some ⟨bb,0,none⟩):=by
  unfold chC at hc
  refine enterW (tb:=tb) Tryz.func40 rfl Tryz.ntmps40 rfl ?_
  repeat' (first|(apply R.is1;first|(apply R.isBin;(apply R.pure;exact rfl;(apply Ok1.eqlP;(iterate 5 exact rfl))))|(apply R.pure;exact rfl;first|(apply Ok1.load;exact rfl;(apply Ld.blk1;exact rfl;exact rfl;exact hc;exact List.not_mem_nil;exact rfl))|(apply Ok1.move;exact rfl)|(apply Ok1.fieldAddr;(iterate 5 exact rfl))|(apply Ok1.assign;exact rfl)|(apply Ok1.nilCheck;exact rfl)))|apply R.nil|(apply T.is;first|apply T.seq|apply T.region|apply T.skip|apply T.ret|(apply T.cond_f;exact rfl)))
  (apply RetOk.t;exact rfl)
  rfl
theorem chdrops_ok:CallW Tryz.prog 46 [.pointer (some ⟨bc,0,none⟩)] w fun v _=>v = .pointer (some ⟨bd,0,none⟩):=by
  unfold chC at hc
  refine enterW (tb:=tb) Tryz.func46 rfl Tryz.ntmps46 rfl ?_
  repeat' (first|(apply R.is1;first|(apply R.isBin;(apply R.pure;exact rfl;(apply Ok1.eqlP;(iterate 5 exact rfl))))|(apply R.pure;exact rfl;first|(apply Ok1.load;exact rfl;(apply Ld.blk1;exact rfl;exact rfl;exact hc;exact List.not_mem_nil;exact rfl))|(apply Ok1.move;exact rfl)|(apply Ok1.fieldAddr;(iterate 5 exact rfl))|(apply Ok1.assign;exact rfl)|(apply Ok1.nilCheck;exact rfl)))|apply R.nil|(apply T.is;first|apply T.seq|apply T.region|apply T.skip|apply T.ret|(apply T.cond_f;exact rfl)))
  (apply RetOk.t;exact rfl)
  rfl
end
/-- The claims of the i-th channel. -/
def cli (i:Nat):Cl:=⟨5+(i:Int),0,100,1+(i:Int)⟩
theorem cli_right {i:Nat} (h:i < 3):(cli i).right:=by
  simp only [cli,Cl.right]
  omega
/-- A packet that was written,in a block of one's own. -/
structure PkR where
  ov:Ov
  k:Int
  j:Nat
  body:List Int
instance:Inhabited PkR:=⟨⟨none,0,0,[]⟩⟩
def PkR.t (s:List Int) (x:PkR):List Int:=wrT s x.k (cli 0) 6 1 ((x.j:Int)+1) x.body
def PkR.xs (s:List Int) (x:PkR):List Int:=wrG (cli 0) s x.k 6 1 ((x.j:Int)+1) x.body
def PkR.v (s:List Int) (x:PkR):List Value:=[.slice (ovp x.ov) (x.xs s).length (ovc x.ov (x.xs s).length)]
theorem PkR.v_len (s:List Int) (x:PkR):(x.v s).length=1:=rfl
def PkR.L (s:List Int) (x:PkR):Lst:=blkL 5 x.ov (u8s (x.xs s))
def PksL (s:List Int) (l:List PkR):Lst:=l.flatMap (PkR.L s)
theorem PksL_snoc (s:List Int) (l:List PkR) (x:PkR):PksL s (l++[x])=PksL s l++x.L s:=by simp [PksL]
theorem mem_PksL {s:List Int} {l:List PkR} {x:PkR} (h:x∈l):∀ z∈x.L s,z∈PksL s l:=fun z hz=>List.mem_flatMap.2 ⟨x,h,hz⟩
structure PkR.ok (s:List Int) (x:PkR):Prop where
  ov:OvOk 1 x.ov (x.xs s).length (u8s (x.xs s))
  k7:7≤x.k
  k10:x.k≤10
  len:x.body.length≤100
  byt:Byt x.body
  j:x.j < 8
theorem wr_way {k:Int} (h7:7≤k) (h10:k≤10):wayI k=3:=by
  unfold wayI
  rw [if_neg (by omega),if_neg (by omega),if_pos (by omega)]
theorem wr_zero {k:Int} (h7:7≤k) (h10:k≤10) {n:Nat} (hn:n≤100):wrE k 6 n=0:=by
  have h3:=wr_way h7 h10
  have hc:chE k 6=0:=by unfold chE;rw [h3];rfl
  unfold wrE
  rw [if_neg (fun h=>h hc),if_neg (by omega)]
structure PkR.fact (s:List Int) (x:PkR):Prop where
  way:wayI x.k=3
  tag:x.t s=pkT (senderI s 6) x.k (cli 0) 6 1 ((x.j:Int)+1) x.body
  chk:pckE x.k (cli 0) 6 1 ((x.j:Int)+1) x.body.length (x.t s)=0
  nr:NR 1 ((x.j:Int)+1)
  tl:(x.t s).length=32
  tb:Byt (x.t s)
theorem PkR.ok.facts {s:List Int} {x:PkR} (h:x.ok s):x.fact s:=by
  have h3:=wr_way h.k7 h.k10
  have hj:=h.j
  have hN:NR 1 ((x.j:Int)+1):=by unfold NR;omega
  have hkey:chK s x.k 6=senderI s 6:=by unfold chK;rw [if_neg (by rw [h3];decide)]
  have htag:x.t s=pkT (senderI s 6) x.k (cli 0) 6 1 ((x.j:Int)+1) x.body:=by
    unfold PkR.t wrT
    rw [if_neg (by have:=h.k7;omega),hkey]
  exact ⟨h3,htag,wr_check (wr_zero h.k7 h.k10 h.len) (cli_right (by decide)) hN s x.body,hN,wrT_len _ _ _ _ _ _ _,by rw [htag];unfold pkT;exact hmac_byt _ _⟩
section
variable {s:List Int} {x:PkR} (hx:x.ok s) (bc bn br bb bd:Nat) (sd:List Value) (c:Cl) (s2:List Int) (hs2:s2.length=32) (m1 m2:Nat) (tick:Int) (ns:List Int) (hl:ns.length=16) {w0 w:World} {S:List Nat} {L Lr:Lst} (hw:Hp w0 S L w)
include hx hs2 hw
theorem rd_arg (hl:ns.length=16) (h6:(6:Int)≠c.id) (y:Int) (hy:ns[1]? = some y) (h0:0≤y) (h1:y < 2147483647) (he:Ext L (DrpL bd ns) Lr) (hc:(bc,.cells ⟨chC bn br bb bd sd⟩ 232 (0,0))∈Lr) (hb:(br,.cells ⟨ringC c s2 m1 m2⟩ 236 (0,0))∈Lr) (hin:∀ z∈x.L s,z∈Lr) :
    CallM Tryz.prog 44 [.pointer (some ⟨bc,0,none⟩),.slice (ovp x.ov) (x.xs s).length (ovc x.ov (x.xs s).length),.int .i64 tick,.pointer none] (DrpL bd ns) w fun v L=>v = .tuple #[.agg ⟨pkC 0 cl0 0 0 0 none 0 0 (zI 32)⟩,.int .i64 1]∧L=DrpL bd (ns.set 1 (y+1)):=by
  obtain ⟨hw3,_,hE,hN,htl,htb⟩:=hx.facts
  have hmem:∀ z∈Lr,z∈L:=fun z hz=>he.perm.subset (List.mem_append_right _ hz)
  have hp:=rdown hx.ov hw fun z hz=>hmem z (hin z hz)
  have hq:Off (ovp x.ov) [bd]:=ovoff hw he hin
  have hm1:bc ∉ [bd]:=RdSl.off hw he hc
  have hm2:br ∉ [bd]:=RdSl.off hw he hb
  have g1:=hw.get _ _ (hmem _ hc)
  have g2:=hw.get _ _ (hmem _ hb)
  exact read_bad bc bn br bb bd sd 232 (0,0) x.k hw3 (cli 0) 6 1 ((x.j:Int)+1) x.body (x.t s) htl htb hx.byt hE tick none ns hl 1 (by decide) y hy h0 h1 _ _ _ rfl w hp hq g1 hm1 fun q cap2 w1 hch=>side_arg bc bn br bb bd sd _ _ c s2 hs2 m1 m2 _ x.k (cli 0) 6 1 _ q _ cap2 _ htl tick none (.inl h6) w1 (hch.heap g1 hm1) (hch.heap g2 hm2)
theorem rd_gone (hl:ns.length=16) (h6:(6:Int)=c.id) (ht:tick ≥ 100) (y:Int) (hy:ns[14]? = some y) (h0:0≤y) (h1:y < 2147483647) (he:Ext L (DrpL bd ns) Lr) (hc:(bc,.cells ⟨chC bn br bb bd sd⟩ 232 (0,0))∈Lr) (hb:(br,.cells ⟨ringC c s2 m1 m2⟩ 236 (0,0))∈Lr) (hin:∀ z∈x.L s,z∈Lr) :
    CallM Tryz.prog 44 [.pointer (some ⟨bc,0,none⟩),.slice (ovp x.ov) (x.xs s).length (ovc x.ov (x.xs s).length),.int .i64 tick,.pointer none] (DrpL bd ns) w fun v L=>v = .tuple #[.agg ⟨pkC 0 cl0 0 0 0 none 0 0 (zI 32)⟩,.int .i64 14]∧L=DrpL bd (ns.set 14 (y+1)):=by
  obtain ⟨hw3,_,hE,hN,htl,htb⟩:=hx.facts
  have hmem:∀ z∈Lr,z∈L:=fun z hz=>he.perm.subset (List.mem_append_right _ hz)
  have hp:=rdown hx.ov hw fun z hz=>hmem z (hin z hz)
  have hq:Off (ovp x.ov) [bd]:=ovoff hw he hin
  have hm1:bc ∉ [bd]:=RdSl.off hw he hc
  have hm2:br ∉ [bd]:=RdSl.off hw he hb
  have g1:=hw.get _ _ (hmem _ hc)
  have g2:=hw.get _ _ (hmem _ hb)
  have h5:(cli 0).id≠c.id:=by rw [← h6];decide
  exact read_bad bc bn br bb bd sd 232 (0,0) x.k hw3 (cli 0) 6 1 ((x.j:Int)+1) x.body (x.t s) htl htb hx.byt hE tick none ns hl 14 (by decide) y hy h0 h1 _ _ _ rfl w hp hq g1 hm1 fun q cap2 w1 hch=>side_gone bc bn br bb bd sd _ _ c s2 hs2 m1 m2 _ x.k (cli 0) 6 1 _ q _ cap2 _ htl tick none h6 h5 ht w1 (hch.heap g1 hm1) (hch.heap g2 hm2)
theorem rd_side (hsl:s.length=32) (hsb:Byt s) (h6:(6:Int)=c.id) (ht:¬ tick ≥ 100) (bm blk kb:Nat) (ovg:Ov) (hovg:OvOk 1 ovg (senderI s 6).length (u8s (senderI s 6))) (m:Nat) (hm:m < 256) (Li:Lst) (hLi:∀ b∈blks (B1 bb bm blk (cli 0) (stE m (some ⟨kb,0,none⟩) 0)),b∈blks Li) (he:Ext L Li Lr) (hc:(bc,.cells ⟨chC bn br bb bd sd⟩ 232 (0,0))∈Lr) (hb:(br,.cells ⟨ringC c s2 m1 m2⟩ 236 (0,0))∈Lr) (hk:∀ z∈KL kb ovg (senderI s 6),z∈Lr) :
    ∀ q cap2 w1,Chg (blks Li) w w1→RdSl w1 q u8V x.body→(x.body≠[]→Off q (blks (B1 bb bm blk (cli 0) (stE m (some ⟨kb,0,none⟩) 0))))→CallM Tryz.prog 188 [.pointer (some ⟨bc,0,none⟩),.agg ⟨pkC x.k (cli 0) 6 1 ((x.j:Int)+1) q x.body.length cap2 (x.t s)⟩,.int .i64 tick,.pointer none] (B1 bb bm blk (cli 0) (stE m (some ⟨kb,0,none⟩) 0)) w1 fun v L=>v = .int .i64 (lookW (stE m (some ⟨kb,0,none⟩) 0) 1 ((x.j:Int)+1))∧L=B1 bb bm blk (cli 0) (takeW (stE m (some ⟨kb,0,none⟩) 0) 1 ((x.j:Int)+1)):=by
  obtain ⟨hw3,htt,hE,hN,htl,htb⟩:=hx.facts
  have hj:=hx.j
  have hmem:∀ z∈Lr,z∈L:=fun z hz=>he.perm.subset (List.mem_append_right _ hz)
  have hm1:bc ∉ blks Li:=RdSl.off hw he hc
  have hm2:br ∉ blks Li:=RdSl.off hw he hb
  have g1:=hw.get _ _ (hmem _ hc)
  have g2:=hw.get _ _ (hmem _ hb)
  have hst:=KeyR.stay hovg hw he hk
  have h5:(cli 0).id≠c.id:=by rw [← h6];decide
  have hsnl:(senderI s 6).length=32:=by have:=chK_len s 7 6;rwa [show chK s 7 6=senderI s 6 from rfl] at this
  have hsnb:Byt (senderI s 6):=by have:=chK_byt s 7 6;rwa [show chK s 7 6=senderI s 6 from rfl] at this
  exact fun q cap2 w1 hch hrd hoff=>side_take bc bn br bb bd bm blk sd 232 (0,0) c s2 hs2 m1 m2 _ x.k (cli 0) 6 1 _ q _ cap2 (x.t s) x.body htl htb tick h6 h5 ht (by have:=hx.k7;omega) hE rfl hx.byt (senderI s 6) (by omega) hsnb htt _ kb rfl hN (st_bits hm) (by omega) w1 (fun w2 h2=>hst w2 (hch.trans (h2.mono hLi))) (fun h=>hm1 (hLi _ h)) (fun h=>hm2 (hLi _ h)) (hch.heap g1 hm1) (hch.heap g2 hm2) hrd hoff
theorem rd_take (hsl:s.length=32) (hsb:Byt s) (h6:(6:Int)=c.id) (ht:¬ tick ≥ 100) (bm blk kb:Nat) (ovg:Ov) (hovg:OvOk 1 ovg (senderI s 6).length (u8s (senderI s 6))) (m:Nat) (hm:m < 256) (hn:m.testBit x.j=false) (he:Ext L (B1 bb bm blk (cli 0) (stE m (some ⟨kb,0,none⟩) 0)) Lr) (hc:(bc,.cells ⟨chC bn br bb bd sd⟩ 232 (0,0))∈Lr) (hb:(br,.cells ⟨ringC c s2 m1 m2⟩ 236 (0,0))∈Lr) (hk:∀ z∈KL kb ovg (senderI s 6),z∈Lr) (hin:∀ z∈x.L s,z∈Lr) :
    CallM Tryz.prog 44 [.pointer (some ⟨bc,0,none⟩),.slice (ovp x.ov) (x.xs s).length (ovc x.ov (x.xs s).length),.int .i64 tick,.pointer none] (B1 bb bm blk (cli 0) (stE m (some ⟨kb,0,none⟩) 0)) w fun v L=>(∃ q cap2,v = .tuple #[.agg ⟨pkC x.k (cli 0) 6 1 ((x.j:Int)+1) q x.body.length cap2 (x.t s)⟩,.int .i64 0])∧L=B1 bb bm blk (cli 0) (stE (m ||| 2 ^ x.j) (some ⟨kb,0,none⟩) 0):=by
  have hsd:=rd_side hx bc bn br bb bd sd c s2 hs2 m1 m2 tick hw hsl hsb h6 ht bm blk kb ovg hovg m hm _ (fun b h=>h) he hc hb hk
  obtain ⟨h8,h9⟩:=st_take hm hx.j hn (some ⟨kb,0,none⟩) 0
  rw [h8,h9] at hsd
  obtain ⟨hw3,htt,hE,hN,htl,htb⟩:=hx.facts
  have hmem:∀ z∈Lr,z∈L:=fun z hz=>he.perm.subset (List.mem_append_right _ hz)
  exact read_ok bc bn br bb bd sd 232 (0,0) x.k hw3 (cli 0) 6 1 ((x.j:Int)+1) x.body (x.t s) htl htb hx.byt hE tick none _ _ _ rfl _ _ w (rdown hx.ov hw fun z hz=>hmem z (hin z hz)) (ovoff hw he hin) (hw.get _ _ (hmem _ hc)) (RdSl.off hw he hc) hsd
theorem rd_twice (hl:ns.length=16) (hsl:s.length=32) (hsb:Byt s) (h6:(6:Int)=c.id) (ht:¬ tick ≥ 100) (y:Int) (hy:ns[8]? = some y) (h0:0≤y) (h1:y < 2147483647) (bm blk kb:Nat) (ovg:Ov) (hovg:OvOk 1 ovg (senderI s 6).length (u8s (senderI s 6))) (m:Nat) (hm:m < 256) (hn:m.testBit x.j=true) (he:Ext L (DrpL bd ns++B1 bb bm blk (cli 0) (stE m (some ⟨kb,0,none⟩) 0)) Lr) (hc:(bc,.cells ⟨chC bn br bb bd sd⟩ 232 (0,0))∈Lr) (hb:(br,.cells ⟨ringC c s2 m1 m2⟩ 236 (0,0))∈Lr) (hk:∀ z∈KL kb ovg (senderI s 6),z∈Lr) (hin:∀ z∈x.L s,z∈Lr) :
    CallM Tryz.prog 44 [.pointer (some ⟨bc,0,none⟩),.slice (ovp x.ov) (x.xs s).length (ovc x.ov (x.xs s).length),.int .i64 tick,.pointer none] (DrpL bd ns++B1 bb bm blk (cli 0) (stE m (some ⟨kb,0,none⟩) 0)) w fun v L=>v = .tuple #[.agg ⟨pkC 0 cl0 0 0 0 none 0 0 (zI 32)⟩,.int .i64 8]∧L=DrpL bd (ns.set 8 (y+1))++B1 bb bm blk (cli 0) (stE m (some ⟨kb,0,none⟩) 0):=by
  have hsd:=rd_side hx bc bn br bb bd sd c s2 hs2 m1 m2 tick hw hsl hsb h6 ht bm blk kb ovg hovg m hm _ (fun b h=>by rw [show blks (DrpL bd ns++B1 bb bm blk (cli 0) (stE m (some ⟨kb,0,none⟩) 0))=blks (DrpL bd ns)++blks (B1 bb bm blk (cli 0) (stE m (some ⟨kb,0,none⟩) 0)) from List.map_append];exact List.mem_append_right _ h) he hc hb hk
  obtain ⟨h8,h9⟩:=st_twice hm hx.j hn (some ⟨kb,0,none⟩) 0
  rw [h8,h9] at hsd
  obtain ⟨hw3,htt,hE,hN,htl,htb⟩:=hx.facts
  have hmem:∀ z∈Lr,z∈L:=fun z hz=>he.perm.subset (List.mem_append_right _ hz)
  exact read_twice bc bn br bb bd sd 232 (0,0) x.k hw3 (cli 0) 6 1 ((x.j:Int)+1) x.body (x.t s) htl htb hx.byt hE tick none ns hl 8 (by decide) y hy h0 h1 _ _ _ rfl _ _ w (rdown hx.ov hw fun z hz=>hmem z (hin z hz)) (ovoff hw he hin) (hw.get _ _ (hmem _ hc)) (RdSl.off hw he hc) hsd
end
def sRm:Code→Code | .seq _ b=>b|c=>c
def bodyM (f:Func):Code:=match f.body with|some c=>c|none=>.skip
theorem blkL_sM (e b j:Nat) (junk xs:List Value):blkL e (some (b,j,junk)) xs=[(b,.cells ⟨xs++junk⟩ e (0,0))]:=rfl
theorem blkL_nM (e:Nat) (xs:List Value):blkL e none xs=[]:=rfl
theorem msk_or {m j t:Nat} (h:m.testBit t=false) (hne:j≠t):(m ||| 2 ^ j).testBit t=false:=by
  rw [Nat.testBit_or,h,Nat.testBit_two_pow,Bool.false_or,decide_eq_false hne]
theorem msk_on {m j:Nat}:(m ||| 2 ^ j).testBit j=true:=by
  rw [Nat.testBit_or,Nat.testBit_two_pow,decide_eq_true rfl,Bool.or_true]
theorem nd_ne {l:List PkR} (h:(l.map PkR.j).Nodup) {a b:Nat} {x y:PkR} (hx:l[a]? = some x) (hy:l[b]? = some y) (hab:a≠b):x.j≠y.j:=fun e=>by
  obtain ⟨ha,rfl⟩:=List.getElem?_eq_some_iff.1 hx
  obtain ⟨hb,rfl⟩:=List.getElem?_eq_some_iff.1 hy
  refine hab ((List.getElem_inj h (h₀:=by rw [List.length_map];exact ha) (h₁:=by rw [List.length_map];exact hb)).1 ?_)
  rw [List.getElem_map,List.getElem_map]
  exact e
def dr1 (a b:Int):List Int:=[0,0,0,0,0,0,0,0,a,0,0,0,0,0,b,0]
def dr0 (a:Int):List Int:=[0,a,0,0,0,0,0,0,0,0,0,0,0,0,0,0]
section
variable {X:Cx} {σ:Env} {L:Lst} {ty t ty2:TypeId} {pos:String} {af:Array Edge} {x y:Operand} {d:Option Nat} {g:Option (Nat × Bool)} {k:IntKind} {i j:Int}
theorem Ok1.remM {c:Nat} (hx:ev σ x=some (.int k i)) (hy:ev σ y=some (.int k j)) (h0:0≤i) (h1:0 < j) (hc:i % j=c):Ok1 X ⟨d,.binOp .rem t x y ty2,ty,pos,af,g⟩ σ L (.int k c):=by
  rw [← hc];exact Ok1.remN hx hy h0 h1
end
section
variable (w:World)
variable (b8 b14 bc0 bc1 bc2 bn0 bn1 bn2 br0 br1 br2 bb0 bb1 bb2 bd0 bd1 bd2:Nat) (sd0 sd1 sd2:List Value) (p0 q0 p1 q1 p2 q2 bm1 blk kb:Nat) (ovg:Ov) (s s1 s2:List Int)
theorem meets_read (hsl:s.length=32) (hsb:Byt s) (hs1:s1.length=32) (hs2:s2.length=32) (hovg:OvOk 1 ovg (senderI s 6).length (u8s (senderI s 6))) (n:Nat) (hn8:n≤8) (ova:Ov) (l:List PkR) (hll:l.length=n) (hov2:OvOk 1 ova n (fl (PkR.v s) l)) (hok2:∀ x∈l,x.ok s) (hnd2:(l.map PkR.j).Nodup) (PL:Lst) (hPm:∀ x∈l,∀ z∈x.L s,z∈PL) :
    T ⟨Tryz.prog,tb,295,w,[]⟩ (sRm (sRm (sRm (sRm (sRm (sRm (sRm (sRm (sRm (bodyM Tryz.f6)))))))))) (retQ ⟨Tryz.prog,tb,295,w,[]⟩ Tryz.f6.results.toList fun x _=>x = .bool true)
      [(8,.pointer (some ⟨b8,0,none⟩)),(14,.pointer (some ⟨b14,0,none⟩)),(18,slV ova n)] ((b8,.cells ⟨[.pointer (some ⟨bc0,0,none⟩),.pointer (some ⟨bc1,0,none⟩),.pointer (some ⟨bc2,0,none⟩)]⟩ 95 (0,0))::(b14,.cells ⟨[.int .i64 5,.int .i64 0,.int .i64 100,.int .i64 1]⟩ 97 (0,0))::(bc0,.cells ⟨chC bn0 br0 bb0 bd0 sd0⟩ 232 (0,0))::(bc1,.cells ⟨chC bn1 br1 bb1 bd1 sd1⟩ 232 (0,0))::(bc2,.cells ⟨chC bn2 br2 bb2 bd2 sd2⟩ 232 (0,0))::(br0,.cells ⟨ringC (cli 0) s p0 q0⟩ 236 (0,0))::(br1,.cells ⟨ringC (cli 1) s1 p1 q1⟩ 236 (0,0))::(br2,.cells ⟨ringC (cli 2) s2 p2 q2⟩ 236 (0,0))::(DrpL bd0 (dr0 0)++(DrpL bd1 (dr1 0 0)++(DrpL bd2 (dr0 0)++(B1 bb1 bm1 blk (cli 0) (stE 0 (some ⟨kb,0,none⟩) 0)++(KL kb ovg (senderI s 6)++(blkL 22 ova (fl (PkR.v s) l)++PL))))))):=by
  have hkn:=known16_ok
  obtain ⟨KG,hKG,hKm⟩:∃ KG,KL kb ovg (senderI s 6)=KG∧∀ z∈KL kb ovg (senderI s 6),z∈KG:=⟨_,rfl,fun z h=>h⟩
  rw [hKG]
  repeat' (first|(apply R.is1;(apply R.pure;exact rfl;(apply Ok1.assign;exact rfl)))|apply R.nil|(apply T.is;first|apply T.seq|apply T.region|apply T.block))
  apply T.loopK (α:=Nat × Nat) (I:=fun y=>y.1≤n∧y.2 < 256∧∀ t x,y.1≤t→l[t]? = some x→y.2.testBit x.j=false) (σi:=fun y=>[(8,.pointer (some ⟨b8,0,none⟩)),(14,.pointer (some ⟨b14,0,none⟩)),(18,slV ova n),(25,.int .i64 y.1)]) (Li:=fun y=>(b8,.cells ⟨[.pointer (some ⟨bc0,0,none⟩),.pointer (some ⟨bc1,0,none⟩),.pointer (some ⟨bc2,0,none⟩)]⟩ 95 (0,0))::(b14,.cells ⟨[.int .i64 5,.int .i64 0,.int .i64 100,.int .i64 1]⟩ 97 (0,0))::(bc0,.cells ⟨chC bn0 br0 bb0 bd0 sd0⟩ 232 (0,0))::(bc1,.cells ⟨chC bn1 br1 bb1 bd1 sd1⟩ 232 (0,0))::(bc2,.cells ⟨chC bn2 br2 bb2 bd2 sd2⟩ 232 (0,0))::(br0,.cells ⟨ringC (cli 0) s p0 q0⟩ 236 (0,0))::(br1,.cells ⟨ringC (cli 1) s1 p1 q1⟩ 236 (0,0))::(br2,.cells ⟨ringC (cli 2) s2 p2 q2⟩ 236 (0,0))::(DrpL bd0 (dr0 y.1)++(DrpL bd1 (dr1 y.1 y.1)++(DrpL bd2 (dr0 y.1)++(B1 bb1 bm1 blk (cli 0) (stE y.2 (some ⟨kb,0,none⟩) 0)++(KG++(blkL 22 ova (fl (PkR.v s) l)++PL))))))) (μ:=fun y=>n - y.1) (i0:=(0,0))
  · exact ⟨Nat.zero_le _,by decide,fun t x _ _=>Nat.zero_testBit _⟩
  · exact ⟨rfl,rfl,rfl,rfl,trivial⟩
  · generalize DrpL bd0 (dr0 0)=D0
    generalize DrpL bd1 (dr1 0 0)=D1
    generalize DrpL bd2 (dr0 0)=D2
    generalize B1 bb1 bm1 blk (cli 0) (stE 0 (some ⟨kb,0,none⟩) 0)=BE
    (focus (repeat' first|exact Ext.one _ _|exact Ext.here _ _|exact Ext.all _|apply Keep.cons|apply Keep.app|apply Keep.last);done)
  rintro ⟨i,m⟩ ⟨hi,hm,hmk⟩
  simp only at hi hm hmk ⊢
  by_cases hlt:i < n
  case neg =>
    have hin:i=n:=by omega
    subst hin
    have hd1:=fun w1 h=>chdrops_ok bc1 bn1 br1 bb1 bd1 sd1 232 (0,0) w1 h
    have hd2:=fun w1 h=>chdrops_ok bc2 bn2 br2 bb2 bd2 sd2 232 (0,0) w1 h
    have ho1:=fun w1 h=>dof_ok bd1 (dr1 i i) rfl 8 (by decide) i rfl w1 h
    have ho2:=fun w1 h=>dof_ok bd2 (dr0 i) rfl 1 (by decide) i rfl w1 h
    simp only [DrpL,List.cons_append,List.nil_append]
    generalize drpC (dr1 i i)=P1 at *
    generalize drpC (dr0 i)=P2 at *
    generalize B1 bb1 bm1 blk (cli 0) (stE m (some ⟨kb,0,none⟩) 0)=BE
    generalize blkL 22 ova (fl (PkR.v s) l)=BA
    repeat' (first|(apply R.is1;first|(apply R.isBin;(apply R.pure;exact rfl;first|(apply Ok1.lss_f;exact rfl;exact rfl;omega)|(apply Ok1.eql_t;exact rfl;exact rfl;omega)))|(apply R.isCall;first|apply R.callP rfl rfl rfl hkn|(apply R.callV (vs:=[.pointer (some ⟨bc1,0,none⟩)]);(iterate 3 exact rfl);intro w1 hw1;exact hd1 w1 (hw1.get _ _ (At.mem (by (focus (repeat' first|exact At.head|apply At.tail);done)))))|(apply R.callV (vs:=[.pointer (some ⟨bc2,0,none⟩)]);(iterate 3 exact rfl);intro w1 hw1;exact hd2 w1 (hw1.get _ _ (At.mem (by (focus (repeat' first|exact At.head|apply At.tail);done)))))|(apply R.callV (vs:=[.pointer (some ⟨bd1,0,none⟩),.int .i64 8]);(iterate 3 exact rfl);intro w1 hw1;exact ho1 w1 (hw1.get _ _ (At.mem (by (focus (repeat' first|exact At.head|apply At.tail);done)))))|(apply R.callV (vs:=[.pointer (some ⟨bd2,0,none⟩),.int .i64 1]);(iterate 3 exact rfl);intro w1 hw1;exact ho2 w1 (hw1.get _ _ (At.mem (by (focus (repeat' first|exact At.head|apply At.tail);done))))))|(apply R.pure;exact rfl;first|(apply Ok1.lenOv;(iterate 3 exact rfl);exact hov2)|(apply Ok1.indexAddrA;(iterate 5 exact rfl);omega;omega)|(apply Ok1.load;exact rfl;(apply Ld.own1;exact rfl;exact rfl;exact At.head;exact rfl))|(apply Ok1.move;exact rfl)|(apply Ok1.assign;exact rfl)|(apply Ok1.pick_t;exact rfl;exact rfl)))|(apply R.isG;(apply R.guard_run;exact rfl;exact rfl))|apply R.nil|(apply T.is;first|apply T.seq|apply T.region|apply T.exit|apply T.ret|(apply T.cond_f;exact rfl)))
    all_goals skip
    all_goals (apply RetOk.t;exact rfl)
    all_goals rfl
  obtain ⟨x,hx⟩:∃ x,l[i]? = some x:=⟨_,List.getElem?_eq_getElem (by omega)⟩
  have hxm:=List.mem_of_getElem? hx
  have hxo:=hok2 x hxm
  have hPx:=hPm x hxm
  have hf:=hmk i x (Nat.le_refl _) hx
  have hm2:=st_lt hm hxo.j
  have hon:=msk_on (m:=m) (j:=x.j)
  have hnx:∀ t y,i+1≤t→l[t]? = some y→(m ||| 2 ^ x.j).testBit y.j=false:=fun t y ht hy=>msk_or (hmk t y (by omega) hy) (nd_ne hnd2 hx hy (by omega))
  have c1:=fun w1 L Lr S (hw:Hp w S L w1) he hc hb hk hin=>rd_take hxo bc1 bn1 br1 bb1 bd1 sd1 (cli 1) s1 hs1 p1 q1 99 hw hsl hsb rfl (by decide) bm1 blk kb ovg hovg m hm hf (Lr:=Lr) he hc hb hk hin
  have c2:=fun w1 L Lr S (hw:Hp w S L w1) he hc hb hk hin=>rd_twice hxo bc1 bn1 br1 bb1 bd1 sd1 (cli 1) s1 hs1 p1 q1 99 (dr1 i i) hw rfl hsl hsb rfl (by decide) i rfl (by omega) (by omega) bm1 blk kb ovg hovg _ hm2 hon (Lr:=Lr) he hc hb hk hin
  have c3:=fun w1 L Lr S (hw:Hp w S L w1) he hc hb hin=>rd_arg hxo bc2 bn2 br2 bb2 bd2 sd2 (cli 2) s2 hs2 p2 q2 99 (dr0 i) hw rfl (by decide) i rfl (by omega) (by omega) (Lr:=Lr) he hc hb hin
  have c4:=fun w1 L Lr S (hw:Hp w S L w1) he hc hb hin=>rd_arg hxo bc0 bn0 br0 bb0 bd0 sd0 (cli 0) s hsl p0 q0 99 (dr0 i) hw rfl (by decide) i rfl (by omega) (by omega) (Lr:=Lr) he hc hb hin
  have c5:=fun w1 L Lr S (hw:Hp w S L w1) he hc hb hin=>rd_gone hxo bc1 bn1 br1 bb1 bd1 sd1 (cli 1) s1 hs1 p1 q1 100 (dr1 (i+1) i) hw rfl rfl (by decide) i rfl (by omega) (by omega) (Lr:=Lr) he hc hb hin
  have e2:(dr1 i i).set 8 ((i:Int)+1)=dr1 (i+1) i:=rfl
  have e3:(dr0 i).set 1 ((i:Int)+1)=dr0 (i+1):=rfl
  have e5:(dr1 ((i:Int)+1) i).set 14 ((i:Int)+1)=dr1 (i+1) (i+1):=rfl
  rw [e2] at c2
  rw [e3] at c3 c4
  rw [e5] at c5
  have hpl:=fun q cap2=>pk_len x.k (cli 0) 6 1 ((x.j:Int)+1) q x.body.length cap2 hxo.facts.tl
  have hp1:=fun q cap2=>pk_one x.k (cli 0) 6 1 ((x.j:Int)+1) q x.body.length cap2 (x.t s)
  have hz9:(pkC 0 cl0 0 0 0 none 0 0 (zI 32)).length=41:=rfl
  have hz1:(pkC 0 cl0 0 0 0 none 0 0 (zI 32)).all Value.oneCell'=true:=rfl
  have hpk:∀ q cap2,pkC x.k (cli 0) 6 1 ((x.j:Int)+1) q x.body.length cap2 (x.t s)=[.int .i64 x.k,.int .i64 5,.int .i64 0,.int .i64 100,.int .i64 1,.int .i64 6,.int .i64 1,.int .i64 ((x.j:Int)+1),.slice q x.body.length cap2]++u8s (x.t s):=fun q cap2=>rfl
  obtain ⟨bq,jq,kq,rfl⟩:∃ bq jq kq,ova=some (bq,jq,kq):=by cases ova with|none=>exact absurd hov2.2 (by omega)|some q=>exact ⟨_,_,_,rfl⟩
  generalize B1 bb1 bm1 blk (cli 0) (stE m (some ⟨kb,0,none⟩) 0)=BE at *
  generalize hB2:B1 bb1 bm1 blk (cli 0) (stE (m ||| 2 ^ x.j) (some ⟨kb,0,none⟩) 0)=BE2 at *
  generalize DrpL bd0 (dr0 i)=X0 at *
  generalize DrpL bd1 (dr1 i i)=X1 at *
  generalize DrpL bd2 (dr0 i)=X2 at *
  generalize hY0:DrpL bd0 (dr0 ((i:Int)+1))=Y0 at *
  generalize hZ1:DrpL bd1 (dr1 ((i:Int)+1) i)=Z1 at *
  generalize hY1:DrpL bd1 (dr1 ((i:Int)+1) ((i:Int)+1))=Y1 at *
  generalize hY2:DrpL bd2 (dr0 ((i:Int)+1))=Y2 at *
  simp only [slV,blkL_sM,List.cons_append,List.nil_append]
  refine T.weakK (σ':=[(8,.pointer (some ⟨b8,0,none⟩)),(14,.pointer (some ⟨b14,0,none⟩)),(18,.slice (some ⟨bq,0,none⟩) n (n+jq)),(25,.int .i64 i)]) (L':=(bq,.cells ⟨fl (PkR.v s) l++kq⟩ 22 (0,0))::(b8,.cells ⟨[.pointer (some ⟨bc0,0,none⟩),.pointer (some ⟨bc1,0,none⟩),.pointer (some ⟨bc2,0,none⟩)]⟩ 95 (0,0))::(b14,.cells ⟨[.int .i64 5,.int .i64 0,.int .i64 100,.int .i64 1]⟩ 97 (0,0))::(bc0,.cells ⟨chC bn0 br0 bb0 bd0 sd0⟩ 232 (0,0))::(bc1,.cells ⟨chC bn1 br1 bb1 bd1 sd1⟩ 232 (0,0))::(bc2,.cells ⟨chC bn2 br2 bb2 bd2 sd2⟩ 232 (0,0))::(br0,.cells ⟨ringC (cli 0) s p0 q0⟩ 236 (0,0))::(br1,.cells ⟨ringC (cli 1) s1 p1 q1⟩ 236 (0,0))::(br2,.cells ⟨ringC (cli 2) s2 p2 q2⟩ 236 (0,0))::(X0++(X1++(X2++(BE++(KG++PL)))))) ?_ (by (focus (repeat' first|exact Ext.one _ _|exact Ext.here _ _|exact Ext.all _|apply Keep.cons|apply Keep.app|apply Keep.last|apply Ext.cons|apply Ext.app);done)) ⟨rfl,rfl,rfl,rfl,trivial⟩
  repeat' (first|(apply R.is1;first|(apply R.isBin;(apply R.pure;exact rfl;(apply Ok1.lss_t;exact rfl;exact rfl;omega)))|(apply R.isCall;(apply R.pure;exact rfl;(apply Ok1.lenS;(iterate 3 exact rfl))))|(apply R.pure;exact rfl;(apply Ok1.move;exact rfl)))|apply R.nil|(apply T.is;first|(apply T.stop1 34)|apply T.seq|apply T.region|apply T.block|apply T.skip|(apply T.cond_t;exact rfl)))
  refine ⟨?_⟩
  refine T.meetK (α:=Nat × Option Addr × Nat) (I:=fun _=>True) (σi:=fun y=>[(8,.pointer (some ⟨b8,0,none⟩)),(14,.pointer (some ⟨b14,0,none⟩)),(18,.slice (some ⟨bq,0,none⟩) n (n+jq)),(25,.int .i64 i),(26,.pointer (some ⟨y.1,0,none⟩)),(27,.int .i64 0)]) (Li:=fun y=>(bq,.cells ⟨fl (PkR.v s) l++kq⟩ 22 (0,0))::(b8,.cells ⟨[.pointer (some ⟨bc0,0,none⟩),.pointer (some ⟨bc1,0,none⟩),.pointer (some ⟨bc2,0,none⟩)]⟩ 95 (0,0))::(b14,.cells ⟨[.int .i64 5,.int .i64 0,.int .i64 100,.int .i64 1]⟩ 97 (0,0))::(bc0,.cells ⟨chC bn0 br0 bb0 bd0 sd0⟩ 232 (0,0))::(bc1,.cells ⟨chC bn1 br1 bb1 bd1 sd1⟩ 232 (0,0))::(bc2,.cells ⟨chC bn2 br2 bb2 bd2 sd2⟩ 232 (0,0))::(br0,.cells ⟨ringC (cli 0) s p0 q0⟩ 236 (0,0))::(br1,.cells ⟨ringC (cli 1) s1 p1 q1⟩ 236 (0,0))::(br2,.cells ⟨ringC (cli 2) s2 p2 q2⟩ 236 (0,0))::(y.1,.cells ⟨pkC x.k (cli 0) 6 1 ((x.j:Int)+1) y.2.1 x.body.length y.2.2 (x.t s)⟩ 120 (0,0))::((X1++BE2)++(X0++(X2++(KG++PL))))) ?_ ?_
  · repeat' ((apply T.is;(apply T.drawC (id:=34) [0,1] (by decide);((apply A.tk 0;exact rfl;kernel_rfl;(apply Ok1.indexAddrA;(iterate 5 exact rfl);omega;omega))<;>(apply A.tk 1;exact rfl;kernel_rfl;(apply Ok1.load;exact rfl;(apply Ld.own1;exact rfl;exact rfl;(focus (repeat' first|exact At.head|apply At.tail);done);exact rfl)))<;>(apply A.tk 2;exact rfl;kernel_rfl;(apply Ok1.move;exact rfl))<;>(apply A.tk 3;exact rfl;kernel_rfl;(apply Ok1.move;exact rfl))<;>(apply A.tk 4;exact rfl;kernel_rfl;(apply Ok1.indexAddr;(iterate 5 exact rfl);omega;omega))<;>(apply A.tk 5;exact rfl;kernel_rfl;(apply Ok1.load;exact rfl;(apply Ld.ownrow1 (f:=0);exact At.head;exact PkR.v_len s;exact hx;(focus ((simp;done)));(iterate 3 exact rfl))))<;>(apply A.two 6 10;kernel_rfl;exact rfl;exact rfl;rotate_left 1;(focus (((((apply R.alloc;(iterate 3 exact rfl);intro)));apply R.nil;refine ⟨?_,?_⟩;(focus (repeat' first|exact trivial|exact At.head|apply At.tail|refine ⟨?_,?_⟩)))<;>(apply A.one 6;kernel_rfl;exact rfl;(((apply R.callE (Li:=BE) (vs:=[.pointer (some ⟨bc1,0,none⟩),.slice (ovp x.ov) (x.xs s).length (ovc x.ov (x.xs s).length),.int .i64 99,.pointer none]);(iterate 3 exact rfl);(focus (repeat' first|exact Ext.here _ _|apply Ext.cons|apply Ext.app);done);intro w1 hw1;exact c1 w1 _ _ _ hw1 (by (focus (repeat' first|exact Ext.here _ _|apply Ext.cons|apply Ext.app);done)) (At.mem (by (focus (repeat' first|exact At.head|apply At.tail);done))) (At.mem (by (focus (repeat' first|exact At.head|apply At.tail);done))) (fun z hz=>Ext.mem (by (focus (repeat' first|exact Ext.here _ _|apply Ext.cons|apply Ext.app);done)) z (hKm z hz)) (fun z hz=>Ext.mem (by (focus (repeat' first|exact Ext.all _|apply Ext.cons|apply Ext.app);done)) z (hPx z hz));rintro v Lo ⟨⟨q,cap2,rfl⟩,hq9⟩;rw [hq9];clear hq9)));apply R.nil;refine ⟨?_,?_⟩;(focus (repeat' first|exact trivial|exact At.head|apply At.tail|apply At.right|refine ⟨?_,?_⟩)))<;>(apply A.tk 7;exact rfl;kernel_rfl;(apply Ok1.move;exact rfl))<;>(apply A.tk 8;exact rfl;kernel_rfl;(apply Ok1.extract;exact rfl;exact rfl))<;>(apply A.tk 9;exact rfl;kernel_rfl;(apply Ok1.extract;exact rfl;exact rfl))<;>(apply A.one 11;kernel_rfl;exact rfl;(((apply R.store;(iterate 4 exact rfl);exact (hpl _ _);exact (hp1 _ _);(focus (repeat' first|exact Upd.head|apply Upd.right);done);exact setE_all (hpl _ _))));apply R.nil;refine ⟨?_,?_⟩;(focus (repeat' first|exact trivial|exact At.head|apply At.tail|apply At.right|refine ⟨?_,?_⟩)))<;>(apply A.tk 12;exact rfl;kernel_rfl;(apply Ok1.assign;exact rfl))<;>(apply A.done;kernel_rfl)));rotate_right 1;(focus (((((apply R.callE (Li:=BE) (vs:=[.pointer (some ⟨bc1,0,none⟩),.slice (ovp x.ov) (x.xs s).length (ovc x.ov (x.xs s).length),.int .i64 99,.pointer none]);(iterate 3 exact rfl);(focus (repeat' first|exact Ext.here _ _|apply Ext.cons|apply Ext.app);done);intro w1 hw1;exact c1 w1 _ _ _ hw1 (by (focus (repeat' first|exact Ext.here _ _|apply Ext.cons|apply Ext.app);done)) (At.mem (by (focus (repeat' first|exact At.head|apply At.tail);done))) (At.mem (by (focus (repeat' first|exact At.head|apply At.tail);done))) (fun z hz=>Ext.mem (by (focus (repeat' first|exact Ext.here _ _|apply Ext.cons|apply Ext.app);done)) z (hKm z hz)) (fun z hz=>Ext.mem (by (focus (repeat' first|exact Ext.all _|apply Ext.cons|apply Ext.app);done)) z (hPx z hz));rintro v Lo ⟨⟨q,cap2,rfl⟩,hq9⟩;rw [hq9];clear hq9)));apply R.nil;refine ⟨?_,?_⟩;(focus (repeat' first|exact trivial|exact At.head|apply At.tail|apply At.right|refine ⟨?_,?_⟩)))<;>(apply A.tk 7;exact rfl;kernel_rfl;(apply Ok1.move;exact rfl))<;>(apply A.tk 8;exact rfl;kernel_rfl;(apply Ok1.extract;exact rfl;exact rfl))<;>(apply A.tk 9;exact rfl;kernel_rfl;(apply Ok1.extract;exact rfl;exact rfl))<;>(apply A.one 10;kernel_rfl;exact rfl;(((apply R.alloc;(iterate 3 exact rfl);intro)));apply R.nil;refine ⟨?_,?_⟩;(focus (repeat' first|exact trivial|exact At.head|apply At.tail|apply At.right|refine ⟨?_,?_⟩)))<;>(apply A.one 11;kernel_rfl;exact rfl;(((apply R.store;(iterate 4 exact rfl);exact (hpl _ _);exact (hp1 _ _);exact Upd.head;exact setE_all (hpl _ _))));apply R.nil;refine ⟨?_,?_⟩;(focus (repeat' first|exact trivial|exact At.head|apply At.tail|apply At.right|refine ⟨?_,?_⟩)))<;>(apply A.tk 12;exact rfl;kernel_rfl;(apply Ok1.assign;exact rfl))<;>(apply A.done;kernel_rfl))))))))
    all_goals exact ⟨(_,q,cap2),trivial,⟨rfl,rfl,rfl,rfl,rfl,rfl,trivial⟩,by simp only [List.append_assoc];(focus (repeat' first|exact Ext.one _ _|exact Ext.here _ _|exact Ext.all _|apply Keep.cons|apply Keep.app|apply Keep.last|apply Ext.cons|apply Ext.app);done)⟩
  rintro ⟨bp,q,cap2⟩ _
  simp only
  rw [hpk]
  generalize hPB:(Obj.cells ⟨[.int .i64 x.k,.int .i64 5,.int .i64 0,.int .i64 100,.int .i64 1,.int .i64 6,.int .i64 1,.int .i64 ((x.j:Int)+1),.slice q x.body.length cap2]++u8s (x.t s)⟩ 120 (0,0))=PB
  refine T.meetK (α:=Unit) (I:=fun _=>True) (σi:=fun y=>[(8,.pointer (some ⟨b8,0,none⟩)),(14,.pointer (some ⟨b14,0,none⟩)),(18,.slice (some ⟨bq,0,none⟩) n (n+jq)),(25,.int .i64 i),(26,.pointer (some ⟨bp,0,none⟩)),(27,.int .i64 0),(29,.int .i64 8)]) (Li:=fun y=>(bq,.cells ⟨fl (PkR.v s) l++kq⟩ 22 (0,0))::(b8,.cells ⟨[.pointer (some ⟨bc0,0,none⟩),.pointer (some ⟨bc1,0,none⟩),.pointer (some ⟨bc2,0,none⟩)]⟩ 95 (0,0))::(b14,.cells ⟨[.int .i64 5,.int .i64 0,.int .i64 100,.int .i64 1]⟩ 97 (0,0))::(bc0,.cells ⟨chC bn0 br0 bb0 bd0 sd0⟩ 232 (0,0))::(bc1,.cells ⟨chC bn1 br1 bb1 bd1 sd1⟩ 232 (0,0))::(bc2,.cells ⟨chC bn2 br2 bb2 bd2 sd2⟩ 232 (0,0))::(br0,.cells ⟨ringC (cli 0) s p0 q0⟩ 236 (0,0))::(br1,.cells ⟨ringC (cli 1) s1 p1 q1⟩ 236 (0,0))::(br2,.cells ⟨ringC (cli 2) s2 p2 q2⟩ 236 (0,0))::(bp,PB)::(X0++(Z1++(X2++(BE2++(KG++PL)))))) ?_ ?_
  · repeat' ((apply T.is;(apply T.drawC (id:=35) [0,1] (by decide);((apply A.tk 0;exact rfl;kernel_rfl;(apply Ok1.indexAddrA;(iterate 5 exact rfl);omega;omega))<;>(apply A.tk 1;exact rfl;kernel_rfl;(apply Ok1.load;exact rfl;(apply Ld.own1;exact rfl;exact rfl;(focus (repeat' first|exact At.head|apply At.tail);done);exact rfl)))<;>(apply A.tk 2;exact rfl;kernel_rfl;(apply Ok1.move;exact rfl))<;>(apply A.tk 3;exact rfl;kernel_rfl;(apply Ok1.move;exact rfl))<;>(apply A.tk 4;exact rfl;kernel_rfl;(apply Ok1.indexAddr;(iterate 5 exact rfl);omega;omega))<;>(apply A.tk 5;exact rfl;kernel_rfl;(apply Ok1.load;exact rfl;(apply Ld.ownrow1 (f:=0);exact At.head;exact PkR.v_len s;exact hx;(focus ((simp;done)));(iterate 3 exact rfl))))<;>(apply A.two 6 10;kernel_rfl;exact rfl;exact rfl;rotate_left 1;(focus (((((apply R.alloc;(iterate 3 exact rfl);intro)));apply R.nil;refine ⟨?_,?_⟩;(focus (repeat' first|exact trivial|exact At.head|apply At.tail|refine ⟨?_,?_⟩)))<;>(apply A.one 6;kernel_rfl;exact rfl;(((apply R.callE (Li:=(X1++BE2)) (vs:=[.pointer (some ⟨bc1,0,none⟩),.slice (ovp x.ov) (x.xs s).length (ovc x.ov (x.xs s).length),.int .i64 99,.pointer none]);(iterate 3 exact rfl);(focus (repeat' first|exact Ext.here _ _|apply Ext.cons);done);intro w1 hw1;exact c2 w1 _ _ _ hw1 (by (focus (repeat' first|exact Ext.here _ _|apply Ext.cons);done)) (At.mem (by (focus (repeat' first|exact At.head|apply At.tail);done))) (At.mem (by (focus (repeat' first|exact At.head|apply At.tail);done))) (fun z hz=>Ext.mem (by (focus (repeat' first|exact Ext.here _ _|apply Ext.cons|apply Ext.app);done)) z (hKm z hz)) (fun z hz=>Ext.mem (by (focus (repeat' first|exact Ext.all _|apply Ext.cons|apply Ext.app);done)) z (hPx z hz));rintro v Lo ⟨rfl,hq9⟩;rw [hq9];clear hq9)));apply R.nil;refine ⟨?_,?_⟩;(focus (repeat' first|exact trivial|exact At.head|apply At.tail|apply At.right|refine ⟨?_,?_⟩)))<;>(apply A.tk 7;exact rfl;kernel_rfl;(apply Ok1.move;exact rfl))<;>(apply A.tk 8;exact rfl;kernel_rfl;(apply Ok1.extract;exact rfl;exact rfl))<;>(apply A.tk 9;exact rfl;kernel_rfl;(apply Ok1.extract;exact rfl;exact rfl))<;>(apply A.one 11;kernel_rfl;exact rfl;(((apply R.store;(iterate 4 exact rfl);exact hz9;exact hz1;(focus (repeat' first|exact Upd.head|apply Upd.right);done);exact setE_all hz9)));apply R.nil;refine ⟨?_,?_⟩;(focus (repeat' first|exact trivial|exact At.head|apply At.tail|apply At.right|refine ⟨?_,?_⟩)))<;>(apply A.tk 12;exact rfl;kernel_rfl;(apply Ok1.assign;exact rfl))<;>(apply A.done;kernel_rfl)));rotate_right 1;(focus (((((apply R.callE (Li:=(X1++BE2)) (vs:=[.pointer (some ⟨bc1,0,none⟩),.slice (ovp x.ov) (x.xs s).length (ovc x.ov (x.xs s).length),.int .i64 99,.pointer none]);(iterate 3 exact rfl);(focus (repeat' first|exact Ext.here _ _|apply Ext.cons);done);intro w1 hw1;exact c2 w1 _ _ _ hw1 (by (focus (repeat' first|exact Ext.here _ _|apply Ext.cons);done)) (At.mem (by (focus (repeat' first|exact At.head|apply At.tail);done))) (At.mem (by (focus (repeat' first|exact At.head|apply At.tail);done))) (fun z hz=>Ext.mem (by (focus (repeat' first|exact Ext.here _ _|apply Ext.cons|apply Ext.app);done)) z (hKm z hz)) (fun z hz=>Ext.mem (by (focus (repeat' first|exact Ext.all _|apply Ext.cons|apply Ext.app);done)) z (hPx z hz));rintro v Lo ⟨rfl,hq9⟩;rw [hq9];clear hq9)));apply R.nil;refine ⟨?_,?_⟩;(focus (repeat' first|exact trivial|exact At.head|apply At.tail|apply At.right|refine ⟨?_,?_⟩)))<;>(apply A.tk 7;exact rfl;kernel_rfl;(apply Ok1.move;exact rfl))<;>(apply A.tk 8;exact rfl;kernel_rfl;(apply Ok1.extract;exact rfl;exact rfl))<;>(apply A.tk 9;exact rfl;kernel_rfl;(apply Ok1.extract;exact rfl;exact rfl))<;>(apply A.one 10;kernel_rfl;exact rfl;(((apply R.alloc;(iterate 3 exact rfl);intro)));apply R.nil;refine ⟨?_,?_⟩;(focus (repeat' first|exact trivial|exact At.head|apply At.tail|apply At.right|refine ⟨?_,?_⟩)))<;>(apply A.one 11;kernel_rfl;exact rfl;(((apply R.store;(iterate 4 exact rfl);exact hz9;exact hz1;exact Upd.head;exact setE_all hz9)));apply R.nil;refine ⟨?_,?_⟩;(focus (repeat' first|exact trivial|exact At.head|apply At.tail|apply At.right|refine ⟨?_,?_⟩)))<;>(apply A.tk 12;exact rfl;kernel_rfl;(apply Ok1.assign;exact rfl))<;>(apply A.done;kernel_rfl))))))))
    all_goals exact ⟨(),trivial,⟨rfl,rfl,rfl,rfl,rfl,rfl,rfl,trivial⟩,by simp only [List.append_assoc,List.cons_append];(focus (repeat' first|exact Ext.one _ _|exact Ext.here _ _|exact Ext.all _|apply Keep.cons|apply Keep.app|apply Keep.last|apply Ext.cons|apply Ext.app);done)⟩
  rintro _ _
  refine T.meetK (α:=Unit) (I:=fun _=>True) (σi:=fun y=>[(8,.pointer (some ⟨b8,0,none⟩)),(14,.pointer (some ⟨b14,0,none⟩)),(18,.slice (some ⟨bq,0,none⟩) n (n+jq)),(25,.int .i64 i),(26,.pointer (some ⟨bp,0,none⟩)),(27,.int .i64 0),(29,.int .i64 8),(31,.int .i64 1)]) (Li:=fun y=>(bq,.cells ⟨fl (PkR.v s) l++kq⟩ 22 (0,0))::(b8,.cells ⟨[.pointer (some ⟨bc0,0,none⟩),.pointer (some ⟨bc1,0,none⟩),.pointer (some ⟨bc2,0,none⟩)]⟩ 95 (0,0))::(b14,.cells ⟨[.int .i64 5,.int .i64 0,.int .i64 100,.int .i64 1]⟩ 97 (0,0))::(bc0,.cells ⟨chC bn0 br0 bb0 bd0 sd0⟩ 232 (0,0))::(bc1,.cells ⟨chC bn1 br1 bb1 bd1 sd1⟩ 232 (0,0))::(bc2,.cells ⟨chC bn2 br2 bb2 bd2 sd2⟩ 232 (0,0))::(br0,.cells ⟨ringC (cli 0) s p0 q0⟩ 236 (0,0))::(br1,.cells ⟨ringC (cli 1) s1 p1 q1⟩ 236 (0,0))::(br2,.cells ⟨ringC (cli 2) s2 p2 q2⟩ 236 (0,0))::(bp,PB)::(X0++(Z1++(Y2++(BE2++(KG++PL)))))) ?_ ?_
  · repeat' ((apply T.is;(apply T.drawC (id:=36) [0,1] (by decide);((apply A.tk 0;exact rfl;kernel_rfl;(apply Ok1.indexAddrA;(iterate 5 exact rfl);omega;omega))<;>(apply A.tk 1;exact rfl;kernel_rfl;(apply Ok1.load;exact rfl;(apply Ld.own1;exact rfl;exact rfl;(focus (repeat' first|exact At.head|apply At.tail);done);exact rfl)))<;>(apply A.tk 2;exact rfl;kernel_rfl;(apply Ok1.move;exact rfl))<;>(apply A.tk 3;exact rfl;kernel_rfl;(apply Ok1.move;exact rfl))<;>(apply A.tk 4;exact rfl;kernel_rfl;(apply Ok1.indexAddr;(iterate 5 exact rfl);omega;omega))<;>(apply A.tk 5;exact rfl;kernel_rfl;(apply Ok1.load;exact rfl;(apply Ld.ownrow1 (f:=0);exact At.head;exact PkR.v_len s;exact hx;(focus ((simp;done)));(iterate 3 exact rfl))))<;>(apply A.two 6 10;kernel_rfl;exact rfl;exact rfl;rotate_left 1;(focus (((((apply R.alloc;(iterate 3 exact rfl);intro)));apply R.nil;refine ⟨?_,?_⟩;(focus (repeat' first|exact trivial|exact At.head|apply At.tail|refine ⟨?_,?_⟩)))<;>(apply A.one 6;kernel_rfl;exact rfl;(((apply R.callE (Li:=X2) (vs:=[.pointer (some ⟨bc2,0,none⟩),.slice (ovp x.ov) (x.xs s).length (ovc x.ov (x.xs s).length),.int .i64 99,.pointer none]);(iterate 3 exact rfl);(focus (repeat' first|exact Ext.here _ _|apply Ext.cons|apply Ext.app);done);intro w1 hw1;exact c3 w1 _ _ _ hw1 (by (focus (repeat' first|exact Ext.here _ _|apply Ext.cons|apply Ext.app);done)) (At.mem (by (focus (repeat' first|exact At.head|apply At.tail);done))) (At.mem (by (focus (repeat' first|exact At.head|apply At.tail);done))) (fun z hz=>Ext.mem (by (focus (repeat' first|exact Ext.all _|apply Ext.cons|apply Ext.app);done)) z (hPx z hz));rintro v Lo ⟨rfl,hq9⟩;rw [hq9];clear hq9)));apply R.nil;refine ⟨?_,?_⟩;(focus (repeat' first|exact trivial|exact At.head|apply At.tail|apply At.right|refine ⟨?_,?_⟩)))<;>(apply A.tk 7;exact rfl;kernel_rfl;(apply Ok1.move;exact rfl))<;>(apply A.tk 8;exact rfl;kernel_rfl;(apply Ok1.extract;exact rfl;exact rfl))<;>(apply A.tk 9;exact rfl;kernel_rfl;(apply Ok1.extract;exact rfl;exact rfl))<;>(apply A.one 11;kernel_rfl;exact rfl;(((apply R.store;(iterate 4 exact rfl);exact hz9;exact hz1;(focus (repeat' first|exact Upd.head|apply Upd.right);done);exact setE_all hz9)));apply R.nil;refine ⟨?_,?_⟩;(focus (repeat' first|exact trivial|exact At.head|apply At.tail|apply At.right|refine ⟨?_,?_⟩)))<;>(apply A.tk 12;exact rfl;kernel_rfl;(apply Ok1.assign;exact rfl))<;>(apply A.done;kernel_rfl)));rotate_right 1;(focus (((((apply R.callE (Li:=X2) (vs:=[.pointer (some ⟨bc2,0,none⟩),.slice (ovp x.ov) (x.xs s).length (ovc x.ov (x.xs s).length),.int .i64 99,.pointer none]);(iterate 3 exact rfl);(focus (repeat' first|exact Ext.here _ _|apply Ext.cons|apply Ext.app);done);intro w1 hw1;exact c3 w1 _ _ _ hw1 (by (focus (repeat' first|exact Ext.here _ _|apply Ext.cons|apply Ext.app);done)) (At.mem (by (focus (repeat' first|exact At.head|apply At.tail);done))) (At.mem (by (focus (repeat' first|exact At.head|apply At.tail);done))) (fun z hz=>Ext.mem (by (focus (repeat' first|exact Ext.all _|apply Ext.cons|apply Ext.app);done)) z (hPx z hz));rintro v Lo ⟨rfl,hq9⟩;rw [hq9];clear hq9)));apply R.nil;refine ⟨?_,?_⟩;(focus (repeat' first|exact trivial|exact At.head|apply At.tail|apply At.right|refine ⟨?_,?_⟩)))<;>(apply A.tk 7;exact rfl;kernel_rfl;(apply Ok1.move;exact rfl))<;>(apply A.tk 8;exact rfl;kernel_rfl;(apply Ok1.extract;exact rfl;exact rfl))<;>(apply A.tk 9;exact rfl;kernel_rfl;(apply Ok1.extract;exact rfl;exact rfl))<;>(apply A.one 10;kernel_rfl;exact rfl;(((apply R.alloc;(iterate 3 exact rfl);intro)));apply R.nil;refine ⟨?_,?_⟩;(focus (repeat' first|exact trivial|exact At.head|apply At.tail|apply At.right|refine ⟨?_,?_⟩)))<;>(apply A.one 11;kernel_rfl;exact rfl;(((apply R.store;(iterate 4 exact rfl);exact hz9;exact hz1;exact Upd.head;exact setE_all hz9)));apply R.nil;refine ⟨?_,?_⟩;(focus (repeat' first|exact trivial|exact At.head|apply At.tail|apply At.right|refine ⟨?_,?_⟩)))<;>(apply A.tk 12;exact rfl;kernel_rfl;(apply Ok1.assign;exact rfl))<;>(apply A.done;kernel_rfl))))))))
    all_goals exact ⟨(),trivial,⟨rfl,rfl,rfl,rfl,rfl,rfl,rfl,rfl,trivial⟩,by (focus (repeat' first|exact Ext.one _ _|exact Ext.here _ _|exact Ext.all _|apply Keep.cons|apply Keep.app|apply Keep.last|apply Ext.cons|apply Ext.app);done)⟩
  rintro _ _
  refine T.meetK (α:=Unit) (I:=fun _=>True) (σi:=fun y=>[(8,.pointer (some ⟨b8,0,none⟩)),(14,.pointer (some ⟨b14,0,none⟩)),(18,.slice (some ⟨bq,0,none⟩) n (n+jq)),(25,.int .i64 i),(26,.pointer (some ⟨bp,0,none⟩)),(27,.int .i64 0),(29,.int .i64 8),(31,.int .i64 1),(33,.int .i64 1)]) (Li:=fun y=>(bq,.cells ⟨fl (PkR.v s) l++kq⟩ 22 (0,0))::(b8,.cells ⟨[.pointer (some ⟨bc0,0,none⟩),.pointer (some ⟨bc1,0,none⟩),.pointer (some ⟨bc2,0,none⟩)]⟩ 95 (0,0))::(b14,.cells ⟨[.int .i64 5,.int .i64 0,.int .i64 100,.int .i64 1]⟩ 97 (0,0))::(bc0,.cells ⟨chC bn0 br0 bb0 bd0 sd0⟩ 232 (0,0))::(bc1,.cells ⟨chC bn1 br1 bb1 bd1 sd1⟩ 232 (0,0))::(bc2,.cells ⟨chC bn2 br2 bb2 bd2 sd2⟩ 232 (0,0))::(br0,.cells ⟨ringC (cli 0) s p0 q0⟩ 236 (0,0))::(br1,.cells ⟨ringC (cli 1) s1 p1 q1⟩ 236 (0,0))::(br2,.cells ⟨ringC (cli 2) s2 p2 q2⟩ 236 (0,0))::(bp,PB)::(Y0++(Z1++(Y2++(BE2++(KG++PL)))))) ?_ ?_
  · repeat' ((apply T.is;(apply T.drawC (id:=37) [0,1] (by decide);((apply A.tk 0;exact rfl;kernel_rfl;(apply Ok1.indexAddrA;(iterate 5 exact rfl);omega;omega))<;>(apply A.tk 1;exact rfl;kernel_rfl;(apply Ok1.load;exact rfl;(apply Ld.own1;exact rfl;exact rfl;(focus (repeat' first|exact At.head|apply At.tail);done);exact rfl)))<;>(apply A.tk 2;exact rfl;kernel_rfl;(apply Ok1.move;exact rfl))<;>(apply A.tk 3;exact rfl;kernel_rfl;(apply Ok1.move;exact rfl))<;>(apply A.tk 4;exact rfl;kernel_rfl;(apply Ok1.indexAddr;(iterate 5 exact rfl);omega;omega))<;>(apply A.tk 5;exact rfl;kernel_rfl;(apply Ok1.load;exact rfl;(apply Ld.ownrow1 (f:=0);exact At.head;exact PkR.v_len s;exact hx;(focus ((simp;done)));(iterate 3 exact rfl))))<;>(apply A.two 6 10;kernel_rfl;exact rfl;exact rfl;rotate_left 1;(focus (((((apply R.alloc;(iterate 3 exact rfl);intro)));apply R.nil;refine ⟨?_,?_⟩;(focus (repeat' first|exact trivial|exact At.head|apply At.tail|refine ⟨?_,?_⟩)))<;>(apply A.one 6;kernel_rfl;exact rfl;(((apply R.callE (Li:=X0) (vs:=[.pointer (some ⟨bc0,0,none⟩),.slice (ovp x.ov) (x.xs s).length (ovc x.ov (x.xs s).length),.int .i64 99,.pointer none]);(iterate 3 exact rfl);(focus (repeat' first|exact Ext.here _ _|apply Ext.cons);done);intro w1 hw1;exact c4 w1 _ _ _ hw1 (by (focus (repeat' first|exact Ext.here _ _|apply Ext.cons);done)) (At.mem (by (focus (repeat' first|exact At.head|apply At.tail);done))) (At.mem (by (focus (repeat' first|exact At.head|apply At.tail);done))) (fun z hz=>Ext.mem (by (focus (repeat' first|exact Ext.all _|apply Ext.cons|apply Ext.app);done)) z (hPx z hz));rintro v Lo ⟨rfl,hq9⟩;rw [hq9];clear hq9)));apply R.nil;refine ⟨?_,?_⟩;(focus (repeat' first|exact trivial|exact At.head|apply At.tail|apply At.right|refine ⟨?_,?_⟩)))<;>(apply A.tk 7;exact rfl;kernel_rfl;(apply Ok1.move;exact rfl))<;>(apply A.tk 8;exact rfl;kernel_rfl;(apply Ok1.extract;exact rfl;exact rfl))<;>(apply A.tk 9;exact rfl;kernel_rfl;(apply Ok1.extract;exact rfl;exact rfl))<;>(apply A.one 11;kernel_rfl;exact rfl;(((apply R.store;(iterate 4 exact rfl);exact hz9;exact hz1;(focus (repeat' first|exact Upd.head|apply Upd.right);done);exact setE_all hz9)));apply R.nil;refine ⟨?_,?_⟩;(focus (repeat' first|exact trivial|exact At.head|apply At.tail|apply At.right|refine ⟨?_,?_⟩)))<;>(apply A.tk 12;exact rfl;kernel_rfl;(apply Ok1.assign;exact rfl))<;>(apply A.done;kernel_rfl)));rotate_right 1;(focus (((((apply R.callE (Li:=X0) (vs:=[.pointer (some ⟨bc0,0,none⟩),.slice (ovp x.ov) (x.xs s).length (ovc x.ov (x.xs s).length),.int .i64 99,.pointer none]);(iterate 3 exact rfl);(focus (repeat' first|exact Ext.here _ _|apply Ext.cons);done);intro w1 hw1;exact c4 w1 _ _ _ hw1 (by (focus (repeat' first|exact Ext.here _ _|apply Ext.cons);done)) (At.mem (by (focus (repeat' first|exact At.head|apply At.tail);done))) (At.mem (by (focus (repeat' first|exact At.head|apply At.tail);done))) (fun z hz=>Ext.mem (by (focus (repeat' first|exact Ext.all _|apply Ext.cons|apply Ext.app);done)) z (hPx z hz));rintro v Lo ⟨rfl,hq9⟩;rw [hq9];clear hq9)));apply R.nil;refine ⟨?_,?_⟩;(focus (repeat' first|exact trivial|exact At.head|apply At.tail|apply At.right|refine ⟨?_,?_⟩)))<;>(apply A.tk 7;exact rfl;kernel_rfl;(apply Ok1.move;exact rfl))<;>(apply A.tk 8;exact rfl;kernel_rfl;(apply Ok1.extract;exact rfl;exact rfl))<;>(apply A.tk 9;exact rfl;kernel_rfl;(apply Ok1.extract;exact rfl;exact rfl))<;>(apply A.one 10;kernel_rfl;exact rfl;(((apply R.alloc;(iterate 3 exact rfl);intro)));apply R.nil;refine ⟨?_,?_⟩;(focus (repeat' first|exact trivial|exact At.head|apply At.tail|apply At.right|refine ⟨?_,?_⟩)))<;>(apply A.one 11;kernel_rfl;exact rfl;(((apply R.store;(iterate 4 exact rfl);exact hz9;exact hz1;exact Upd.head;exact setE_all hz9)));apply R.nil;refine ⟨?_,?_⟩;(focus (repeat' first|exact trivial|exact At.head|apply At.tail|apply At.right|refine ⟨?_,?_⟩)))<;>(apply A.tk 12;exact rfl;kernel_rfl;(apply Ok1.assign;exact rfl))<;>(apply A.done;kernel_rfl))))))))
    all_goals exact ⟨(),trivial,⟨rfl,rfl,rfl,rfl,rfl,rfl,rfl,rfl,rfl,trivial⟩,by (focus (repeat' first|exact Ext.one _ _|exact Ext.here _ _|exact Ext.all _|apply Keep.cons|apply Keep.app|apply Keep.last|apply Ext.cons|apply Ext.app);done)⟩
  rintro _ _
  refine T.meetK (α:=Unit) (I:=fun _=>True) (σi:=fun y=>[(8,.pointer (some ⟨b8,0,none⟩)),(14,.pointer (some ⟨b14,0,none⟩)),(18,.slice (some ⟨bq,0,none⟩) n (n+jq)),(25,.int .i64 i),(26,.pointer (some ⟨bp,0,none⟩)),(27,.int .i64 0),(29,.int .i64 8),(31,.int .i64 1),(33,.int .i64 1),(35,.int .i64 14)]) (Li:=fun y=>(bq,.cells ⟨fl (PkR.v s) l++kq⟩ 22 (0,0))::(b8,.cells ⟨[.pointer (some ⟨bc0,0,none⟩),.pointer (some ⟨bc1,0,none⟩),.pointer (some ⟨bc2,0,none⟩)]⟩ 95 (0,0))::(b14,.cells ⟨[.int .i64 5,.int .i64 0,.int .i64 100,.int .i64 1]⟩ 97 (0,0))::(bc0,.cells ⟨chC bn0 br0 bb0 bd0 sd0⟩ 232 (0,0))::(bc1,.cells ⟨chC bn1 br1 bb1 bd1 sd1⟩ 232 (0,0))::(bc2,.cells ⟨chC bn2 br2 bb2 bd2 sd2⟩ 232 (0,0))::(br0,.cells ⟨ringC (cli 0) s p0 q0⟩ 236 (0,0))::(br1,.cells ⟨ringC (cli 1) s1 p1 q1⟩ 236 (0,0))::(br2,.cells ⟨ringC (cli 2) s2 p2 q2⟩ 236 (0,0))::(bp,PB)::(Y0++(Y1++(Y2++(BE2++(KG++PL)))))) ?_ ?_
  · repeat' ((apply T.is;(apply T.drawC (id:=38) [0,1] (by decide);((apply A.tk 0;exact rfl;kernel_rfl;(apply Ok1.indexAddrA;(iterate 5 exact rfl);omega;omega))<;>(apply A.tk 1;exact rfl;kernel_rfl;(apply Ok1.load;exact rfl;(apply Ld.own1;exact rfl;exact rfl;(focus (repeat' first|exact At.head|apply At.tail);done);exact rfl)))<;>(apply A.tk 2;exact rfl;kernel_rfl;(apply Ok1.move;exact rfl))<;>(apply A.tk 3;exact rfl;kernel_rfl;(apply Ok1.move;exact rfl))<;>(apply A.tk 4;exact rfl;kernel_rfl;(apply Ok1.indexAddr;(iterate 5 exact rfl);omega;omega))<;>(apply A.tk 5;exact rfl;kernel_rfl;(apply Ok1.load;exact rfl;(apply Ld.ownrow1 (f:=0);exact At.head;exact PkR.v_len s;exact hx;(focus ((simp;done)));(iterate 3 exact rfl))))<;>(apply A.two 6 10;kernel_rfl;exact rfl;exact rfl;rotate_left 1;(focus (((((apply R.alloc;(iterate 3 exact rfl);intro)));apply R.nil;refine ⟨?_,?_⟩;(focus (repeat' first|exact trivial|exact At.head|apply At.tail|refine ⟨?_,?_⟩)))<;>(apply A.one 6;kernel_rfl;exact rfl;(((apply R.callE (Li:=Z1) (vs:=[.pointer (some ⟨bc1,0,none⟩),.slice (ovp x.ov) (x.xs s).length (ovc x.ov (x.xs s).length),.int .i64 100,.pointer none]);(iterate 3 exact rfl);(focus (repeat' first|exact Ext.here _ _|apply Ext.cons|apply Ext.app);done);intro w1 hw1;exact c5 w1 _ _ _ hw1 (by (focus (repeat' first|exact Ext.here _ _|apply Ext.cons|apply Ext.app);done)) (At.mem (by (focus (repeat' first|exact At.head|apply At.tail);done))) (At.mem (by (focus (repeat' first|exact At.head|apply At.tail);done))) (fun z hz=>Ext.mem (by (focus (repeat' first|exact Ext.all _|apply Ext.cons|apply Ext.app);done)) z (hPx z hz));rintro v Lo ⟨rfl,hq9⟩;rw [hq9];clear hq9)));apply R.nil;refine ⟨?_,?_⟩;(focus (repeat' first|exact trivial|exact At.head|apply At.tail|apply At.right|refine ⟨?_,?_⟩)))<;>(apply A.tk 7;exact rfl;kernel_rfl;(apply Ok1.move;exact rfl))<;>(apply A.tk 8;exact rfl;kernel_rfl;(apply Ok1.extract;exact rfl;exact rfl))<;>(apply A.tk 9;exact rfl;kernel_rfl;(apply Ok1.extract;exact rfl;exact rfl))<;>(apply A.one 11;kernel_rfl;exact rfl;(((apply R.store;(iterate 4 exact rfl);exact hz9;exact hz1;(focus (repeat' first|exact Upd.head|apply Upd.right);done);exact setE_all hz9)));apply R.nil;refine ⟨?_,?_⟩;(focus (repeat' first|exact trivial|exact At.head|apply At.tail|apply At.right|refine ⟨?_,?_⟩)))<;>(apply A.tk 12;exact rfl;kernel_rfl;(apply Ok1.assign;exact rfl))<;>(apply A.done;kernel_rfl)));rotate_right 1;(focus (((((apply R.callE (Li:=Z1) (vs:=[.pointer (some ⟨bc1,0,none⟩),.slice (ovp x.ov) (x.xs s).length (ovc x.ov (x.xs s).length),.int .i64 100,.pointer none]);(iterate 3 exact rfl);(focus (repeat' first|exact Ext.here _ _|apply Ext.cons|apply Ext.app);done);intro w1 hw1;exact c5 w1 _ _ _ hw1 (by (focus (repeat' first|exact Ext.here _ _|apply Ext.cons|apply Ext.app);done)) (At.mem (by (focus (repeat' first|exact At.head|apply At.tail);done))) (At.mem (by (focus (repeat' first|exact At.head|apply At.tail);done))) (fun z hz=>Ext.mem (by (focus (repeat' first|exact Ext.all _|apply Ext.cons|apply Ext.app);done)) z (hPx z hz));rintro v Lo ⟨rfl,hq9⟩;rw [hq9];clear hq9)));apply R.nil;refine ⟨?_,?_⟩;(focus (repeat' first|exact trivial|exact At.head|apply At.tail|apply At.right|refine ⟨?_,?_⟩)))<;>(apply A.tk 7;exact rfl;kernel_rfl;(apply Ok1.move;exact rfl))<;>(apply A.tk 8;exact rfl;kernel_rfl;(apply Ok1.extract;exact rfl;exact rfl))<;>(apply A.tk 9;exact rfl;kernel_rfl;(apply Ok1.extract;exact rfl;exact rfl))<;>(apply A.one 10;kernel_rfl;exact rfl;(((apply R.alloc;(iterate 3 exact rfl);intro)));apply R.nil;refine ⟨?_,?_⟩;(focus (repeat' first|exact trivial|exact At.head|apply At.tail|apply At.right|refine ⟨?_,?_⟩)))<;>(apply A.one 11;kernel_rfl;exact rfl;(((apply R.store;(iterate 4 exact rfl);exact hz9;exact hz1;exact Upd.head;exact setE_all hz9)));apply R.nil;refine ⟨?_,?_⟩;(focus (repeat' first|exact trivial|exact At.head|apply At.tail|apply At.right|refine ⟨?_,?_⟩)))<;>(apply A.tk 12;exact rfl;kernel_rfl;(apply Ok1.assign;exact rfl))<;>(apply A.done;kernel_rfl))))))))
    all_goals exact ⟨(),trivial,⟨rfl,rfl,rfl,rfl,rfl,rfl,rfl,rfl,rfl,rfl,trivial⟩,by (focus (repeat' first|exact Ext.one _ _|exact Ext.here _ _|exact Ext.all _|apply Keep.cons|apply Keep.app|apply Keep.last|apply Ext.cons|apply Ext.app);done)⟩
  rintro _ _
  rw [← hPB]
  repeat' (first|(apply R.is1;first|(apply R.isBin;(apply R.pure;exact rfl;first|(apply Ok1.neqFz (q:=false);(iterate 7 exact rfl);exact ⟨fun h=>absurd rfl h,fun h=>by cases h⟩)|(apply Ok1.add64;exact rfl;exact rfl;omega;omega)|(apply Ok1.neq_f;exact rfl;exact rfl;omega)))|(apply R.pure;exact rfl;first|(apply Ok1.load;exact rfl;(apply Ld.ownk;exact rfl;exact rfl;(focus (repeat' first|exact At.head|apply At.tail);done);exact rfl))|(apply Ok1.move;exact rfl)|(apply Ok1.fieldAddr;(iterate 5 exact rfl))|(apply Ok1.assign;exact rfl)|(apply Ok1.pick_f;exact rfl;exact rfl)))|(apply R.isG;(apply R.guard_run;exact rfl;exact rfl))|apply R.nil|(apply T.is;first|apply T.seq|apply T.region|apply T.skip|(apply T.cond_f;exact rfl)))
  refine ⟨(i+1,m ||| 2 ^ x.j),⟨hlt,hm2,hnx⟩,by simp only;omega,⟨rfl,rfl,rfl,rfl,trivial⟩,?_⟩
  simp only [slV,blkL_sM,List.cons_append,List.nil_append,Int.natCast_add,Int.cast_ofNat_Int,hB2,hY0,hY1,hY2]
  (focus (repeat' first|exact Ext.one _ _|exact Ext.here _ _|exact Ext.all _|apply Keep.cons|apply Keep.app|apply Keep.last|apply Ext.cons);done)
end
section
variable (pl:Option Addr) (cl:Nat) (ls:List LT) (po:Option Addr) (co:Nat) (os:List Int) (w:World) (hl:RdSl w pl LT.v ls) (hlo:∀ x∈ls,x.okR w) (ho:RdSl w po iV os)
variable (b8 b14 bc0 bc1 bc2 bn0 bn1 bn2 br0 br1 br2 bb0 bb1 bb2 bd0 bd1 bd2:Nat) (sd0 sd1 sd2:List Value) (p0 q0 p1 q1 p2 q2 bm1 blk kb:Nat) (ovg:Ov) (s s1 s2:List Int)
variable (hsl:s.length=32) (hsb:Byt s) (hs1:s1.length=32) (hs2:s2.length=32) (hovg:OvOk 1 ovg (senderI s 6).length (u8s (senderI s 6)))
theorem meets_tail (hl:RdSl w pl LT.v ls) (hlo:∀ x∈ls,x.okR w) (ho:RdSl w po iV os) (hsl:s.length=32) (hsb:Byt s) (hs1:s1.length=32) (hs2:s2.length=32) (hovg:OvOk 1 ovg (senderI s 6).length (u8s (senderI s 6))) :
    T ⟨Tryz.prog,tb,295,w,[]⟩ (sRm (sRm (sRm (sRm (sRm (sRm (bodyM Tryz.f6))))))) (retQ ⟨Tryz.prog,tb,295,w,[]⟩ Tryz.f6.results.toList fun x _=>x = .bool true)
      [(1,.slice pl ls.length cl),(2,.slice po os.length co),(8,.pointer (some ⟨b8,0,none⟩)),(14,.pointer (some ⟨b14,0,none⟩))] ((b8,.cells ⟨[.pointer (some ⟨bc0,0,none⟩),.pointer (some ⟨bc1,0,none⟩),.pointer (some ⟨bc2,0,none⟩)]⟩ 95 (0,0))::(b14,.cells ⟨[.int .i64 5,.int .i64 0,.int .i64 100,.int .i64 1]⟩ 97 (0,0))::(bc0,.cells ⟨chC bn0 br0 bb0 bd0 sd0⟩ 232 (0,0))::(bc1,.cells ⟨chC bn1 br1 bb1 bd1 sd1⟩ 232 (0,0))::(bc2,.cells ⟨chC bn2 br2 bb2 bd2 sd2⟩ 232 (0,0))::(br0,.cells ⟨ringC (cli 0) s p0 q0⟩ 236 (0,0))::(br1,.cells ⟨ringC (cli 1) s1 p1 q1⟩ 236 (0,0))::(br2,.cells ⟨ringC (cli 2) s2 p2 q2⟩ 236 (0,0))::(bn0,.cells ⟨[.int .i64 1,.int .i64 0]⟩ 324 (0,0))::(DrpL bd0 (dr0 0)++(DrpL bd1 (dr1 0 0)++(DrpL bd2 (dr0 0)++(B1 bb1 bm1 blk (cli 0) (stE 0 (some ⟨kb,0,none⟩) 0)++KL kb ovg (senderI s 6)))))):=by
  have hcr:=cli_right (i:=0) (by decide)
  repeat' (first|(apply R.is1;(apply R.pure;exact rfl;(apply Ok1.assign;exact rfl)))|apply R.nil|(apply T.is;first|(apply T.stop 19)|apply T.seq|apply T.region))
  refine ⟨?_⟩
  refine T.meetK (α:=Nat × Ov × List PkR) (I:=fun y=>y.2.2.length=y.1∧y.1≤8∧OvOk 1 y.2.1 y.1 (fl (PkR.v s) y.2.2)∧(∀ x∈y.2.2,x.ok s)∧y.2.2.map PkR.j=List.range y.1) (σi:=fun y=>[(2,.slice po os.length co),(8,.pointer (some ⟨b8,0,none⟩)),(14,.pointer (some ⟨b14,0,none⟩)),(18,slV y.2.1 y.1)]) (Li:=fun y=>(b8,.cells ⟨[.pointer (some ⟨bc0,0,none⟩),.pointer (some ⟨bc1,0,none⟩),.pointer (some ⟨bc2,0,none⟩)]⟩ 95 (0,0))::(b14,.cells ⟨[.int .i64 5,.int .i64 0,.int .i64 100,.int .i64 1]⟩ 97 (0,0))::(bc0,.cells ⟨chC bn0 br0 bb0 bd0 sd0⟩ 232 (0,0))::(bc1,.cells ⟨chC bn1 br1 bb1 bd1 sd1⟩ 232 (0,0))::(bc2,.cells ⟨chC bn2 br2 bb2 bd2 sd2⟩ 232 (0,0))::(br0,.cells ⟨ringC (cli 0) s p0 q0⟩ 236 (0,0))::(br1,.cells ⟨ringC (cli 1) s1 p1 q1⟩ 236 (0,0))::(br2,.cells ⟨ringC (cli 2) s2 p2 q2⟩ 236 (0,0))::(DrpL bd0 (dr0 0)++(DrpL bd1 (dr1 0 0)++(DrpL bd2 (dr0 0)++(B1 bb1 bm1 blk (cli 0) (stE 0 (some ⟨kb,0,none⟩) 0)++(KL kb ovg (senderI s 6)++(blkL 22 y.2.1 (fl (PkR.v s) y.2.2)++PksL s y.2.2))))))) ?_ ?_
  · generalize DrpL bd0 (dr0 0)=D0
    generalize DrpL bd1 (dr1 0 0)=D1
    generalize DrpL bd2 (dr0 0)=D2
    generalize B1 bb1 bm1 blk (cli 0) (stE 0 (some ⟨kb,0,none⟩) 0)=BE
    generalize KL kb ovg (senderI s 6)=KG
    repeat' (first|(apply R.is1;(apply R.pure;exact rfl;(apply Ok1.assign;exact rfl)))|apply R.nil|(apply T.is;first|apply T.seq|apply T.region|apply T.block))
    apply T.loopK (α:=Nat × Ov × List PkR) (I:=fun y=>y.1≤ls.length∧y.2.2.length=y.1∧y.1≤8∧OvOk 1 y.2.1 y.1 (fl (PkR.v s) y.2.2)∧(∀ x∈y.2.2,x.ok s)∧y.2.2.map PkR.j=List.range y.1) (σi:=fun y=>[(1,.slice pl ls.length cl),(2,.slice po os.length co),(8,.pointer (some ⟨b8,0,none⟩)),(14,.pointer (some ⟨b14,0,none⟩)),(18,slV y.2.1 y.1),(19,.int .i64 y.1)]) (Li:=fun y=>(b8,.cells ⟨[.pointer (some ⟨bc0,0,none⟩),.pointer (some ⟨bc1,0,none⟩),.pointer (some ⟨bc2,0,none⟩)]⟩ 95 (0,0))::(b14,.cells ⟨[.int .i64 5,.int .i64 0,.int .i64 100,.int .i64 1]⟩ 97 (0,0))::(bc0,.cells ⟨chC bn0 br0 bb0 bd0 sd0⟩ 232 (0,0))::(bc1,.cells ⟨chC bn1 br1 bb1 bd1 sd1⟩ 232 (0,0))::(bc2,.cells ⟨chC bn2 br2 bb2 bd2 sd2⟩ 232 (0,0))::(br0,.cells ⟨ringC (cli 0) s p0 q0⟩ 236 (0,0))::(br1,.cells ⟨ringC (cli 1) s1 p1 q1⟩ 236 (0,0))::(br2,.cells ⟨ringC (cli 2) s2 p2 q2⟩ 236 (0,0))::(bn0,.cells ⟨[.int .i64 1,.int .i64 y.1]⟩ 324 (0,0))::(D0++(D1++(D2++(BE++(KG++(blkL 22 y.2.1 (fl (PkR.v s) y.2.2)++PksL s y.2.2))))))) (μ:=fun y=>ls.length - y.1) (i0:=(0,none,[]))
    · exact ⟨Nat.zero_le _,rfl,Nat.zero_le _,OvOk.start 1,by simp,rfl⟩
    · exact ⟨rfl,rfl,rfl,rfl,rfl,rfl,trivial⟩
    · simp only [blkL,PksL,List.flatMap_nil,List.append_nil]
      (focus (repeat' first|exact Ext.one _ _|exact Ext.here _ _|exact Ext.all _|apply Keep.cons|apply Keep.app|apply Keep.last);done)
    rintro ⟨i,ova,al⟩ ⟨hi,hal,hi8,hov,hok,hjs⟩
    simp only at hi hal hi8 hov hok hjs ⊢
    by_cases hlt:i < ls.length∧i < 8
    case neg =>
      repeat' (first|(apply R.is1;first|(apply R.isBin;first|(apply R.pure;exact rfl;(apply Ok1.lss_f;exact rfl;exact rfl;omega))|(apply R.lss rfl rfl rfl<;>intro))|(apply R.isCall;(apply R.pure;exact rfl;(apply Ok1.lenS;(iterate 3 exact rfl))))|(apply R.pure;exact rfl;first|(apply Ok1.move;exact rfl)|(apply Ok1.pick_t;exact rfl;exact rfl)|(apply Ok1.pick_f;exact rfl;exact rfl)))|(apply R.isG;first|(apply R.guard_run;exact rfl;exact rfl)|(apply R.guard_not;(iterate 3 exact rfl)))|apply R.nil|(apply T.is;first|apply T.seq|apply T.region|apply T.exit|(apply T.cond_f;exact rfl)))
      all_goals skip
      all_goals exact ⟨(i,ova,al),⟨hal,hi8,hov,hok,hjs⟩,⟨rfl,rfl,rfl,rfl,trivial⟩,by (focus (repeat' first|exact Ext.one _ _|exact Ext.here _ _|exact Ext.all _|apply Keep.cons|apply Keep.app|apply Keep.last|apply Ext.cons);done)⟩
    obtain ⟨hlt1,hlt2⟩:=hlt
    obtain ⟨x,hx⟩:∃ x,ls[i]? = some x:=⟨_,List.getElem?_eq_getElem hlt1⟩
    obtain ⟨b,o,hpe,H⟩:=hl.at hx
    replace H:=H 3 LT.v_len
    obtain ⟨xrd,xbt,xcp⟩:=hlo x (List.mem_of_getElem? hx)
    obtain ⟨m,hm⟩:∃ m,m=min x.xs.length 100:=⟨_,rfl⟩
    have em:min (x.xs.length:Int) 100=(m:Nat):=by omega
    have hml:m=(x.xs.take m).length:=by rw [List.length_take];omega
    have hbb:Byt (x.xs.take m):=fun y hy=>xbt y (List.mem_of_mem_take hy)
    have hrd:=xrd.pre u8V_len m
    generalize x.xs.take m=body at *
    obtain ⟨hu0,hu1⟩:=u64_rangeM x.k
    have hk7:7≤7+IntKind.u64.wrap x.k % 4:=by omega
    have hk10:7+IntKind.u64.wrap x.k % 4≤10:=by omega
    have hnr2:NR 1 ((i:Int)+1):=by unfold NR;omega
    have hz:=wr_zero hk7 hk10 (n:=m) (by omega)
    obtain ⟨G,hG⟩:∃ G,G=wrG (cli 0) s (7+IntKind.u64.wrap x.k % 4) 6 1 ((i:Int)+1) body:=⟨_,rfl⟩
    have hwr:=fun w1 L Lr S (hw1:Hp w S L w1) (he:Ext L [(bn0,.cells ⟨[.int .i64 1,.int .i64 i]⟩ 324 (0,0))] Lr) (g1:At L bc0 (.cells ⟨chC bn0 br0 bb0 bd0 sd0⟩ 232 (0,0))) (g2:At L br0 (.cells ⟨ringC (cli 0) s p0 q0⟩ 236 (0,0))) (g3:At L bn0 (.cells ⟨[.int .i64 1,.int .i64 i]⟩ 324 (0,0))) (hch:Chg [] w w1) (hw2:Hp w [] L w1)=>(chwriteG bc0 bn0 br0 bb0 bd0 sd0 232 (0,0) (cli 0) hcr s hsl hsb p0 q0 236 (7+IntKind.u64.wrap x.k % 4) 6 1 i hnr2 (by omega) x.p m x.cap body hml hbb w1 (hw1.get _ _ g1.mem) (hw1.get _ _ g2.mem) (hw1.neT g1 g3 (by decide)) (hw1.neT g2 g3 (by decide)) (hrd.chg' hch (fun _=>Off.nil _)) (RdSl.old u8V_len (by decide) hrd (fun _=>Off.nil _) hw2 he)).wk (R':=fun v L=>∃ ov,OvOk 1 ov G.length (u8s G)∧v = .tuple #[.slice (ovp ov) G.length (ovc ov G.length),.int .i64 0]∧L=(bn0,.cells ⟨[.int .i64 1,.int .i64 ((i:Int)+1)]⟩ 324 (0,0))::blkL 5 ov (u8s G)) (by
      rintro v L (⟨g,rfl,rfl⟩|⟨g,ov,hov,rfl,rfl⟩)
      · exact absurd hz g
      · subst hG
        exact ⟨ov,hov,by rw [slV_eq hov],rfl⟩)
    generalize hPL:PksL s al=PL at *
    repeat' (first|(apply R.is1;first|(apply R.isBin;(apply R.pure;exact rfl;(apply Ok1.lss_t;exact rfl;exact rfl;omega)))|(apply R.isCall;(apply R.pure;exact rfl;(apply Ok1.lenS;(iterate 3 exact rfl))))|(apply R.pure;exact rfl;first|(apply Ok1.move;exact rfl)|(apply Ok1.pick_t;exact rfl;exact rfl)))|(apply R.isG;(apply R.guard_run;exact rfl;exact rfl))|apply R.nil|(apply T.is;first|(apply T.stop1 23)|(apply T.drawC (id:=22) [0] (by decide);(((apply A.tk 0;exact rfl;kernel_rfl;(apply Ok1.indexAddrA;(iterate 5 exact rfl);omega;omega));refine A.cast (listed':=#[true,false,false,false,false,false,false,false,false,false,false,false,false,false,false,false,false,false,false,false,false,false,false,false,false,false,false,false,false,false]) (by kernel_rfl) ?_)<;>((apply A.tk 1;exact rfl;kernel_rfl;(apply Ok1.load;exact rfl;(apply Ld.own1;exact rfl;exact rfl;exact At.head;exact rfl)));refine A.cast (listed':=#[true,true,false,false,false,false,false,false,false,false,false,false,false,false,false,false,false,false,false,false,false,false,false,false,false,false,false,false,false,false]) (by kernel_rfl) ?_)<;>((apply A.tk 2;exact rfl;kernel_rfl;(apply Ok1.move;exact rfl));refine A.cast (listed':=#[true,true,true,false,false,false,false,false,false,false,false,false,false,false,false,false,false,false,false,false,false,false,false,false,false,false,false,false,false,false]) (by kernel_rfl) ?_)<;>((apply A.tk 3;exact rfl;kernel_rfl;(apply Ok1.move;exact rfl));refine A.cast (listed':=#[true,true,true,true,false,false,false,false,false,false,false,false,false,false,false,false,false,false,false,false,false,false,false,false,false,false,false,false,false,false]) (by kernel_rfl) ?_)<;>((apply A.tk 4;exact rfl;kernel_rfl;(apply Ok1.indexAddrP;(iterate 4 exact rfl);exact hpe;exact rfl;omega;omega));refine A.cast (listed':=#[true,true,true,true,true,false,false,false,false,false,false,false,false,false,false,false,false,false,false,false,false,false,false,false,false,false,false,false,false,false]) (by kernel_rfl) ?_)<;>((apply A.tk 5;exact rfl;kernel_rfl;(apply Ok1.fieldAddr;(iterate 5 exact rfl)));refine A.cast (listed':=#[true,true,true,true,true,true,false,false,false,false,false,false,false,false,false,false,false,false,false,false,false,false,false,false,false,false,false,false,false,false]) (by kernel_rfl) ?_)<;>((apply A.tk 6;exact rfl;kernel_rfl;(apply Ok1.load;exact rfl;(apply Ld.row0 H;exact rfl;exact List.not_mem_nil;(iterate 3 exact rfl))));refine A.cast (listed':=#[true,true,true,true,true,true,true,false,false,false,false,false,false,false,false,false,false,false,false,false,false,false,false,false,false,false,false,false,false,false]) (by kernel_rfl) ?_)<;>((apply A.tk 7;exact rfl;kernel_rfl;(apply Ok1.conv;(iterate 5 exact rfl)));refine A.cast (listed':=#[true,true,true,true,true,true,true,true,false,false,false,false,false,false,false,false,false,false,false,false,false,false,false,false,false,false,false,false,false,false]) (by kernel_rfl) ?_)<;>((apply A.tk 8;exact rfl;kernel_rfl;(apply Ok1.remN;exact rfl;exact rfl;omega;omega));refine A.cast (listed':=#[true,true,true,true,true,true,true,true,true,false,false,false,false,false,false,false,false,false,false,false,false,false,false,false,false,false,false,false,false,false]) (by kernel_rfl) ?_)<;>((apply A.tk 9;exact rfl;kernel_rfl;(apply Ok1.convI64;(iterate 5 exact rfl);omega;omega));refine A.cast (listed':=#[true,true,true,true,true,true,true,true,true,true,false,false,false,false,false,false,false,false,false,false,false,false,false,false,false,false,false,false,false,false]) (by kernel_rfl) ?_)<;>((apply A.tk 10;exact rfl;kernel_rfl;(apply Ok1.add64;exact rfl;exact rfl;omega;omega));refine A.cast (listed':=#[true,true,true,true,true,true,true,true,true,true,true,false,false,false,false,false,false,false,false,false,false,false,false,false,false,false,false,false,false,false]) (by kernel_rfl) ?_)<;>((apply A.tk 11;exact rfl;kernel_rfl;(apply Ok1.move;exact rfl));refine A.cast (listed':=#[true,true,true,true,true,true,true,true,true,true,true,true,false,false,false,false,false,false,false,false,false,false,false,false,false,false,false,false,false,false]) (by kernel_rfl) ?_)<;>((apply A.tk 12;exact rfl;kernel_rfl;(apply Ok1.move;exact rfl));refine A.cast (listed':=#[true,true,true,true,true,true,true,true,true,true,true,true,true,false,false,false,false,false,false,false,false,false,false,false,false,false,false,false,false,false]) (by kernel_rfl) ?_)<;>((apply A.tk 13;exact rfl;kernel_rfl;(apply Ok1.indexAddrP;(iterate 4 exact rfl);exact hpe;exact rfl;omega;omega));refine A.cast (listed':=#[true,true,true,true,true,true,true,true,true,true,true,true,true,true,false,false,false,false,false,false,false,false,false,false,false,false,false,false,false,false]) (by kernel_rfl) ?_)<;>((apply A.tk 14;exact rfl;kernel_rfl;(apply Ok1.fieldAddr;(iterate 5 exact rfl)));refine A.cast (listed':=#[true,true,true,true,true,true,true,true,true,true,true,true,true,true,true,false,false,false,false,false,false,false,false,false,false,false,false,false,false,false]) (by kernel_rfl) ?_)<;>((apply A.tk 15;exact rfl;kernel_rfl;(apply Ok1.load;exact rfl;(apply Ld.row1 H;exact rfl;exact List.not_mem_nil;(iterate 3 exact rfl))));refine A.cast (listed':=#[true,true,true,true,true,true,true,true,true,true,true,true,true,true,true,true,false,false,false,false,false,false,false,false,false,false,false,false,false,false]) (by kernel_rfl) ?_)<;>((apply A.tk 16;exact rfl;kernel_rfl;(apply Ok1.move;exact rfl));refine A.cast (listed':=#[true,true,true,true,true,true,true,true,true,true,true,true,true,true,true,true,true,false,false,false,false,false,false,false,false,false,false,false,false,false]) (by kernel_rfl) ?_)<;>((apply A.tk 17;exact rfl;kernel_rfl;(apply Ok1.move;exact rfl));refine A.cast (listed':=#[true,true,true,true,true,true,true,true,true,true,true,true,true,true,true,true,true,true,false,false,false,false,false,false,false,false,false,false,false,false]) (by kernel_rfl) ?_)<;>((apply A.tk 18;exact rfl;kernel_rfl;(apply Ok1.indexAddrP;(iterate 4 exact rfl);exact hpe;exact rfl;omega;omega));refine A.cast (listed':=#[true,true,true,true,true,true,true,true,true,true,true,true,true,true,true,true,true,true,true,false,false,false,false,false,false,false,false,false,false,false]) (by kernel_rfl) ?_)<;>((apply A.tk 19;exact rfl;kernel_rfl;(apply Ok1.fieldAddr;(iterate 5 exact rfl)));refine A.cast (listed':=#[true,true,true,true,true,true,true,true,true,true,true,true,true,true,true,true,true,true,true,true,false,false,false,false,false,false,false,false,false,false]) (by kernel_rfl) ?_)<;>((apply A.tk 20;exact rfl;kernel_rfl;(apply Ok1.load;exact rfl;(apply Ld.row1 H;exact rfl;exact List.not_mem_nil;(iterate 3 exact rfl))));refine A.cast (listed':=#[true,true,true,true,true,true,true,true,true,true,true,true,true,true,true,true,true,true,true,true,true,false,false,false,false,false,false,false,false,false]) (by kernel_rfl) ?_)<;>((apply A.tk 21;exact rfl;kernel_rfl;(apply Ok1.lenS;(iterate 3 exact rfl)));refine A.cast (listed':=#[true,true,true,true,true,true,true,true,true,true,true,true,true,true,true,true,true,true,true,true,true,true,false,false,false,false,false,false,false,false]) (by kernel_rfl) ?_)<;>((apply A.tk 22;exact rfl;kernel_rfl;(apply Ok1.min2E;exact rfl;exact rfl;exact em));refine A.cast (listed':=#[true,true,true,true,true,true,true,true,true,true,true,true,true,true,true,true,true,true,true,true,true,true,true,false,false,false,false,false,false,false]) (by kernel_rfl) ?_)<;>((apply A.tk 23;exact rfl;kernel_rfl;(apply Ok1.preR (i:=m);(iterate 5 exact rfl);omega));refine A.cast (listed':=#[true,true,true,true,true,true,true,true,true,true,true,true,true,true,true,true,true,true,true,true,true,true,true,true,false,false,false,false,false,false]) (by kernel_rfl) ?_)<;>(apply A.one 24;kernel_rfl;exact rfl;(((apply R.callE (Li:=[(bn0,.cells ⟨[.int .i64 1,.int .i64 i]⟩ 324 (0,0))]) (vs:=[.pointer (some ⟨bc0,0,none⟩),.int .i64 _,.int .i64 6,.slice x.p m x.cap]);(iterate 3 exact rfl);(focus (repeat' first|exact Ext.one _ _|apply Ext.cons);done);intro w1 hw1;exact hwr w1 _ _ _ hw1 (by (focus (repeat' first|exact Ext.one _ _|apply Ext.cons);done)) (by (focus (repeat' first|exact At.head|apply At.tail);done)) (by (focus (repeat' first|exact At.head|apply At.tail);done)) (by (focus (repeat' first|exact At.head|apply At.tail);done)) hw1.chg hw1;rintro v Lo ⟨ovx,hovx,rfl,rfl⟩)));apply R.nil;refine ⟨?_,?_⟩;(focus (repeat' first|exact trivial|exact At.head|apply At.tail|apply At.right|refine ⟨?_,?_⟩)))<;>((apply A.tk 25;exact rfl;kernel_rfl;(apply Ok1.move;exact rfl));refine A.cast (listed':=#[true,true,true,true,true,true,true,true,true,true,true,true,true,true,true,true,true,true,true,true,true,true,true,true,true,true,false,false,false,false]) (by kernel_rfl) ?_)<;>((apply A.tk 26;exact rfl;kernel_rfl;(apply Ok1.extract;exact rfl;exact rfl));refine A.cast (listed':=#[true,true,true,true,true,true,true,true,true,true,true,true,true,true,true,true,true,true,true,true,true,true,true,true,true,true,true,false,false,false]) (by kernel_rfl) ?_)<;>((apply A.tk 27;exact rfl;kernel_rfl;(apply Ok1.extract;exact rfl;exact rfl));refine A.cast (listed':=#[true,true,true,true,true,true,true,true,true,true,true,true,true,true,true,true,true,true,true,true,true,true,true,true,true,true,true,true,false,false]) (by kernel_rfl) ?_)<;>((apply A.tk 28;exact rfl;kernel_rfl;(apply Ok1.assign;exact rfl));refine A.cast (listed':=#[true,true,true,true,true,true,true,true,true,true,true,true,true,true,true,true,true,true,true,true,true,true,true,true,true,true,true,true,true,false]) (by kernel_rfl) ?_)<;>((apply A.tk 29;exact rfl;kernel_rfl;(apply Ok1.assign;exact rfl));refine A.cast (listed':=#[true,true,true,true,true,true,true,true,true,true,true,true,true,true,true,true,true,true,true,true,true,true,true,true,true,true,true,true,true,true]) (by kernel_rfl) ?_)<;>(apply A.done;kernel_rfl)))|apply T.seq|apply T.region|apply T.block|apply T.skip|(apply T.cond_t;exact rfl)))
    refine ⟨?_⟩
    refine T.weakK (σ':=[(1,.slice pl ls.length cl),(2,.slice po os.length co),(8,.pointer (some ⟨b8,0,none⟩)),(14,.pointer (some ⟨b14,0,none⟩)),(18,slV ova i),(19,.int .i64 i),(20,.slice (ovp ovx) G.length (ovc ovx G.length)),(21,.int .i64 0)]) (L':=(b8,.cells ⟨[.pointer (some ⟨bc0,0,none⟩),.pointer (some ⟨bc1,0,none⟩),.pointer (some ⟨bc2,0,none⟩)]⟩ 95 (0,0))::(b14,.cells ⟨[.int .i64 5,.int .i64 0,.int .i64 100,.int .i64 1]⟩ 97 (0,0))::(bc0,.cells ⟨chC bn0 br0 bb0 bd0 sd0⟩ 232 (0,0))::(bc1,.cells ⟨chC bn1 br1 bb1 bd1 sd1⟩ 232 (0,0))::(bc2,.cells ⟨chC bn2 br2 bb2 bd2 sd2⟩ 232 (0,0))::(br0,.cells ⟨ringC (cli 0) s p0 q0⟩ 236 (0,0))::(br1,.cells ⟨ringC (cli 1) s1 p1 q1⟩ 236 (0,0))::(br2,.cells ⟨ringC (cli 2) s2 p2 q2⟩ 236 (0,0))::(bn0,.cells ⟨[.int .i64 1,.int .i64 ((i:Int)+1)]⟩ 324 (0,0))::(D0++(D1++(D2++(BE++(KG++(blkL 22 ova (fl (PkR.v s) al)++(PL++blkL 5 ovx (u8s G))))))))) ?_ (by (focus (repeat' first|exact Ext.one _ _|exact Ext.here _ _|exact Ext.all _|apply Keep.cons|apply Keep.app|apply Keep.last|apply Ext.cons|apply Ext.app);done)) ⟨rfl,rfl,rfl,rfl,rfl,rfl,rfl,rfl,trivial⟩
    repeat' (first|(apply R.is1;first|(apply R.isBin;(apply R.pure;exact rfl;first|(apply Ok1.add64;exact rfl;exact rfl;omega;omega)|(apply Ok1.neq_f;exact rfl;exact rfl;omega)))|(apply R.isCall;(apply R.append1;(iterate 12 exact rfl);(focus (repeat' first|exact OwnAt.mid hov|apply OwnAt.tail|apply OwnAt.right);done);exact At.head;exact rfl;exact rfl;omega;omega;intro b2 j2 k2 hj2))|(apply R.pure;exact rfl;first|(apply Ok1.move;exact rfl)|(apply Ok1.assign;exact rfl))|(apply R.buildSlice;(iterate 12 exact rfl);intro))|apply R.nil|(apply T.is;first|apply T.seq|apply T.region|apply T.skip|(apply T.cond_f;exact rfl)))
    have hnew:PkR.xs s ⟨ovx,7+IntKind.u64.wrap x.k % 4,i,body⟩=G:=hG.symm
    have hfl:fl (PkR.v s) (al++[⟨ovx,7+IntKind.u64.wrap x.k % 4,i,body⟩])=fl (PkR.v s) al++[.slice (ovp ovx) G.length (ovc ovx G.length)]:=by
      rw [fl_app,← hnew];rfl
    have hov1:=hov.some (b:=b2) (ys:=[.slice (ovp ovx) G.length (ovc ovx G.length)]) (m:=1) rfl hj2
    have hL9:PkR.L s ⟨ovx,7+IntKind.u64.wrap x.k % 4,i,body⟩=blkL 5 ovx (u8s G):=by rw [PkR.L,hnew]
    refine ⟨(i+1,some (b2,j2,k2),al++[⟨ovx,7+IntKind.u64.wrap x.k % 4,i,body⟩]),⟨hlt1,by rw [List.length_append,hal];rfl,by omega,?_,?_,?_⟩,by simp only;omega,⟨rfl,rfl,rfl,rfl,rfl,rfl,trivial⟩,?_⟩
    · simp only
      rw [hfl];exact hov1
    · intro y hy
      rcases List.mem_append.1 hy with h1|h1
      · exact hok y h1
      · rw [List.mem_singleton.1 h1]
        exact ⟨by rw [hnew];exact hovx,hk7,hk10,by simp only;omega,hbb,hlt2⟩
    · simp only [List.map_append,hjs,List.range_succ,List.map_cons,List.map_nil]
    · simp only [hfl,PksL_snoc,hL9,hPL,blkL_sM,List.cons_append,List.nil_append]
      (focus (repeat' first|exact Ext.one _ _|exact Ext.here _ _|exact Ext.all _|apply Keep.cons|apply Keep.app|apply Keep.last|apply Ext.cons);done)
  · rintro ⟨n,ova,al⟩ ⟨hal,hn8,hov,hok,hjs⟩
    simp only at hal hn8 hov hok hjs ⊢
    have hnd:(al.map PkR.j).Nodup:=by rw [hjs];exact List.nodup_range
    repeat' ((apply T.is;(apply T.stop 26)))
    refine ⟨?_⟩
    refine T.meetK (α:=List PkR) (I:=fun y=>y.Perm al) (σi:=fun y=>[(8,.pointer (some ⟨b8,0,none⟩)),(14,.pointer (some ⟨b14,0,none⟩)),(18,slV ova n)]) (Li:=fun y=>(b8,.cells ⟨[.pointer (some ⟨bc0,0,none⟩),.pointer (some ⟨bc1,0,none⟩),.pointer (some ⟨bc2,0,none⟩)]⟩ 95 (0,0))::(b14,.cells ⟨[.int .i64 5,.int .i64 0,.int .i64 100,.int .i64 1]⟩ 97 (0,0))::(bc0,.cells ⟨chC bn0 br0 bb0 bd0 sd0⟩ 232 (0,0))::(bc1,.cells ⟨chC bn1 br1 bb1 bd1 sd1⟩ 232 (0,0))::(bc2,.cells ⟨chC bn2 br2 bb2 bd2 sd2⟩ 232 (0,0))::(br0,.cells ⟨ringC (cli 0) s p0 q0⟩ 236 (0,0))::(br1,.cells ⟨ringC (cli 1) s1 p1 q1⟩ 236 (0,0))::(br2,.cells ⟨ringC (cli 2) s2 p2 q2⟩ 236 (0,0))::(DrpL bd0 (dr0 0)++(DrpL bd1 (dr1 0 0)++(DrpL bd2 (dr0 0)++(B1 bb1 bm1 blk (cli 0) (stE 0 (some ⟨kb,0,none⟩) 0)++(KL kb ovg (senderI s 6)++(blkL 22 ova (fl (PkR.v s) y)++PksL s al))))))) ?_ ?_
    · generalize DrpL bd0 (dr0 0)=D0
      generalize DrpL bd1 (dr1 0 0)=D1
      generalize DrpL bd2 (dr0 0)=D2
      generalize B1 bb1 bm1 blk (cli 0) (stE 0 (some ⟨kb,0,none⟩) 0)=BE
      generalize KL kb ovg (senderI s 6)=KG
      generalize PksL s al=PL
      by_cases hn0:n=0
      · subst hn0
        have e0:ova=none ∨ ∃ bq jq kq,ova=some (bq,jq,kq):=by cases ova with|none=>exact .inl rfl|some q=>exact .inr ⟨_,_,_,rfl⟩
        rcases e0 with rfl|⟨bq,jq,kq,rfl⟩
        all_goals simp only [slV,blkL]
        all_goals repeat' (first|(apply R.is1;first|(apply R.isBin;first|(apply R.pure;exact rfl;first|(apply Ok1.lss_t;exact rfl;exact rfl;omega)|(apply Ok1.gtr_f;exact rfl;exact rfl;omega))|(apply R.lss rfl rfl rfl<;>intro))|(apply R.isCall;(apply R.pure;exact rfl;(apply Ok1.lenS;(iterate 3 exact rfl))))|(apply R.pure;exact rfl;first|(apply Ok1.move;exact rfl)|(apply Ok1.assign;exact rfl)|(apply Ok1.pick_t;exact rfl;exact rfl)|(apply Ok1.pick_f;exact rfl;exact rfl)))|(apply R.isG;first|(apply R.guard_run;exact rfl;exact rfl)|(apply R.guard_not;(iterate 3 exact rfl)))|apply R.nil|(apply T.is;first|apply T.rounds 1|apply T.seq|apply T.region|apply T.block|apply T.exit|(apply T.cond_f;exact rfl)))
        all_goals skip
        all_goals exact ⟨al,List.Perm.refl _,⟨rfl,rfl,rfl,trivial⟩,by (try simp only [blkL_sM,blkL_nM,List.cons_append,List.nil_append]);(focus (repeat' first|exact Ext.one _ _|exact Ext.here _ _|exact Ext.all _|apply Keep.cons|apply Keep.app|apply Keep.last);done)⟩
      · obtain ⟨bq,jq,kq,rfl⟩:∃ bq jq kq,ova=some (bq,jq,kq):=by cases ova with|none=>exact absurd hov.2 hn0|some q=>exact ⟨_,_,_,rfl⟩
        simp only [slV,blkL]
        repeat' (first|(apply R.is1;(apply R.pure;exact rfl;(apply Ok1.assign;exact rfl)))|apply R.nil|(apply T.is;first|apply T.seq|apply T.region|apply T.block))
        apply T.loopK (α:=Nat × List PkR) (I:=fun y=>y.1≤os.length∧y.2.Perm al) (σi:=fun y=>[(2,.slice po os.length co),(8,.pointer (some ⟨b8,0,none⟩)),(14,.pointer (some ⟨b14,0,none⟩)),(18,.slice (some ⟨bq,0,none⟩) n (n+jq)),(22,.int .i64 y.1)]) (Li:=fun y=>(b8,.cells ⟨[.pointer (some ⟨bc0,0,none⟩),.pointer (some ⟨bc1,0,none⟩),.pointer (some ⟨bc2,0,none⟩)]⟩ 95 (0,0))::(b14,.cells ⟨[.int .i64 5,.int .i64 0,.int .i64 100,.int .i64 1]⟩ 97 (0,0))::(bc0,.cells ⟨chC bn0 br0 bb0 bd0 sd0⟩ 232 (0,0))::(bc1,.cells ⟨chC bn1 br1 bb1 bd1 sd1⟩ 232 (0,0))::(bc2,.cells ⟨chC bn2 br2 bb2 bd2 sd2⟩ 232 (0,0))::(br0,.cells ⟨ringC (cli 0) s p0 q0⟩ 236 (0,0))::(br1,.cells ⟨ringC (cli 1) s1 p1 q1⟩ 236 (0,0))::(br2,.cells ⟨ringC (cli 2) s2 p2 q2⟩ 236 (0,0))::(D0++(D1++(D2++(BE++(KG++((bq,.cells ⟨fl (PkR.v s) y.2++kq⟩ 22 (0,0))::PL))))))) (μ:=fun y=>os.length - y.1) (i0:=(0,al))
        · exact ⟨Nat.zero_le _,List.Perm.refl _⟩
        · exact ⟨rfl,rfl,rfl,rfl,rfl,trivial⟩
        · (focus (repeat' first|exact Ext.one _ _|exact Ext.here _ _|exact Ext.all _|apply Keep.cons|apply Keep.app|apply Keep.last);done)
        rintro ⟨i,l⟩ ⟨hi,hp⟩
        simp only at hi hp ⊢
        have hll:l.length=n:=by rw [hp.length_eq,hal]
        by_cases hlt:i < os.length∧i < 20
        case neg =>
          repeat' (first|(apply R.is1;first|(apply R.isBin;first|(apply R.pure;exact rfl;(apply Ok1.lss_f;exact rfl;exact rfl;omega))|(apply R.lss rfl rfl rfl<;>intro))|(apply R.isCall;(apply R.pure;exact rfl;(apply Ok1.lenS;(iterate 3 exact rfl))))|(apply R.pure;exact rfl;first|(apply Ok1.move;exact rfl)|(apply Ok1.pick_t;exact rfl;exact rfl)|(apply Ok1.pick_f;exact rfl;exact rfl)))|(apply R.isG;first|(apply R.guard_run;exact rfl;exact rfl)|(apply R.guard_not;(iterate 3 exact rfl)))|apply R.nil|(apply T.is;first|apply T.seq|apply T.region|apply T.exit|(apply T.cond_f;exact rfl)))
          all_goals skip
          all_goals exact ⟨l,hp,⟨rfl,rfl,rfl,trivial⟩,by simp only [blkL_sM,List.cons_append,List.nil_append];(focus (repeat' first|exact Ext.one _ _|exact Ext.here _ _|exact Ext.all _|apply Keep.cons|apply Keep.app|apply Keep.last);done)⟩
        obtain ⟨hlt1,hlt2⟩:=hlt
        obtain ⟨x,hx⟩:∃ x,os[i]? = some x:=⟨_,List.getElem?_eq_getElem hlt1⟩
        obtain ⟨b,o,hpe,H⟩:=ho.at hx
        replace H:=H 1 iV_len
        obtain ⟨hu0,hu1⟩:=u64_rangeM x
        obtain ⟨a,ha⟩:∃ a:Nat,(i:Int) % (n:Int)=a:=⟨((i:Int) % (n:Int)).toNat,by have:=Int.emod_nonneg (i:Int) (b:=(n:Int)) (by omega);omega⟩
        have ha1:a < n:=by have:=Int.emod_lt_of_pos (i:Int) (b:=(n:Int)) (by omega);omega
        obtain ⟨c,hc⟩:∃ c:Nat,IntKind.u64.wrap x % (n:Int)=c:=⟨(IntKind.u64.wrap x % (n:Int)).toNat,by have:=Int.emod_nonneg (IntKind.u64.wrap x) (b:=(n:Int)) (by omega);omega⟩
        have hc1:c < n:=by have:=Int.emod_lt_of_pos (IntKind.u64.wrap x) (b:=(n:Int)) (by omega);omega
        obtain ⟨ya,hya⟩:∃ y,l[a]? = some y:=⟨_,List.getElem?_eq_getElem (by omega)⟩
        obtain ⟨yc,hyc⟩:∃ y,l[c]? = some y:=⟨_,List.getElem?_eq_getElem (by omega)⟩
        have st1:=setE_row (v:=PkR.v s) (sz:=1) (PkR.v_len s) (l:=l) (i:=a) (by omega) yc kq
        have st2:=setE_row (v:=PkR.v s) (sz:=1) (PkR.v_len s) (l:=l.set a yc) (i:=c) (by rw [List.length_set];omega) ya kq
        have hpm:((l.set a yc).set c ya).Perm l:=by
          obtain ⟨h1,rfl⟩:=List.getElem?_eq_some_iff.1 hya
          obtain ⟨h2,rfl⟩:=List.getElem?_eq_some_iff.1 hyc
          exact List.set_set_perm h1 h2
        simp only [PkR.v] at st1 st2
        repeat' (first|(apply R.is1;first|(apply R.isBin;(apply R.pure;exact rfl;first|(apply Ok1.lss_t;exact rfl;exact rfl;omega)|(apply Ok1.gtr_t;exact rfl;exact rfl;omega)))|(apply R.isCall;(apply R.pure;exact rfl;(apply Ok1.lenS;(iterate 3 exact rfl))))|(apply R.pure;exact rfl;first|(apply Ok1.move;exact rfl)|(apply Ok1.pick_t;exact rfl;exact rfl)))|(apply R.isG;(apply R.guard_run;exact rfl;exact rfl))|apply R.nil|(apply T.is;first|(apply T.drawC (id:=29) [] (by decide);((apply A.tk 0;exact rfl;kernel_rfl;(apply Ok1.move;exact rfl))<;>(apply A.tk 1;exact rfl;kernel_rfl;(apply Ok1.move;exact rfl))<;>(apply A.tk 2;exact rfl;kernel_rfl;(apply Ok1.lenS;(iterate 3 exact rfl)))<;>(apply A.tk 3;exact rfl;kernel_rfl;(apply Ok1.remM;exact rfl;exact rfl;omega;omega;exact ha))<;>(apply A.tk 4;exact rfl;kernel_rfl;(apply Ok1.move;exact rfl))<;>(apply A.tk 5;exact rfl;kernel_rfl;(apply Ok1.move;exact rfl))<;>(apply A.tk 6;exact rfl;kernel_rfl;(apply Ok1.indexAddrP;(iterate 4 exact rfl);exact hpe;exact rfl;omega;omega))<;>(apply A.tk 7;exact rfl;kernel_rfl;(apply Ok1.load;exact rfl;(apply Ld.row0 H;exact rfl;exact List.not_mem_nil;(iterate 3 exact rfl))))<;>(apply A.tk 8;exact rfl;kernel_rfl;(apply Ok1.conv;(iterate 5 exact rfl)))<;>(apply A.tk 9;exact rfl;kernel_rfl;(apply Ok1.move;exact rfl))<;>(apply A.tk 10;exact rfl;kernel_rfl;(apply Ok1.lenS;(iterate 3 exact rfl)))<;>(apply A.tk 11;exact rfl;kernel_rfl;(apply Ok1.convU64;(iterate 5 exact rfl);omega;omega))<;>(apply A.tk 12;exact rfl;kernel_rfl;(apply Ok1.remM;exact rfl;exact rfl;omega;omega;exact hc))<;>(apply A.tk 13;exact rfl;kernel_rfl;(apply Ok1.convI64;(iterate 5 exact rfl);omega;omega))<;>(apply A.tk 14;exact rfl;kernel_rfl;(apply Ok1.assign;exact rfl))<;>(apply A.tk 15;exact rfl;kernel_rfl;(apply Ok1.assign;exact rfl))<;>(apply A.done;kernel_rfl)))|apply T.seq|apply T.region|apply T.block|apply T.skip|(apply T.cond_t;exact rfl)))
        refine T.weakK (σ':=[(2,.slice po os.length co),(8,.pointer (some ⟨b8,0,none⟩)),(14,.pointer (some ⟨b14,0,none⟩)),(18,.slice (some ⟨bq,0,none⟩) n (n+jq)),(22,.int .i64 i),(23,.int .i64 a),(24,.int .i64 c)]) (L':=(bq,.cells ⟨fl (PkR.v s) l++kq⟩ 22 (0,0))::(b8,.cells ⟨[.pointer (some ⟨bc0,0,none⟩),.pointer (some ⟨bc1,0,none⟩),.pointer (some ⟨bc2,0,none⟩)]⟩ 95 (0,0))::(b14,.cells ⟨[.int .i64 5,.int .i64 0,.int .i64 100,.int .i64 1]⟩ 97 (0,0))::(bc0,.cells ⟨chC bn0 br0 bb0 bd0 sd0⟩ 232 (0,0))::(bc1,.cells ⟨chC bn1 br1 bb1 bd1 sd1⟩ 232 (0,0))::(bc2,.cells ⟨chC bn2 br2 bb2 bd2 sd2⟩ 232 (0,0))::(br0,.cells ⟨ringC (cli 0) s p0 q0⟩ 236 (0,0))::(br1,.cells ⟨ringC (cli 1) s1 p1 q1⟩ 236 (0,0))::(br2,.cells ⟨ringC (cli 2) s2 p2 q2⟩ 236 (0,0))::(D0++(D1++(D2++(BE++(KG++PL)))))) ?_ (by (focus (repeat' first|exact Ext.one _ _|exact Ext.here _ _|exact Ext.all _|apply Keep.cons|apply Keep.app|apply Keep.last|apply Ext.cons|apply Ext.app);done)) ⟨rfl,rfl,rfl,rfl,rfl,rfl,rfl,trivial⟩
        repeat' (first|(apply R.is1;first|(apply R.isBin;(apply R.pure;exact rfl;(apply Ok1.add64;exact rfl;exact rfl;omega;omega)))|(apply R.pure;exact rfl;first|(apply Ok1.move;exact rfl)|(apply Ok1.assign;exact rfl)))|apply R.nil|(apply T.is;first|(apply T.drawC (id:=30) [] (by decide);((apply A.tk 0;exact rfl;kernel_rfl;(apply Ok1.move;exact rfl))<;>(apply A.tk 1;exact rfl;kernel_rfl;(apply Ok1.move;exact rfl))<;>(apply A.tk 2;exact rfl;kernel_rfl;(apply Ok1.move;exact rfl))<;>(apply A.tk 3;exact rfl;kernel_rfl;(apply Ok1.move;exact rfl))<;>(apply A.tk 4;exact rfl;kernel_rfl;(apply Ok1.move;exact rfl))<;>(apply A.tk 5;exact rfl;kernel_rfl;(apply Ok1.move;exact rfl))<;>(apply A.tk 6;exact rfl;kernel_rfl;(apply Ok1.indexAddr;(iterate 5 exact rfl);omega;omega))<;>(apply A.tk 8;exact rfl;kernel_rfl;(apply Ok1.move;exact rfl))<;>(apply A.tk 9;exact rfl;kernel_rfl;(apply Ok1.move;exact rfl))<;>(apply A.tk 10;exact rfl;kernel_rfl;(apply Ok1.indexAddr;(iterate 5 exact rfl);omega;omega))<;>(apply A.two 7 11;kernel_rfl;exact rfl;exact rfl;rotate_left 1;(focus (((((apply R.pure;exact rfl;(apply Ok1.load;exact rfl;(apply Ld.ownrow1 (f:=0);exact At.head;exact PkR.v_len s;exact hya;(focus ((simp;done)));(iterate 3 exact rfl))))));apply R.nil;refine ⟨?_,?_⟩;(focus ((repeat' (exact trivial)))))<;>(apply A.one 7;kernel_rfl;exact rfl;(((apply R.pure;exact rfl;(apply Ok1.load;exact rfl;(apply Ld.ownrow1 (f:=0);exact At.head;exact PkR.v_len s;exact hyc;(focus ((simp;done)));(iterate 3 exact rfl))))));apply R.nil;refine ⟨?_,?_⟩;(focus ((repeat' (exact trivial)))))<;>(apply A.tk 12;exact rfl;kernel_rfl;(apply Ok1.indexAddr;(iterate 5 exact rfl);omega;omega))<;>(apply A.one 13;kernel_rfl;exact rfl;(((apply R.store;(iterate 6 exact rfl);exact Upd.head;exact st1)));apply R.nil;refine ⟨?_,?_⟩;(focus ((repeat' (exact trivial)))))<;>(apply A.tk 14;exact rfl;kernel_rfl;(apply Ok1.indexAddr;(iterate 5 exact rfl);omega;omega))<;>(apply A.one 15;kernel_rfl;exact rfl;(((apply R.store;(iterate 6 exact rfl);exact Upd.head;exact st2)));apply R.nil;refine ⟨?_,?_⟩;(focus ((repeat' (exact trivial)))))<;>(apply A.done;kernel_rfl)));rotate_right 1;(focus (((((apply R.pure;exact rfl;(apply Ok1.load;exact rfl;(apply Ld.ownrow1 (f:=0);exact At.head;exact PkR.v_len s;exact hyc;(focus ((simp;done)));(iterate 3 exact rfl))))));apply R.nil;refine ⟨?_,?_⟩;(focus ((repeat' (exact trivial)))))<;>(apply A.one 11;kernel_rfl;exact rfl;(((apply R.pure;exact rfl;(apply Ok1.load;exact rfl;(apply Ld.ownrow1 (f:=0);exact At.head;exact PkR.v_len s;exact hya;(focus ((simp;done)));(iterate 3 exact rfl))))));apply R.nil;refine ⟨?_,?_⟩;(focus ((repeat' (exact trivial)))))<;>(apply A.tk 12;exact rfl;kernel_rfl;(apply Ok1.indexAddr;(iterate 5 exact rfl);omega;omega))<;>(apply A.one 13;kernel_rfl;exact rfl;(((apply R.store;(iterate 6 exact rfl);exact Upd.head;exact st1)));apply R.nil;refine ⟨?_,?_⟩;(focus ((repeat' (exact trivial)))))<;>(apply A.tk 14;exact rfl;kernel_rfl;(apply Ok1.indexAddr;(iterate 5 exact rfl);omega;omega))<;>(apply A.one 15;kernel_rfl;exact rfl;(((apply R.store;(iterate 6 exact rfl);exact Upd.head;exact st2)));apply R.nil;refine ⟨?_,?_⟩;(focus ((repeat' (exact trivial)))))<;>(apply A.done;kernel_rfl))))))|apply T.region))
        all_goals exact ⟨(i+1,(l.set a yc).set c ya),⟨hlt1,hpm.trans hp⟩,by simp only;omega,⟨rfl,rfl,rfl,rfl,rfl,trivial⟩,by (focus (repeat' first|exact Ext.one _ _|exact Ext.here _ _|exact Ext.all _|apply Keep.cons|apply Keep.app|apply Keep.last|apply Ext.cons);done)⟩
    · intro l hp
      have hok2:∀ x∈l,x.ok s:=fun x hx=>hok x (hp.subset hx)
      have hnd2:(l.map PkR.j).Nodup:=(hp.map PkR.j).nodup_iff.2 hnd
      have hll:l.length=n:=by rw [hp.length_eq,hal]
      have hov2:OvOk 1 ova n (fl (PkR.v s) l):=by
        obtain ⟨h1,h2⟩:=hov
        exact ⟨by rw [fl_len (PkR.v_len s),hll],h2⟩
      have hPm:∀ x∈l,∀ z∈x.L s,z∈PksL s al:=fun x hx=>mem_PksL (hp.subset hx)
      exact meets_read w b8 b14 bc0 bc1 bc2 bn0 bn1 bn2 br0 br1 br2 bb0 bb1 bb2 bd0 bd1 bd2 sd0 sd1 sd2 p0 q0 p1 q1 p2 q2 bm1 blk kb ovg s s1 s2 hsl hsb hs1 hs2 hovg n hn8 ova l hll hov2 hok2 hnd2 _ hPm
end
end Go.Proofs.YtolnagbahceebaaGreat
