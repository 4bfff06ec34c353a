/- Texts of the proof: Nd4, Nd5, Nd6, Nd7, Vk1, Vk2, Nt1, Nt2, Nt0, Nt3, Lcj, Lno. -/
import Derived.Test.YtcfdgnajepilbaaGreatL28tb5
import Derived.JoinedOf
set_option linter.unusedSimpArgs false
set_option linter.unusedVariables false
namespace Go.Proofs.YtcfdgnajepilbaaGreat
open Go.RowKit Go.Shelf
set_option maxRecDepth 100000
theorem empty9_ok (x:NI) (o:Value) (ho:o.oneCell'=true) (now:Int) (w:World):CallM Tryz.prog 39 [.pointer (some ⟨x.bN,1,none⟩)] [x.N o now] w fun v L=>v=o∧L=[x.N (.slice none 0 0) now]:=by
  refine enterK (tb:=tb) Tryz.func39 rfl Tryz.ntmps39 rfl ?_
  unfold NI.N NI.cs
  repeat' (first|(apply R.is1;(apply R.pure;exact rfl;first|(apply Ok1.move;exact rfl)|(apply Ok1.fieldAddr;(iterate 5 exact rfl))|(apply Ok1.load;exact rfl;(apply Ld.own1;exact rfl;exact rfl;exact At.head;exact rfl))|(apply Ok1.assign;exact rfl)|(apply Ok1.nilCheck;exact rfl)))|(apply R.is0;(apply R.store;(iterate 6 exact rfl);exact Upd.head;exact rfl))|apply R.nil|(apply T.is;first|apply T.seq|apply T.region|apply T.ret))
  (apply RetOk.t;exact rfl)
  exact ⟨_,by (focus (repeat' first|exact Keep.nil _|exact Ext.one _ _|apply Keep.cons);done),rfl,rfl⟩
/-- A letter's cells. -/
def ltV (z:Int × Value):List Value:=[.int .i64 z.1,z.2]
theorem post9_ok (x:NI) (now:Int) (p:Option Addr) (n cap:Nat) (xs:List Int) (hn:n=xs.length) (hbig:n≤1000) (q:Option Addr) (a:Int) (w:World) (hp:RdSl w p u8V xs) (hpo:xs≠[]→Off p [x.bN]) (hq:RdSl w q iV [a]) (hqo:Off q [x.bN]) :
    CallM Tryz.prog 37 [.pointer (some ⟨x.bN,1,none⟩),.slice p n cap,.slice q 1 1] [x.N (.slice none 0 0) now] w fun v L=>∃ ov ob j junk,OvOk 1 ov n (u8s xs)∧junk.length=j * 2∧L=x.N (.slice (some ⟨ob,0,none⟩) 1 (1+j)) now::(ob,.cells ⟨[.int .i64 a,.slice (ovp ov) n (ovc ov n)]++junk⟩ 53 (0,0))::blkL 5 ov (u8s xs):=by
  subst hn
  obtain ⟨bq,oq,hqe,H⟩:=hq.at (i:=0) rfl
  replace H:=H 1 iV_len
  have hS:bq ∉ blks [x.N (.slice none 0 0) now]:=hqo _ hqe
  have hcl:=fun w1 (h:Chg (blks [x.N (.slice none 0 0) now]) w w1)=>bclone_ok p xs.length cap xs rfl (by omega) w1 (hp.chg' h hpo)
  refine enterK (tb:=tb) Tryz.func37 rfl Tryz.ntmps37 rfl ?_
  unfold NI.N NI.cs at *
  repeat' (first|(apply R.is1;first|(apply R.isBin;(apply R.pure;exact rfl;first|(apply Ok1.add64;exact rfl;exact rfl;omega;omega)|(apply Ok1.lss_t;exact rfl;exact rfl;omega)|(apply Ok1.lss_f;exact rfl;exact rfl;omega)))|(apply R.isCall;(apply R.pure;exact rfl;(apply Ok1.lenS;(iterate 3 exact rfl))))|(apply R.pure;exact rfl;first|(apply Ok1.indexAddrP;(iterate 4 exact rfl);exact hqe;exact rfl;omega;omega)|(apply Ok1.load;exact rfl;(apply Ld.row0 H;exact rfl;exact hS;(iterate 3 exact rfl)))|(apply Ok1.move;exact rfl)|(apply Ok1.assign;exact rfl)))|apply R.nil|(apply T.is;first|apply T.rounds 2|(apply T.drawC (id:=3) [] (by decide);((apply A.tk 0;exact rfl;kernel_rfl;(apply Ok1.move;exact rfl))<;>(apply A.tk 1;exact rfl;kernel_rfl;(apply Ok1.move;exact rfl))<;>(apply A.tk 2;exact rfl;kernel_rfl;(apply Ok1.nilCheck;exact rfl))<;>(apply A.tk 3;exact rfl;kernel_rfl;(apply Ok1.fieldAddr;(iterate 5 exact rfl)))<;>(apply A.tk 5;exact rfl;kernel_rfl;(apply Ok1.move;exact rfl))<;>(apply A.tk 6;exact rfl;kernel_rfl;(apply Ok1.move;exact rfl))<;>(apply A.two 4 7;kernel_rfl;exact rfl;exact rfl;rotate_left 1;(focus (((((apply R.callE (vs:=[.slice p xs.length cap]);(iterate 3 exact rfl);exact Ext.none _;intro w1 hw1;exact hcl w1 hw1.chg;rintro v Lo ⟨ov,hov,rfl,hUB⟩;rw [slV_eq hov])));apply R.nil;refine ⟨?_,?_⟩;(focus ((repeat' (exact trivial)))))<;>(apply A.tk 8;exact rfl;kernel_rfl;(apply Ok1.build;(iterate 5 exact rfl)))<;>(apply A.two 4 9;kernel_rfl;exact rfl;exact rfl;rotate_left 1;(focus (((((apply R.buildSlice;(iterate 12 exact rfl);intro)));apply R.nil;refine ⟨?_,?_⟩;(focus ((repeat' (exact trivial)))))<;>(apply A.one 4;kernel_rfl;exact rfl;(((apply R.pure;exact rfl;(apply Ok1.load;exact rfl;(apply Ld.own1;exact rfl;exact rfl;(focus (repeat' first|exact At.head|apply At.tail|apply At.right);done);exact rfl)))));apply R.nil;refine ⟨?_,?_⟩;(focus ((repeat' (exact trivial)))))<;>(apply A.one 10;kernel_rfl;exact rfl;(((apply R.append1;(iterate 12 exact rfl);(focus ((repeat' (exact OwnAt.nil _));done));exact At.head;exact rfl;exact rfl;omega;omega;intro b2 j2 k2 hj2)));apply R.nil;refine ⟨?_,?_⟩;(focus ((repeat' (exact trivial)))))<;>(apply A.tk 11;exact rfl;kernel_rfl;(apply Ok1.nilCheck;exact rfl))<;>(apply A.tk 12;exact rfl;kernel_rfl;(apply Ok1.fieldAddr;(iterate 5 exact rfl)))<;>(apply A.one 13;kernel_rfl;exact rfl;(((apply R.store;(iterate 6 exact rfl);(focus (repeat' first|exact Upd.head|apply Upd.tail|apply Upd.right);done);exact rfl)));apply R.nil;refine ⟨?_,?_⟩;(focus ((repeat' (exact trivial)))))<;>(apply A.done;kernel_rfl)));rotate_right 1;(focus (((((apply R.pure;exact rfl;(apply Ok1.load;exact rfl;(apply Ld.own1;exact rfl;exact rfl;(focus (repeat' first|exact At.head|apply At.right);done);exact rfl)))));apply R.nil;refine ⟨?_,?_⟩;(focus ((repeat' (exact trivial)))))<;>(apply A.one 9;kernel_rfl;exact rfl;(((apply R.buildSlice;(iterate 12 exact rfl);intro)));apply R.nil;refine ⟨?_,?_⟩;(focus ((repeat' (exact trivial)))))<;>(apply A.one 10;kernel_rfl;exact rfl;(((apply R.append1;(iterate 12 exact rfl);(focus ((repeat' (exact OwnAt.nil _));done));exact At.head;exact rfl;exact rfl;omega;omega;intro b2 j2 k2 hj2)));apply R.nil;refine ⟨?_,?_⟩;(focus ((repeat' (exact trivial)))))<;>(apply A.tk 11;exact rfl;kernel_rfl;(apply Ok1.nilCheck;exact rfl))<;>(apply A.tk 12;exact rfl;kernel_rfl;(apply Ok1.fieldAddr;(iterate 5 exact rfl)))<;>(apply A.one 13;kernel_rfl;exact rfl;(((apply R.store;(iterate 6 exact rfl);(focus (repeat' first|exact Upd.head|apply Upd.tail|apply Upd.right);done);exact rfl)));apply R.nil;refine ⟨?_,?_⟩;(focus ((repeat' (exact trivial)))))<;>(apply A.done;kernel_rfl))))));rotate_right 1;(focus (((((apply R.pure;exact rfl;(apply Ok1.load;exact rfl;(apply Ld.own1;exact rfl;exact rfl;exact At.head;exact rfl)))));apply R.nil;refine ⟨?_,?_⟩;(focus ((repeat' (exact trivial)))))<;>(apply A.one 7;kernel_rfl;exact rfl;(((apply R.callE (vs:=[.slice p xs.length cap]);(iterate 3 exact rfl);exact Ext.none _;intro w1 hw1;exact hcl w1 hw1.chg;rintro v Lo ⟨ov,hov,rfl,hUB⟩;rw [slV_eq hov])));apply R.nil;refine ⟨?_,?_⟩;(focus ((repeat' (exact trivial)))))<;>(apply A.tk 8;exact rfl;kernel_rfl;(apply Ok1.build;(iterate 5 exact rfl)))<;>(apply A.one 9;kernel_rfl;exact rfl;(((apply R.buildSlice;(iterate 12 exact rfl);intro)));apply R.nil;refine ⟨?_,?_⟩;(focus ((repeat' (exact trivial)))))<;>(apply A.one 10;kernel_rfl;exact rfl;(((apply R.append1;(iterate 12 exact rfl);(focus ((repeat' (exact OwnAt.nil _));done));exact At.head;exact rfl;exact rfl;omega;omega;intro b2 j2 k2 hj2)));apply R.nil;refine ⟨?_,?_⟩;(focus ((repeat' (exact trivial)))))<;>(apply A.tk 11;exact rfl;kernel_rfl;(apply Ok1.nilCheck;exact rfl))<;>(apply A.tk 12;exact rfl;kernel_rfl;(apply Ok1.fieldAddr;(iterate 5 exact rfl)))<;>(apply A.one 13;kernel_rfl;exact rfl;(((apply R.store;(iterate 6 exact rfl);(focus (repeat' first|exact Upd.head|apply Upd.tail|apply Upd.right);done);exact rfl)));apply R.nil;refine ⟨?_,?_⟩;(focus ((repeat' (exact trivial)))))<;>(apply A.done;kernel_rfl))))))|apply T.seq|apply T.region|apply T.block|apply T.skip|apply T.exit|(apply T.cond_t;exact rfl)|(apply T.cond_f;exact rfl)))
  all_goals (apply RetOk.n)
  all_goals exact ⟨_,by rw [hUB];simp only [List.nil_append,List.cons_append];(focus (repeat' first|exact Ext.one _ _|exact Ext.here _ _|apply Keep.cons|apply Keep.last|apply Ext.cons|apply Ext.app);done),ov,b2,j2,k2,hov,hj2,rfl⟩
section
variable (x:NI) (o:Value) (now:Int) (w:World) {e0:TypeId} {f0:Nat × Nat} (hN:w.heap[x.bN]? = some (.cells ⟨x.cs o now⟩ e0 f0))
include hN
theorem nnow_ok:CallW Tryz.prog 9 [.pointer (some ⟨x.bN,0,none⟩)] w fun v _=>v = .int .i64 now:=by
  unfold NI.cs at hN
  refine enterW (tb:=tb) Tryz.func9 rfl Tryz.ntmps9 rfl ?_
  repeat' (first|(apply R.is1;first|(apply R.isBin;(apply R.pure;exact rfl;(apply Ok1.eqlP;(iterate 5 exact rfl))))|(apply R.pure;exact rfl;first|(apply Ok1.load;exact rfl;(apply Ld.blk1;exact rfl;exact rfl;exact hN;exact List.not_mem_nil;exact rfl))|(apply Ok1.move;exact rfl)|(apply Ok1.fieldAddr;(iterate 5 exact rfl))|(apply Ok1.assign;exact rfl)|(apply Ok1.nilCheck;exact rfl)))|apply R.nil|(apply T.is;first|apply T.seq|apply T.region|apply T.skip|apply T.ret|(apply T.cond_f;exact rfl)))
  (apply RetOk.t;exact rfl)
  rfl
theorem nown_ok (hs:x.s.length=32) (hC:w.heap[x.bc]? = some x.C.2) (hR:w.heap[x.br]? = some x.R.2):CallW Tryz.prog 8 [.pointer (some ⟨x.bN,0,none⟩)] w fun v _=>v=kvC x.c:=by
  have htc:subE (tkC x.c x.s) 0 4=some [.int .i64 x.c.id,.int .i64 x.c.roles,.int .i64 x.c.exp,.int .i64 x.c.ser]:=tk_cl x.c x.s
  have hrg:=fun w1 (h:Chg [] w w1)=>chring9_ok x.bc w1 (h.heap hC List.not_mem_nil)
  have how:=fun w1 (h:Chg [] w w1)=>rown_ok7 x.br x.c x.s hs x.m1 x.m2 _ w1 (h.heap hR List.not_mem_nil)
  unfold NI.cs at hN
  refine enterW (tb:=tb) Tryz.func8 rfl Tryz.ntmps8 rfl ?_
  simp only [kvC]
  repeat' (first|(apply R.is1;first|(apply R.isBin;(apply R.pure;exact rfl;(apply Ok1.eqlP;(iterate 5 exact rfl))))|(apply R.isCall;first|(apply R.callV (vs:=[.pointer (some ⟨x.bc,0,none⟩)]);(iterate 3 exact rfl);intro w1 hw1;exact hrg w1 hw1.chg)|(apply R.callV (vs:=[.pointer (some ⟨x.br,0,none⟩)]);(iterate 3 exact rfl);intro w1 hw1;exact how w1 hw1.chg))|(apply R.pure;exact rfl;first|(apply Ok1.load;exact rfl;(apply Ld.blk1;exact rfl;exact rfl;exact hN;exact List.not_mem_nil;exact rfl))|(apply Ok1.fieldk;(iterate 6 exact rfl);exact htc)|(apply Ok1.move;exact rfl)|(apply Ok1.fieldAddr;(iterate 5 exact rfl))|(apply Ok1.nilCheck;exact rfl))|(apply R.alloc;(iterate 3 exact rfl);intro))|(apply R.is0;(apply R.store;(iterate 6 exact rfl);exact Upd.head;exact rfl))|apply R.nil|(apply T.is;first|apply T.seq|apply T.region|apply T.skip|apply T.ret|(apply T.cond_f;exact rfl)))
  (apply RetOk.c;exact rfl;(apply Ld.ownk;exact rfl;exact rfl;exact At.head;exact rfl))
  rfl
section
variable (bj bc:Nat) (t:NST) (hj:x.bj=bj)
theorem nin_ok (st sd la:Int) (hst:st≠3) (hJ:w.heap[x.bj]? = some (JN x.bj x.bc x.S st sd la none 0 0).2):CallW Tryz.prog 41 [.pointer (some ⟨x.bN,0,none⟩)] w fun v _=>v = .bool false:=by
  have hst9:=fun w1 (h:Chg [] w w1)=>jstate_ok x.bj x.bc x.S st sd la none 0 0 w1 ⟨_,_,h.heap hJ List.not_mem_nil⟩
  unfold NI.cs at hN
  refine enterW (tb:=tb) Tryz.func41 rfl Tryz.ntmps41 rfl ?_
  repeat' (first|(apply R.is1;first|(apply R.isBin;(apply R.pure;exact rfl;(apply Ok1.eql_f;exact rfl;exact rfl;omega)))|(apply R.isCall;(apply R.callV (vs:=[.pointer (some ⟨x.bj,0,none⟩)]);(iterate 3 exact rfl);intro w1 hw1;exact hst9 w1 hw1.chg))|(apply R.pure;exact rfl;first|(apply Ok1.load;exact rfl;(apply Ld.blk1;exact rfl;exact rfl;exact hN;exact List.not_mem_nil;exact rfl))|(apply Ok1.move;exact rfl)|(apply Ok1.fieldAddr;(iterate 5 exact rfl))|(apply Ok1.assign;exact rfl)|(apply Ok1.nilCheck;exact rfl)))|apply R.nil|(apply T.is;first|apply T.seq|apply T.region|apply T.ret))
  all_goals skip
  (apply RetOk.t;exact rfl)
  rfl
theorem nseat_ok (st sd la:Int) (h0:0≤sd) (h1:sd≤3) (hJ:w.heap[x.bj]? = some (JN x.bj x.bc x.S st sd la none 0 0).2):CallW Tryz.prog 38 [.pointer (some ⟨x.bN,0,none⟩)] w fun v _=>v = .int .i64 (65536+sd):=by
  have hst9:=fun w1 (h:Chg [] w w1)=>jseed_ok x.bj x.bc x.S st sd la none 0 0 w1 ⟨_,_,h.heap hJ List.not_mem_nil⟩
  unfold NI.cs at hN
  refine enterW (tb:=tb) Tryz.func38 rfl Tryz.ntmps38 rfl ?_
  repeat' (first|(apply R.is1;first|(apply R.isBin;(apply R.pure;exact rfl;(apply Ok1.add64;exact rfl;exact rfl;omega;omega)))|(apply R.isCall;(apply R.callV (vs:=[.pointer (some ⟨x.bj,0,none⟩)]);(iterate 3 exact rfl);intro w1 hw1;exact hst9 w1 hw1.chg))|(apply R.pure;exact rfl;first|(apply Ok1.load;exact rfl;(apply Ld.blk1;exact rfl;exact rfl;exact hN;exact List.not_mem_nil;exact rfl))|(apply Ok1.move;exact rfl)|(apply Ok1.fieldAddr;(iterate 5 exact rfl))|(apply Ok1.assign;exact rfl)|(apply Ok1.nilCheck;exact rfl)))|apply R.nil|(apply T.is;first|apply T.seq|apply T.region|apply T.ret))
  (apply RetOk.t;exact rfl)
  rfl
end
end
end Go.Proofs.YtcfdgnajepilbaaGreat
set_option linter.unusedSimpArgs false
set_option linter.unusedVariables false
namespace Go.Proofs.YtcfdgnajepilbaaGreat
open Go.RowKit Go.Shelf Go.Sort
set_option maxRecDepth 100000
theorem nsweep_ok (x:NI) (hx:x.ok) (now:Int) (w:World):CallM Tryz.prog 33 [.pointer (some ⟨x.bN,0,none⟩)] (x.N (.slice none 0 0) now::x.K) w fun v L=>L=x.N (.slice none 0 0) now::x.K:=by
  have hsw:=fun q w1=>vsweep_nil x.bv x.bvm x.c now q w1
  have hkn:=fun w1=>knownB_ok x.bb x.bm [] 0 MWf.nil (by simp) w1
  have hwn:=fun w1=>wantedB_ok x.bb x.bm [] 0 MWf.nil (by simp) w1
  have hon:=fun w1=>onlyB_ok x.bb x.bm [] 0 MWf.nil (by simp) none 0 [] (by simp) w1 (.inl rfl) (fun h=>absurd rfl h)
  have hkn:∀ w1,CallM Tryz.prog 98 [.pointer (some ⟨x.bb,0,none⟩)] (BL x.bb x.bm [] 0) w1 fun v L=>∃ ov,OvOk 4 ov 0 (fl Cl.v [])∧v=slV ov 0∧L=blkL 31 ov (fl Cl.v [])++BL x.bb x.bm [] 0:=fun w1=>(hkn w1).imp fun v L ⟨ov,cs,h1,h2,h3,h4,h5⟩=>by
    have:cs=[]:=List.perm_nil.1 h1
    subst this
    exact ⟨ov,h3,h4,h5⟩
  have hwn:∀ w1,CallM Tryz.prog 99 [.pointer (some ⟨x.bb,0,none⟩)] (BL x.bb x.bm [] 0) w1 fun v L=>∃ ov,OvOk 4 ov 0 (fl Cl.v [])∧v=slV ov 0∧L=blkL 31 ov (fl Cl.v [])++BL x.bb x.bm [] 0:=fun w1=>(hwn w1).imp fun v L ⟨ov,cs,h1,h2,h3,h4,h5⟩=>by
    have:cs=[]:=List.perm_nil.1 h1
    subst this
    exact ⟨ov,h3,h4,h5⟩
  have hon:∀ w1,CallM Tryz.prog 75 [.pointer (some ⟨x.bb,0,none⟩),.slice none 0 0] (BL x.bb x.bm [] 0) w1 fun v L=>∃ ov,OvOk 4 ov 0 (fl Cl.v [])∧v=slV ov 0∧L=blkL 31 ov (fl Cl.v [])++BL x.bb x.bm [] 0:=fun w1=>(hon w1).imp fun v L ⟨ov,cs,h1,h2,h3,h4,h5⟩=>by
    have:cs=[]:=List.perm_nil.1 h1
    subst this
    exact ⟨ov,h3,h4,h5⟩
  have hfs:=fun {w1:World} {S:List Nat} {L:Lst} (hw:Hp w S L w1) (hm:∀ z∈FL x.bf x.bset x.gs none [] 0 false,z∈L)=>fset_ok x.bf x.bset x.gs hx.g none 0 0 false w1 (hw.get _ _ (hm _ (by unfold FL;exact List.mem_cons_self))) (SetR.of hx.g hw fun z hz=>hm z (by unfold FL;exact List.mem_cons_of_mem _ (List.mem_append_right _ hz)))
  have hbk:=fun {w1:World} {S:List Nat} {L:Lst} (hw:Hp w S L w1) (hm:x.C∈L)=>chbook9_ok x.bc w1 (hw.get _ _ hm)
  refine enterK (tb:=tb) Tryz.func33 rfl Tryz.ntmps33 rfl ?_
  unfold NI.K
  generalize BL x.bb x.bm [] 0=QB at *
  generalize VL x.bv x.bvm x.c [] 0=VB at *
  generalize FL x.bf x.bset x.gs none [] 0 false=FB at *
  generalize SL x.bst x.bsm [] 0=SB at *
  unfold NI.N NI.cs NI.C NI.R
  repeat' (first|(apply R.is1;first|(apply R.isBin;(apply R.pure;exact rfl;(apply Ok1.lss_f;exact rfl;exact rfl;omega)))|(apply R.pure;exact rfl;(apply Ok1.assign;exact rfl)))|apply R.nil|(apply T.is;first|apply T.rounds 1|(apply T.drawC (id:=0) [0] (by decide);((apply A.tk 0;exact rfl;kernel_rfl;(apply Ok1.move;exact rfl))<;>(apply A.tk 1;exact rfl;kernel_rfl;(apply Ok1.nilCheck;exact rfl))<;>(apply A.tk 2;exact rfl;kernel_rfl;(apply Ok1.fieldAddr;(iterate 5 exact rfl)))<;>(apply A.tk 3;exact rfl;kernel_rfl;(apply Ok1.load;exact rfl;(apply Ld.own1;exact rfl;exact rfl;exact At.head;exact rfl)))<;>(apply A.tk 4;exact rfl;kernel_rfl;(apply Ok1.move;exact rfl))<;>(apply A.tk 5;exact rfl;kernel_rfl;(apply Ok1.nilCheck;exact rfl))<;>(apply A.tk 6;exact rfl;kernel_rfl;(apply Ok1.fieldAddr;(iterate 5 exact rfl)))<;>(apply A.tk 7;exact rfl;kernel_rfl;(apply Ok1.load;exact rfl;(apply Ld.own1;exact rfl;exact rfl;exact At.head;exact rfl)))<;>(apply A.tk 8;exact rfl;kernel_rfl;(apply Ok1.move;exact rfl))<;>(apply A.tk 9;exact rfl;kernel_rfl;(apply Ok1.nilCheck;exact rfl))<;>(apply A.tk 10;exact rfl;kernel_rfl;(apply Ok1.fieldAddr;(iterate 5 exact rfl)))<;>(apply A.tk 11;exact rfl;kernel_rfl;(apply Ok1.load;exact rfl;(apply Ld.own1;exact rfl;exact rfl;exact At.head;exact rfl)))<;>(apply A.tk 15;exact rfl;kernel_rfl;(apply Ok1.move;exact rfl))<;>(apply A.one 12;kernel_rfl;exact rfl;(((apply R.callE (vs:=[.pointer (some ⟨x.bf,0,none⟩)]);(iterate 3 exact rfl);exact Ext.none _;intro w1 hw1;exact hfs hw1 (Ext.mem (by (focus (repeat' first|exact Ext.here _ _|apply Ext.cons|apply Ext.app);done)));rintro v Lo ⟨bz,gz,rfl,_,_,hLZ⟩)));apply R.nil;refine ⟨?_,?_⟩;(focus (repeat' first|exact trivial|exact At.head|apply At.right|refine ⟨?_,?_⟩)))<;>(apply A.one 13;kernel_rfl;exact rfl;(((apply R.callE (Li:=VB) (vs:=[.pointer (some ⟨x.bv,0,none⟩),.int .i64 now,.pointer _]);(iterate 3 exact rfl);(focus (repeat' first|exact Ext.here _ _|apply Ext.cons|apply Ext.app);done);intro w1 hw1;exact hsw _ w1;rintro v Lo ⟨rfl,hq⟩;rw [hq];clear hq)));apply R.nil;refine ⟨?_,?_⟩;(focus (repeat' first|exact trivial|exact At.head|apply At.right|refine ⟨?_,?_⟩)))<;>(apply A.tk 14;exact rfl;kernel_rfl;(apply Ok1.lenS;(iterate 3 exact rfl)))<;>(apply A.done;kernel_rfl)))|apply T.seq|apply T.region|apply T.block|apply T.exit|(apply T.cond_f;exact rfl)))
  refine T.weakK (σ':=[(0,.pointer (some ⟨x.bN,0,none⟩)),(4,.slice none 0 0)]) (L':=(x.bN,.cells ⟨x.cs (.slice none 0 0) now⟩ 111 (0,0))::(x.bc,.cells ⟨chC x.bn x.br x.bb x.bdr x.sd⟩ 173 (0,0))::(x.br,.cells ⟨ringC x.c x.s x.m1 x.m2⟩ 177 (0,0))::(x.m2,mobj kvR vvE [] 0)::(x.m1,mobj kvC vvE [] 0)::(QB++(FB++(VB++SB)))) ?_ (by unfold NI.cs;(focus (repeat' first|exact Ext.one _ _|exact Ext.here _ _|exact Ext.all _|apply Keep.cons|apply Keep.app|apply Keep.last|apply Ext.app);done)) ⟨rfl,rfl,trivial⟩
  unfold NI.cs
  repeat' (first|(apply R.is1;first|(apply R.isBin;(apply R.pure;exact rfl;(apply Ok1.lss_f;exact rfl;exact rfl;omega)))|(apply R.isCall;first|(apply R.callV (vs:=[.pointer (some ⟨x.bc,0,none⟩)]);(iterate 3 exact rfl);intro w1 hw1;exact hbk hw1 (At.mem (by (focus (repeat' first|exact At.head|apply At.tail|apply At.right);done))))|(apply R.callE (Li:=QB) (vs:=[.pointer (some ⟨x.bb,0,none⟩),.slice none 0 0]);(iterate 3 exact rfl);(focus (repeat' first|exact Ext.here _ _|apply Ext.app);done);intro w1 hw1;exact hon w1;rintro v Lo ⟨o4,ho4,rfl,rfl⟩;rw [slV_eq ho4,List.append_assoc])|(apply R.pure;exact rfl;(apply Ok1.lenS;(iterate 3 exact rfl))))|(apply R.pure;exact rfl;first|(apply Ok1.load;exact rfl;(apply Ld.own1;exact rfl;exact rfl;(focus (repeat' first|exact At.head|apply At.right);done);exact rfl))|(apply Ok1.move;exact rfl)|(apply Ok1.fieldAddr;(iterate 5 exact rfl))|(apply Ok1.nilCheck;exact rfl)))|apply R.nil|(apply T.is;first|apply T.rounds 1|(apply T.drawC (id:=11) [0] (by decide);((apply A.tk 0;exact rfl;kernel_rfl;(apply Ok1.move;exact rfl))<;>(apply A.tk 1;exact rfl;kernel_rfl;(apply Ok1.nilCheck;exact rfl))<;>(apply A.tk 2;exact rfl;kernel_rfl;(apply Ok1.fieldAddr;(iterate 5 exact rfl)))<;>(apply A.tk 3;exact rfl;kernel_rfl;(apply Ok1.load;exact rfl;(apply Ld.own1;exact rfl;exact rfl;exact At.head;exact rfl)))<;>(apply A.tk 6;exact rfl;kernel_rfl;(apply Ok1.move;exact rfl))<;>(apply A.tk 7;exact rfl;kernel_rfl;(apply Ok1.nilCheck;exact rfl))<;>(apply A.tk 8;exact rfl;kernel_rfl;(apply Ok1.fieldAddr;(iterate 5 exact rfl)))<;>(apply A.tk 9;exact rfl;kernel_rfl;(apply Ok1.load;exact rfl;(apply Ld.own1;exact rfl;exact rfl;exact At.head;exact rfl)))<;>(apply A.tk 14;exact rfl;kernel_rfl;(apply Ok1.move;exact rfl))<;>(apply A.one 4;kernel_rfl;exact rfl;(((apply R.callV (vs:=[.pointer (some ⟨x.bc,0,none⟩)]);(iterate 3 exact rfl);intro w1 hw1;exact hbk hw1 (At.mem (by (focus (repeat' first|exact At.head|apply At.tail);done))))));apply R.nil;refine ⟨?_,?_⟩;(focus ((repeat' (first|exact trivial|(refine ⟨?_,?_⟩;exact At.head))))))<;>(apply A.one 5;kernel_rfl;exact rfl;(((apply R.callE (Li:=QB) (vs:=[.pointer (some ⟨x.bb,0,none⟩)]);(iterate 3 exact rfl);(focus (repeat' first|exact Ext.here _ _|apply Ext.cons);done);intro w1 hw1;exact hkn w1;rintro v Lo ⟨o1,ho1,rfl,rfl⟩;rw [List.append_assoc])));apply R.nil;refine ⟨?_,?_⟩;(focus (repeat' first|exact trivial|exact At.head|apply At.right|refine ⟨?_,?_⟩)))<;>(apply A.one 10;kernel_rfl;exact rfl;(((apply R.callV (vs:=[.pointer (some ⟨x.bc,0,none⟩)]);(iterate 3 exact rfl);intro w1 hw1;exact hbk hw1 (At.mem (by (focus (repeat' first|exact At.head|apply At.tail|apply At.right);done))))));apply R.nil;refine ⟨?_,?_⟩;(focus (repeat' first|exact trivial|exact At.head|apply At.right|refine ⟨?_,?_⟩)))<;>(apply A.one 11;kernel_rfl;exact rfl;(((apply R.callE (Li:=QB) (vs:=[.pointer (some ⟨x.bb,0,none⟩)]);(iterate 3 exact rfl);(focus (repeat' first|exact Ext.here _ _|apply Ext.app);done);intro w1 hw1;exact hwn w1;rintro v Lo ⟨o2,ho2,rfl,rfl⟩;rw [slV_eq ho2,List.append_assoc])));apply R.nil;refine ⟨?_,?_⟩;(focus (repeat' first|exact trivial|exact At.head|apply At.right|refine ⟨?_,?_⟩)))<;>(apply A.one 12;kernel_rfl;exact rfl;(((apply R.appendRd (xs:=([]:List Cl)) (v:=Cl.v) (sz:=4) (ov:=o1) (n:=0) (m:=0) (old:=fl Cl.v []);(iterate 12 exact rfl);exact ho1;(focus (repeat' first|exact Ext.here _ _|apply Ext.app);done);exact rfl;exact Cl.v_len;exact rfl;(intro w1 hw1;exact .inl rfl);exact rfl;omega;intro ov3 hov3 _)));apply R.nil;refine ⟨?_,?_⟩;(focus (repeat' first|exact trivial|exact At.head|apply At.right|refine ⟨?_,?_⟩)))<;>(apply A.tk 13;exact rfl;kernel_rfl;(apply Ok1.lenOv;(iterate 3 exact rfl);exact hov3))<;>(apply A.done;kernel_rfl)))|apply T.seq|apply T.region|apply T.block|apply T.exit|(apply T.cond_f;exact rfl)))
  all_goals (apply RetOk.n)
  all_goals exact ⟨_,by (focus (repeat' first|exact Ext.one _ _|exact Ext.here _ _|exact Ext.all _|apply Keep.cons|apply Keep.app|apply Keep.last|apply Ext.app);done),rfl⟩
end Go.Proofs.YtcfdgnajepilbaaGreat
set_option linter.unusedSimpArgs false
set_option linter.unusedVariables false
namespace Go.Proofs.YtcfdgnajepilbaaGreat
open Go.RowKit Go.Shelf Go.Sort
set_option maxRecDepth 100000
structure NST.ok (t:NST) (x:NI):Prop where
  st:t.st=0 ∨ t.st=1
  sd:0≤t.sdd∧t.sdd < x.S
  la:0≤t.la∧t.la≤1073741824
  cnt:0≤t.cnt
  now:0≤t.now∧t.now≤1073741824
/-- What a tick makes. -/
def NTick (x:NI) (t:NST) (tick:Int) (v:Value) (L:Lst):Prop :=
  ((tick≤t.now ∨ 1073741824 < tick)∧v = .slice none 0 0∧L=x.L t) ∨
  (¬ (tick≤t.now ∨ 1073741824 < tick)∧∃ t2:NST,t2.now=tick∧t2.ok x ∧
    ((t.st=1∧t2.cnt=t.cnt∧v = .slice none 0 0∧L=x.L t2) ∨
     (t2.cnt=t.cnt+1∧∃ ob j junk ov,junk.length=j * 2∧OvOk 1 ov (wrG x.c x.s 1 t2.sdd x.boot t2.cnt []).length (u8s (wrG x.c x.s 1 t2.sdd x.boot t2.cnt []))∧v = .slice (some ⟨ob,0,none⟩) 1 (1+j)∧L=(ob,.cells ⟨[.int .i64 (65536+t2.sdd),.slice (ovp ov) (wrG x.c x.s 1 t2.sdd x.boot t2.cnt []).length (ovc ov (wrG x.c x.s 1 t2.sdd x.boot t2.cnt []).length)]++junk⟩ 53 (0,0))::(blkL 5 ov (u8s (wrG x.c x.s 1 t2.sdd x.boot t2.cnt []))++x.L t2))))
theorem ntick_bad (x:NI) (hx:x.ok) (t:NST) (ht:t.ok x) (hcnt:t.cnt≤1000) (tick:Int) (hq:tick≤t.now ∨ 1073741824 < tick) (w:World):CallM Tryz.prog 10 [.pointer (some ⟨x.bN,0,none⟩),.int .i64 tick] (x.L t) w (NTick x t tick):=by
  obtain ⟨hst,⟨hsd0,hsd1⟩,⟨hla0,hla1⟩,hc0,hn0,hn1⟩:=ht
  obtain ⟨hS1,hS4⟩:=hx.S
  have hnr:NR x.boot (t.cnt+1):=by have:=hx.boot;unfold NR;omega
  refine enterK (tb:=tb) Tryz.func10 rfl Tryz.ntmps10 rfl ?_
  unfold NI.L NI.N NI.cs
  generalize hK:x.K=KB at *
  repeat' (first|(apply R.is1;first|(apply R.isBin;first|(apply R.pure;exact rfl;first|(apply Ok1.eqlP;(iterate 5 exact rfl))|(apply Ok1.gtr_t;exact rfl;exact rfl;omega))|(apply R.leq rfl rfl rfl<;>intro))|(apply R.pure;exact rfl;first|(apply Ok1.load;exact rfl;(apply Ld.own1;exact rfl;exact rfl;exact At.head;exact rfl))|(apply Ok1.move;exact rfl)|(apply Ok1.fieldAddr;(iterate 5 exact rfl))|(apply Ok1.assign;exact rfl)|(apply Ok1.pick_t;exact rfl;exact rfl)|(apply Ok1.pick_f;exact rfl;exact rfl)|(apply Ok1.nilCheck;exact rfl)))|(apply R.isG;first|(apply R.guard_run;exact rfl;exact rfl)|(apply R.guard_not;(iterate 3 exact rfl)))|apply R.nil|(apply T.is;first|apply T.seq|apply T.region|apply T.ret|(apply T.cond_t;exact rfl)))
  all_goals skip
  all_goals (apply RetOk.t;exact rfl)
  all_goals exact ⟨x.L t,by unfold NI.L NI.N NI.cs;rw [hK];(focus (repeat' first|exact Ext.one _ _|exact Ext.all _|apply Keep.cons|apply Keep.last);done),.inl ⟨hq,rfl,rfl⟩⟩
theorem ntick_out (x:NI) (hx:x.ok) (t:NST) (ht:t.ok x) (hcnt:t.cnt≤1000) (tick:Int) (hq:¬ (tick≤t.now ∨ 1073741824 < tick)) (hst:t.st=0) (w:World):CallM Tryz.prog 10 [.pointer (some ⟨x.bN,0,none⟩),.int .i64 tick] (x.L t) w (NTick x t tick):=by
  obtain ⟨_,⟨hsd0,hsd1⟩,⟨hla0,hla1⟩,hc0,hn0,hn1⟩:=ht
  obtain ⟨hS1,hS4⟩:=hx.S
  have hnr:NR x.boot (t.cnt+1):=by have:=hx.boot;unfold NR;omega
  have hq1:t.now < tick:=by omega
  have hq2:tick≤1073741824:=by omega
  have hsw:=fun w1=>nsweep_ok x hx tick w1
  have hbl:=fun w1=>dbelow_ok x.bd t.D x.S hS1 hS4 w1
  have hgt:∀ {w1:World} {S:List Nat} {L Li Lr:Lst} {q:Nat × Obj},Hp w S L w1→Ext L Li Lr→q∈Lr→w1.heap[q.1]? = some q.2:=fun hw he hq=>hw.get _ _ (he.perm.subset (List.mem_append_right _ hq))
  have hsta:=fun st sd la {w1:World} {S:List Nat} {L:Lst} (hw:Hp w S L w1) (hJ:JN x.bj x.bc x.S st sd la none 0 0∈L)=>jstate_ok x.bj x.bc x.S st sd la none 0 0 w1 ⟨_,_,hw.get _ _ hJ⟩
  have hseat:=fun o now st sd la (h0:0≤sd) (h1:sd≤3) {w1:World} {S:List Nat} {L:Lst} (hw:Hp w S L w1) (hN:x.N o now∈L) (hJ:JN x.bj x.bc x.S st sd la none 0 0∈L)=>nseat_ok x o now w1 (hw.get _ _ hN) st sd la h0 h1 (hw.get _ _ hJ)
  have hini:=fun o now st sd la (hs:st≠3) {w1:World} {S:List Nat} {L:Lst} (hw:Hp w S L w1) (hN:x.N o now∈L) (hJ:JN x.bj x.bc x.S st sd la none 0 0∈L)=>nin_ok x o now w1 (hw.get _ _ hN) st sd la hs (hw.get _ _ hJ)
  have hempty:=fun o (ho:o.oneCell'=true) w1=>empty9_ok x o ho tick w1
  have hpost:=fun p n cap G hn hb q a w1 hp (hpo:G≠[]→Off p (blks [x.N (.slice none 0 0) tick])) hq (hqo:Off q (blks [x.N (.slice none 0 0) tick]))=>post9_ok x tick p n cap G hn hb q a w1 hp hpo hq hqo
  have hGl:∀ seed,(wrG x.c x.s 1 seed x.boot (t.cnt+1) []).length=52:=fun seed=>pkB_len _ _ _ _ _ _ (wrT_len ..)
  obtain ⟨KR,hKR⟩:∃ KR,x.K=x.C::x.R::KR:=⟨_,rfl⟩
  rw [hKR] at hsw
  have hstart:∀ seed,0≤seed→seed < x.S→∀ {w1:World} {S:List Nat} {L Lr:Lst},Hp w S L w1→Ext L [JN x.bj x.bc x.S t.st t.sdd t.la none 0 0,CN x.bn x.boot t.cnt] Lr→x.C∈Lr→x.R∈Lr→CallM Tryz.prog 36 [.pointer (some ⟨x.bj,0,none⟩),.int .i64 seed,.int .i64 tick] [JN x.bj x.bc x.S t.st t.sdd t.la none 0 0,CN x.bn x.boot t.cnt] w1 fun v L=>∃ ov,OvOk 1 ov (wrG x.c x.s 1 seed x.boot (t.cnt+1) []).length (u8s (wrG x.c x.s 1 seed x.boot (t.cnt+1) []))∧v = .tuple #[slV ov (wrG x.c x.s 1 seed x.boot (t.cnt+1) []).length,.int .i64 0]∧L=JN x.bj x.bc x.S 1 seed tick none 0 0::CN x.bn x.boot (t.cnt+1)::blkL 5 ov (u8s (wrG x.c x.s 1 seed x.boot (t.cnt+1) [])):=by
    intro seed h0 h1 w1 S L Lr hw he hC hR
    refine (jstart_ok x.bj x.bc x.bn x.br x.bb x.bdr x.sd _ _ x.c hx.c x.s hx.s hx.b x.m1 x.m2 _ x.S t.st t.sdd t.la hS4 none 0 0 x.boot t.cnt hnr hc0 seed tick w1 (hgt hw he hC) (hgt hw he hR) (RdSl.off hw he hC) (RdSl.off hw he hR)).imp ?_
    rintro v L9 (⟨g,_⟩|⟨_,Lo,⟨ov,g1,g2,g3⟩,g4⟩)
    · exact absurd (by unfold jstE;rw [if_neg (by omega),if_neg (by omega)]) g
    · exact ⟨ov,g1,g2,by rw [g4,g3]⟩
  refine enterK (tb:=tb) Tryz.func10 rfl Tryz.ntmps10 rfl ?_
  unfold NI.L
  rw [hKR]
  unfold NI.N NI.cs NI.C NI.R at *
  repeat' (first|(apply R.is1;first|(apply R.isBin;(apply R.pure;exact rfl;first|(apply Ok1.eqlP;(iterate 5 exact rfl))|(apply Ok1.leq_f;exact rfl;exact rfl;omega)|(apply Ok1.gtr_f;exact rfl;exact rfl;omega)))|(apply R.pure;exact rfl;first|(apply Ok1.load;exact rfl;(apply Ld.own1;exact rfl;exact rfl;exact At.head;exact rfl))|(apply Ok1.move;exact rfl)|(apply Ok1.fieldAddr;(iterate 5 exact rfl))|(apply Ok1.assign;exact rfl)|(apply Ok1.pick_f;exact rfl;exact rfl)|(apply Ok1.nilCheck;exact rfl)))|(apply R.is0;(apply R.store;(iterate 6 exact rfl);exact Upd.head;exact rfl))|(apply R.isG;(apply R.guard_run;exact rfl;exact rfl))|apply R.nil|(apply T.is;first|(apply T.stop1 4)|apply T.seq|apply T.region|apply T.skip|(apply T.cond_f;exact rfl)))
  all_goals refine ⟨?_⟩
  refine T.weakK (σ':=[(0,.pointer (some ⟨x.bN,0,none⟩)),(1,.int .i64 tick)]) (L':=((x.bN,.cells ⟨x.cs (.slice none 0 0) tick⟩ 111 (0,0))::(x.bc,.cells ⟨chC x.bn x.br x.bb x.bdr x.sd⟩ 173 (0,0))::(x.br,.cells ⟨ringC x.c x.s x.m1 x.m2⟩ 177 (0,0))::KR)++[JN x.bj x.bc x.S t.st t.sdd t.la none 0 0,CN x.bn x.boot t.cnt,dwB x.bd t.D]) ?_ (by unfold NI.cs;simp only [List.cons_append];(focus (repeat' first|exact Keep.nil _|exact Ext.one _ _|exact Ext.all _|apply Keep.cons|apply Keep.app|apply Ext.cons);done)) ⟨rfl,rfl,trivial⟩
  unfold NI.cs
  repeat' (first|(apply R.is1;first|(apply R.isBin;(apply R.pure;exact rfl;(apply Ok1.eql_t;exact rfl;exact rfl;omega)))|(apply R.isCall;first|(apply R.callE (vs:=[.pointer (some ⟨x.bN,0,none⟩)]);(iterate 3 exact rfl);exact Ext.here _ _;intro w1 hw1;exact hsw w1;rintro v Lo rfl)|(apply R.callV (vs:=[.pointer (some ⟨x.bj,0,none⟩)]);(iterate 3 exact rfl);intro w1 hw1;exact hsta _ _ _ hw1 (At.mem (by (focus (repeat' first|exact At.head|apply At.tail|apply At.right);done)))))|(apply R.pure;exact rfl;first|(apply Ok1.load;exact rfl;(apply Ld.own1;exact rfl;exact rfl;exact At.head;exact rfl))|(apply Ok1.move;exact rfl)|(apply Ok1.fieldAddr;(iterate 5 exact rfl))|(apply Ok1.nilCheck;exact rfl)))|apply R.nil|(apply T.is;first|(apply T.stop 7)|(apply T.drawC (id:=6) [0] (by decide);((apply A.tk 0;exact rfl;kernel_rfl;(apply Ok1.move;exact rfl))<;>(apply A.tk 1;exact rfl;kernel_rfl;(apply Ok1.nilCheck;exact rfl))<;>(apply A.tk 2;exact rfl;kernel_rfl;(apply Ok1.fieldAddr;(iterate 5 exact rfl)))<;>(apply A.tk 3;exact rfl;kernel_rfl;(apply Ok1.load;exact rfl;(apply Ld.own1;exact rfl;exact rfl;exact At.head;exact rfl)))<;>(apply A.tk 4;exact rfl;kernel_rfl;(apply Ok1.move;exact rfl))<;>(apply A.tk 5;exact rfl;kernel_rfl;(apply Ok1.nilCheck;exact rfl))<;>(apply A.tk 6;exact rfl;kernel_rfl;(apply Ok1.fieldAddr;(iterate 5 exact rfl)))<;>(apply A.tk 7;exact rfl;kernel_rfl;(apply Ok1.load;exact rfl;(apply Ld.own1;exact rfl;exact rfl;exact At.head;exact rfl)))<;>(apply A.one 8;kernel_rfl;exact rfl;(((apply R.callE (Li:=[dwB x.bd t.D]) (vs:=[.pointer (some ⟨x.bd,0,none⟩),.int .i64 x.S]);(iterate 3 exact rfl);(focus (repeat' first|exact Ext.one _ _|apply Ext.cons|apply Ext.app);done);intro w1 hw1;exact hbl w1;rintro v Lo ⟨seed,D2,hsd0,hsd1,rfl,rfl⟩)));apply R.nil;refine ⟨?_,?_⟩;(focus (repeat' first|exact trivial|exact At.head|apply At.tail|refine ⟨?_,?_⟩)))<;>(apply A.tk 9;exact rfl;kernel_rfl;(apply Ok1.assign;exact rfl))<;>(apply A.done;kernel_rfl)))|apply T.seq|apply T.region|(apply T.cond_t;exact rfl)))
  refine ⟨?_⟩
  have hstart2:=fun {w1:World} {S:List Nat} {L Lr:Lst} (hw:Hp w S L w1) he hC hR=>hstart seed hsd0 hsd1 (Lr:=Lr) hw he hC hR
  have hGl9:=hGl seed
  obtain ⟨G,hG⟩:∃ G,G=wrG x.c x.s 1 seed x.boot (t.cnt+1) []:=⟨_,rfl⟩
  rw [← hG] at hstart2 hGl9
  repeat' (first|(apply R.is1;first|(apply R.isBin;(apply R.pure;exact rfl;(apply Ok1.eql_t;exact rfl;exact rfl;omega)))|(apply R.isCall;first|(apply R.callE (Li:=[JN x.bj x.bc x.S t.st t.sdd t.la none 0 0,CN x.bn x.boot t.cnt]) (vs:=[.pointer (some ⟨x.bj,0,none⟩),.int .i64 seed,.int .i64 tick]);(iterate 3 exact rfl);(focus (repeat' first|exact Ext.all _|apply Ext.cons|apply Ext.app);done);intro w1 hw1;exact hstart2 hw1 (by (focus (repeat' first|exact Ext.all _|apply Ext.cons|apply Ext.app);done)) (At.mem (by (focus (repeat' first|exact At.head|apply At.tail);done))) (At.mem (by (focus (repeat' first|exact At.head|apply At.tail);done)));rintro v Lo ⟨ov,hov,rfl,hq9⟩;(obtain ⟨UB,hUB,hub⟩:∃ UB,blkL 5 ov (u8s G)=UB∧∀ q∈blkL 5 ov (u8s G),q∈UB:=⟨_,rfl,fun q h=>h⟩);rw [hq9,hUB,slV_eq hov];simp only [List.cons_append])|(apply R.callE (Li:=[(x.bN,.cells ⟨[.pointer (some ⟨x.bc,0,none⟩),.slice (some ⟨ob,0,none⟩) 1 (1+jn),.pointer (some ⟨x.bj,0,none⟩),.pointer (some ⟨x.bf,0,none⟩),.pointer (some ⟨x.bv,0,none⟩),.map none,.slice none 0 0,.int .i64 0,.map none,.pointer (some ⟨x.bh,0,none⟩),.pointer (some ⟨x.bst,0,none⟩),.slice none 0 0,.int .i64 0,.pointer (some ⟨x.bd,0,none⟩),.map (some x.bp),.map (some x.bq),.int .i64 0,.int .i64 tick,.int .i64 (-16),.int .i64 0,.int .i64 0,.int .i64 0,.int .i64 0,.bool false,.int .i64 x.S]⟩ 111 (0,0))]) (vs:=[.pointer (some ⟨x.bN,_,none⟩)]);(iterate 3 exact rfl);(focus ((repeat' (exact Ext.one _ _));done));intro w1 hw1;exact hempty (.slice (some ⟨ob,0,none⟩) 1 (1+jn)) rfl w1;rintro v Lo ⟨rfl,rfl⟩))|(apply R.pure;exact rfl;first|(apply Ok1.load;exact rfl;(apply Ld.own1;exact rfl;exact rfl;(focus (repeat' first|exact At.head|apply At.tail);done);exact rfl))|(apply Ok1.move;exact rfl)|(apply Ok1.fieldAddr;(iterate 5 exact rfl))|(apply Ok1.assign;exact rfl)|(apply Ok1.extract;exact rfl;exact rfl)|(apply Ok1.nilCheck;exact rfl)))|apply R.nil|(apply T.is;first|(apply T.drawC (id:=9) [] (by decide);((apply A.tk 0;exact rfl;kernel_rfl;(apply Ok1.move;exact rfl))<;>(apply A.tk 1;exact rfl;kernel_rfl;(apply Ok1.nilCheck;exact rfl))<;>(apply A.tk 2;exact rfl;kernel_rfl;(apply Ok1.fieldAddr;(iterate 5 exact rfl)))<;>(apply A.tk 3;exact rfl;kernel_rfl;(apply Ok1.move;exact rfl))<;>(apply A.tk 4;exact rfl;kernel_rfl;(apply Ok1.move;exact rfl))<;>(apply A.one 5;kernel_rfl;exact rfl;(((apply R.callV (vs:=[.pointer (some ⟨x.bN,0,none⟩)]);(iterate 3 exact rfl);intro w1 hw1;exact hseat (.slice none 0 0) tick 1 seed tick (by omega) (by omega) hw1 (At.mem (by (focus (repeat' first|exact At.head|apply At.tail|apply At.right);done))) (At.mem (by exact At.head)))));apply R.nil;refine ⟨?_,?_⟩;(focus ((repeat' (exact trivial)))))<;>(apply A.one 6;kernel_rfl;exact rfl;(((apply R.buildSlice;(iterate 12 exact rfl);intro)));apply R.nil;refine ⟨?_,?_⟩;(focus ((repeat' (exact trivial)))))<;>(apply A.one 7;kernel_rfl;exact rfl;(((apply R.callE (Li:=[(x.bN,.cells ⟨[.pointer (some ⟨x.bc,0,none⟩),.slice none 0 0,.pointer (some ⟨x.bj,0,none⟩),.pointer (some ⟨x.bf,0,none⟩),.pointer (some ⟨x.bv,0,none⟩),.map none,.slice none 0 0,.int .i64 0,.map none,.pointer (some ⟨x.bh,0,none⟩),.pointer (some ⟨x.bst,0,none⟩),.slice none 0 0,.int .i64 0,.pointer (some ⟨x.bd,0,none⟩),.map (some x.bp),.map (some x.bq),.int .i64 0,.int .i64 tick,.int .i64 (-16),.int .i64 0,.int .i64 0,.int .i64 0,.int .i64 0,.bool false,.int .i64 x.S]⟩ 111 (0,0))]) (vs:=[.pointer (some ⟨x.bN,_,none⟩),.slice _ _ _,.slice (some ⟨_,0,none⟩) 1 1]);(iterate 3 exact rfl);(focus (repeat' first|exact Ext.one _ _|apply Ext.cons|apply Ext.app);done);intro w1 hw1;exact hpost (ovp ov) G.length (ovc ov G.length) G rfl (by omega) _ (65536+seed) w1 (rdown hov hw1 (fun q hq=>Ext.mem (by (focus (repeat' first|exact Ext.here _ _|apply Ext.cons);done)) q (hub q hq))) (fun _=>ovoff hw1 (by (focus (repeat' first|exact Ext.one _ _|apply Ext.cons|apply Ext.app);done)) (fun q hq=>Ext.mem (by (focus (repeat' first|exact Ext.here _ _|apply Ext.cons);done)) q (hub q hq))) (RdSl.ofMem (junk:=[]) hw1 (At.mem (by exact At.head)) rfl) (Off.of hw1 (by (focus (repeat' first|exact Ext.one _ _|apply Ext.cons|apply Ext.app);done)) (by exact At.head));rintro v Lo ⟨ov2,ob,jn,junk,hov2,hjn,rfl⟩;simp only [List.cons_append])));apply R.nil;refine ⟨?_,?_⟩;(focus ((repeat' (exact trivial)))))<;>(apply A.done;kernel_rfl)))|apply T.seq|apply T.region|apply T.ret|(apply T.cond_t;exact rfl)))
  (apply RetOk.t;exact rfl)
  refine ⟨(ob,.cells ⟨[.int .i64 (65536+seed),.slice (ovp ov2) G.length (ovc ov2 G.length)]++junk⟩ 53 (0,0))::(blkL 5 ov2 (u8s G)++x.L ⟨1,seed,tick,t.cnt+1,tick,D2⟩),?_,.inr ⟨hq,⟨1,seed,tick,t.cnt+1,tick,D2⟩,rfl,⟨.inr rfl,⟨hsd0,hsd1⟩,⟨by simp only;omega,by simp only;omega⟩,by simp only;omega,⟨by simp only;omega,by simp only;omega⟩⟩,.inr ⟨rfl,ob,jn,junk,ov2,hjn,?_,rfl,?_⟩⟩⟩
  · unfold NI.L
    rw [hKR]
    unfold NI.N NI.cs
    generalize blkL 5 ov2 (u8s G)=U2
    simp only [List.cons_append,List.nil_append]
    (focus (repeat' first|exact Ext.one _ _|exact Ext.here _ _|apply Keep.cons|apply Keep.app|apply Keep.last|apply Ext.cons|apply Ext.app);done)
  · rw [← hG];exact hov2
  · rw [← hG]
theorem ntick_wait (x:NI) (hx:x.ok) (t:NST) (ht:t.ok x) (hcnt:t.cnt≤1000) (tick:Int) (hq:¬ (tick≤t.now ∨ 1073741824 < tick)) (hst:t.st=1) (hdu:tick < t.la+16) (w:World):CallM Tryz.prog 10 [.pointer (some ⟨x.bN,0,none⟩),.int .i64 tick] (x.L t) w (NTick x t tick):=by
  obtain ⟨_,⟨hsd0,hsd1⟩,⟨hla0,hla1⟩,hc0,hn0,hn1⟩:=ht
  obtain ⟨hS1,hS4⟩:=hx.S
  have hnr:NR x.boot (t.cnt+1):=by have:=hx.boot;unfold NR;omega
  have hq1:t.now < tick:=by omega
  have hq2:tick≤1073741824:=by omega
  have hsw:=fun w1=>nsweep_ok x hx tick w1
  have hbl:=fun w1=>dbelow_ok x.bd t.D x.S hS1 hS4 w1
  have hgt:∀ {w1:World} {S:List Nat} {L Li Lr:Lst} {q:Nat × Obj},Hp w S L w1→Ext L Li Lr→q∈Lr→w1.heap[q.1]? = some q.2:=fun hw he hq=>hw.get _ _ (he.perm.subset (List.mem_append_right _ hq))
  have hsta:=fun st sd la {w1:World} {S:List Nat} {L:Lst} (hw:Hp w S L w1) (hJ:JN x.bj x.bc x.S st sd la none 0 0∈L)=>jstate_ok x.bj x.bc x.S st sd la none 0 0 w1 ⟨_,_,hw.get _ _ hJ⟩
  have hseat:=fun o now st sd la (h0:0≤sd) (h1:sd≤3) {w1:World} {S:List Nat} {L:Lst} (hw:Hp w S L w1) (hN:x.N o now∈L) (hJ:JN x.bj x.bc x.S st sd la none 0 0∈L)=>nseat_ok x o now w1 (hw.get _ _ hN) st sd la h0 h1 (hw.get _ _ hJ)
  have hini:=fun o now st sd la (hs:st≠3) {w1:World} {S:List Nat} {L:Lst} (hw:Hp w S L w1) (hN:x.N o now∈L) (hJ:JN x.bj x.bc x.S st sd la none 0 0∈L)=>nin_ok x o now w1 (hw.get _ _ hN) st sd la hs (hw.get _ _ hJ)
  have hempty:=fun o (ho:o.oneCell'=true) w1=>empty9_ok x o ho tick w1
  have hpost:=fun p n cap G hn hb q a w1 hp (hpo:G≠[]→Off p (blks [x.N (.slice none 0 0) tick])) hq (hqo:Off q (blks [x.N (.slice none 0 0) tick]))=>post9_ok x tick p n cap G hn hb q a w1 hp hpo hq hqo
  have hGl:∀ seed,(wrG x.c x.s 1 seed x.boot (t.cnt+1) []).length=52:=fun seed=>pkB_len _ _ _ _ _ _ (wrT_len ..)
  obtain ⟨KR,hKR⟩:∃ KR,x.K=x.C::x.R::KR:=⟨_,rfl⟩
  rw [hKR] at hsw
  have hdj:∀ {w1:World} {S:List Nat} {L Lr:Lst},Hp w S L w1→Ext L [JN x.bj x.bc x.S t.st t.sdd t.la none 0 0,CN x.bn x.boot t.cnt] Lr→x.C∈Lr→x.R∈Lr→CallM Tryz.prog 40 [.pointer (some ⟨x.bj,0,none⟩),.int .i64 tick] [JN x.bj x.bc x.S t.st t.sdd t.la none 0 0,CN x.bn x.boot t.cnt] w1 (JDue x.bj x.bc x.bn x.c x.s x.S t.st t.sdd t.la none 0 0 x.boot t.cnt tick):=by
    intro w1 S L Lr hw he hC hR
    exact jdue_ok x.bj x.bc x.bn x.br x.bb x.bdr x.sd _ _ x.c hx.c x.s hx.s hx.b x.m1 x.m2 _ x.S t.st t.sdd t.la hS1 hS4 hsd0 (by omega) hla0 (by omega) none 0 0 x.boot t.cnt hnr hc0 tick w1 (hgt hw he hC) (hgt hw he hR) (RdSl.off hw he hC) (RdSl.off hw he hR)
  have hdue:=fun {w1:World} {S:List Nat} {L Lr:Lst} (hw:Hp w S L w1) he hC hR=>(hdj (Lr:=Lr) hw he hC hR).imp (R':=fun v L=>v = .tuple #[.slice none 0 0,.bool false]∧L=[JN x.bj x.bc x.S t.st t.sdd t.la none 0 0,CN x.bn x.boot t.cnt]) (by
    rintro v L9 (⟨_,g1,g2⟩|⟨g,_⟩)
    · exact ⟨g1,g2⟩
    · exact absurd (.inr (.inr hdu)) g)
  clear hseat hpost hbl hGl hdj hgt
  refine enterK (tb:=tb) Tryz.func10 rfl Tryz.ntmps10 rfl ?_
  unfold NI.L
  rw [hKR]
  unfold NI.N NI.cs NI.C NI.R at *
  repeat' (first|(apply R.is1;first|(apply R.isBin;(apply R.pure;exact rfl;first|(apply Ok1.eqlP;(iterate 5 exact rfl))|(apply Ok1.leq_f;exact rfl;exact rfl;omega)|(apply Ok1.gtr_f;exact rfl;exact rfl;omega)))|(apply R.pure;exact rfl;first|(apply Ok1.load;exact rfl;(apply Ld.own1;exact rfl;exact rfl;exact At.head;exact rfl))|(apply Ok1.move;exact rfl)|(apply Ok1.fieldAddr;(iterate 5 exact rfl))|(apply Ok1.assign;exact rfl)|(apply Ok1.pick_f;exact rfl;exact rfl)|(apply Ok1.nilCheck;exact rfl)))|(apply R.is0;(apply R.store;(iterate 6 exact rfl);exact Upd.head;exact rfl))|(apply R.isG;(apply R.guard_run;exact rfl;exact rfl))|apply R.nil|(apply T.is;first|(apply T.stop1 4)|apply T.seq|apply T.region|apply T.skip|(apply T.cond_f;exact rfl)))
  all_goals refine ⟨?_⟩
  refine T.weakK (σ':=[(0,.pointer (some ⟨x.bN,0,none⟩)),(1,.int .i64 tick)]) (L':=((x.bN,.cells ⟨x.cs (.slice none 0 0) tick⟩ 111 (0,0))::(x.bc,.cells ⟨chC x.bn x.br x.bb x.bdr x.sd⟩ 173 (0,0))::(x.br,.cells ⟨ringC x.c x.s x.m1 x.m2⟩ 177 (0,0))::KR)++[JN x.bj x.bc x.S t.st t.sdd t.la none 0 0,CN x.bn x.boot t.cnt,dwB x.bd t.D]) ?_ (by unfold NI.cs;simp only [List.cons_append];(focus (repeat' first|exact Keep.nil _|exact Ext.one _ _|exact Ext.all _|apply Keep.cons|apply Keep.app|apply Ext.cons);done)) ⟨rfl,rfl,trivial⟩
  unfold NI.cs
  repeat' (first|(apply R.is1;first|(apply R.isCall;(apply R.callE (vs:=[.pointer (some ⟨x.bN,0,none⟩)]);(iterate 3 exact rfl);exact Ext.here _ _;intro w1 hw1;exact hsw w1;rintro v Lo rfl))|(apply R.pure;exact rfl;(apply Ok1.move;exact rfl)))|apply R.nil|(apply T.is;first|(apply T.stop 5)|apply T.seq|apply T.region))
  refine ⟨?_⟩
  refine T.weakK (σ':=[(0,.pointer (some ⟨x.bN,0,none⟩)),(1,.int .i64 tick)]) (L':=JN x.bj x.bc x.S t.st t.sdd t.la none 0 0::CN x.bn x.boot t.cnt::dwB x.bd t.D::(x.bN,.cells ⟨x.cs (.slice none 0 0) tick⟩ 111 (0,0))::(x.bc,.cells ⟨chC x.bn x.br x.bb x.bdr x.sd⟩ 173 (0,0))::(x.br,.cells ⟨ringC x.c x.s x.m1 x.m2⟩ 177 (0,0))::KR) ?_ (by unfold NI.cs;simp only [List.cons_append];(focus (repeat' first|exact Ext.one _ _|exact Ext.here _ _|apply Keep.cons|apply Keep.last|apply Ext.cons|apply Ext.app);done)) ⟨rfl,rfl,trivial⟩
  unfold NI.cs
  repeat' (first|(apply R.is1;first|(apply R.isBin;(apply R.pure;exact rfl;(apply Ok1.eql_f;exact rfl;exact rfl;omega)))|(apply R.isCall;first|(apply R.callV (vs:=[.pointer (some ⟨x.bj,0,none⟩)]);(iterate 3 exact rfl);intro w1 hw1;exact hsta _ _ _ hw1 (At.mem (by exact At.head)))|(apply R.callE (Li:=[JN x.bj x.bc x.S t.st t.sdd t.la none 0 0,CN x.bn x.boot t.cnt]) (vs:=[.pointer (some ⟨x.bj,0,none⟩),.int .i64 tick]);(iterate 3 exact rfl);exact Ext.two _ (Ext.one _ _) (Ext.one _ _);intro w1 hw1;exact hdue hw1 (Ext.two _ (Ext.one _ _) (Ext.one _ _)) (At.mem (by (focus (repeat' first|exact At.head|apply At.tail);done))) (At.mem (by (focus (repeat' first|exact At.head|apply At.tail);done)));rintro v Lo ⟨rfl,rfl⟩;simp only [List.cons_append,List.nil_append])|(apply R.callV (vs:=[.pointer (some ⟨x.bN,0,none⟩)]);(iterate 3 exact rfl);intro w1 hw1;exact hini _ tick (t.st) (t.sdd) (t.la) (by omega) hw1 (At.mem (by (focus (repeat' first|exact At.head|apply At.tail);done))) (At.mem (by exact At.head)))|(apply R.callE (Li:=[(x.bN,.cells ⟨[.pointer (some ⟨x.bc,0,none⟩),.slice none 0 0,.pointer (some ⟨x.bj,0,none⟩),.pointer (some ⟨x.bf,0,none⟩),.pointer (some ⟨x.bv,0,none⟩),.map none,.slice none 0 0,.int .i64 0,.map none,.pointer (some ⟨x.bh,0,none⟩),.pointer (some ⟨x.bst,0,none⟩),.slice none 0 0,.int .i64 0,.pointer (some ⟨x.bd,0,none⟩),.map (some x.bp),.map (some x.bq),.int .i64 0,.int .i64 tick,.int .i64 (-16),.int .i64 0,.int .i64 0,.int .i64 0,.int .i64 0,.bool false,.int .i64 x.S]⟩ 111 (0,0))]) (vs:=[.pointer (some ⟨x.bN,_,none⟩)]);(iterate 3 exact rfl);(focus (repeat' first|exact Ext.one _ _|apply Ext.cons);done);intro w1 hw1;exact hempty (.slice none 0 0) rfl w1;rintro v Lo ⟨rfl,rfl⟩))|(apply R.pure;exact rfl;first|(apply Ok1.load;exact rfl;(apply Ld.own1;exact rfl;exact rfl;(focus (repeat' first|exact At.head|apply At.tail);done);exact rfl))|(apply Ok1.move;exact rfl)|(apply Ok1.fieldAddr;(iterate 5 exact rfl))|(apply Ok1.assign;exact rfl)|(apply Ok1.extract;exact rfl;exact rfl)|(apply Ok1.pick_t;exact rfl;exact rfl)|(apply Ok1.not_f;exact rfl)|(apply Ok1.nilCheck;exact rfl)))|(apply R.isG;(apply R.guard_not;(iterate 3 exact rfl)))|apply R.nil|(apply T.is;first|apply T.seq|apply T.region|apply T.skip|apply T.ret|(apply T.cond_t;exact rfl)|(apply T.cond_f;exact rfl)))
  all_goals skip
  (apply RetOk.t;exact rfl)
  refine ⟨x.L ⟨t.st,t.sdd,t.la,t.cnt,tick,t.D⟩,?_,.inr ⟨hq,⟨t.st,t.sdd,t.la,t.cnt,tick,t.D⟩,rfl,⟨.inr hst,⟨hsd0,hsd1⟩,⟨hla0,hla1⟩,hc0,⟨by simp only;omega,by simp only;omega⟩⟩,.inl ⟨hst,rfl,rfl,rfl⟩⟩⟩
  unfold NI.L
  rw [hKR]
  unfold NI.N NI.cs
  simp only [List.cons_append,List.nil_append]
  (focus (repeat' first|exact Ext.one _ _|exact Ext.all _|apply Keep.cons|apply Keep.last);done)
theorem ntick_due (x:NI) (hx:x.ok) (t:NST) (ht:t.ok x) (hcnt:t.cnt≤1000) (tick:Int) (hq:¬ (tick≤t.now ∨ 1073741824 < tick)) (hst:t.st=1) (hdu:¬ tick < t.la+16) (w:World):CallM Tryz.prog 10 [.pointer (some ⟨x.bN,0,none⟩),.int .i64 tick] (x.L t) w (NTick x t tick):=by
  obtain ⟨_,⟨hsd0,hsd1⟩,⟨hla0,hla1⟩,hc0,hn0,hn1⟩:=ht
  obtain ⟨hS1,hS4⟩:=hx.S
  have hnr:NR x.boot (t.cnt+1):=by have:=hx.boot;unfold NR;omega
  have hq1:t.now < tick:=by omega
  have hq2:tick≤1073741824:=by omega
  have hsw:=fun w1=>nsweep_ok x hx tick w1
  have hbl:=fun w1=>dbelow_ok x.bd t.D x.S hS1 hS4 w1
  have hgt:∀ {w1:World} {S:List Nat} {L Li Lr:Lst} {q:Nat × Obj},Hp w S L w1→Ext L Li Lr→q∈Lr→w1.heap[q.1]? = some q.2:=fun hw he hq=>hw.get _ _ (he.perm.subset (List.mem_append_right _ hq))
  have hsta:=fun st sd la {w1:World} {S:List Nat} {L:Lst} (hw:Hp w S L w1) (hJ:JN x.bj x.bc x.S st sd la none 0 0∈L)=>jstate_ok x.bj x.bc x.S st sd la none 0 0 w1 ⟨_,_,hw.get _ _ hJ⟩
  have hseat:=fun o now st sd la (h0:0≤sd) (h1:sd≤3) {w1:World} {S:List Nat} {L:Lst} (hw:Hp w S L w1) (hN:x.N o now∈L) (hJ:JN x.bj x.bc x.S st sd la none 0 0∈L)=>nseat_ok x o now w1 (hw.get _ _ hN) st sd la h0 h1 (hw.get _ _ hJ)
  have hini:=fun o now st sd la (hs:st≠3) {w1:World} {S:List Nat} {L:Lst} (hw:Hp w S L w1) (hN:x.N o now∈L) (hJ:JN x.bj x.bc x.S st sd la none 0 0∈L)=>nin_ok x o now w1 (hw.get _ _ hN) st sd la hs (hw.get _ _ hJ)
  have hempty:=fun o (ho:o.oneCell'=true) w1=>empty9_ok x o ho tick w1
  have hpost:=fun p n cap G hn hb q a w1 hp (hpo:G≠[]→Off p (blks [x.N (.slice none 0 0) tick])) hq (hqo:Off q (blks [x.N (.slice none 0 0) tick]))=>post9_ok x tick p n cap G hn hb q a w1 hp hpo hq hqo
  have hGl:∀ seed,(wrG x.c x.s 1 seed x.boot (t.cnt+1) []).length=52:=fun seed=>pkB_len _ _ _ _ _ _ (wrT_len ..)
  obtain ⟨KR,hKR⟩:∃ KR,x.K=x.C::x.R::KR:=⟨_,rfl⟩
  rw [hKR] at hsw
  have hdj:∀ {w1:World} {S:List Nat} {L Lr:Lst},Hp w S L w1→Ext L [JN x.bj x.bc x.S t.st t.sdd t.la none 0 0,CN x.bn x.boot t.cnt] Lr→x.C∈Lr→x.R∈Lr→CallM Tryz.prog 40 [.pointer (some ⟨x.bj,0,none⟩),.int .i64 tick] [JN x.bj x.bc x.S t.st t.sdd t.la none 0 0,CN x.bn x.boot t.cnt] w1 (JDue x.bj x.bc x.bn x.c x.s x.S t.st t.sdd t.la none 0 0 x.boot t.cnt tick):=by
    intro w1 S L Lr hw he hC hR
    exact jdue_ok x.bj x.bc x.bn x.br x.bb x.bdr x.sd _ _ x.c hx.c x.s hx.s hx.b x.m1 x.m2 _ x.S t.st t.sdd t.la hS1 hS4 hsd0 (by omega) hla0 (by omega) none 0 0 x.boot t.cnt hnr hc0 tick w1 (hgt hw he hC) (hgt hw he hR) (RdSl.off hw he hC) (RdSl.off hw he hR)
  obtain ⟨seed,hsdd⟩:∃ seed,seed=(t.sdd+1) % x.S:=⟨_,rfl⟩
  obtain ⟨D2,hD2⟩:∃ D2,D2=t.D:=⟨_,rfl⟩
  have hsd0:0≤seed:=by rw [hsdd];exact Int.emod_nonneg _ (by omega)
  have hsd1:seed < x.S:=by rw [hsdd];exact Int.emod_lt_of_pos _ (by omega)
  have hGl9:=hGl seed
  have hdue2:=fun {w1:World} {S:List Nat} {L Lr:Lst} (hw:Hp w S L w1) he hC hR=>(hdj (Lr:=Lr) hw he hC hR).imp (R':=fun v L=>∃ ov,OvOk 1 ov (wrG x.c x.s 1 seed x.boot (t.cnt+1) []).length (u8s (wrG x.c x.s 1 seed x.boot (t.cnt+1) []))∧v = .tuple #[slV ov (wrG x.c x.s 1 seed x.boot (t.cnt+1) []).length,.bool true]∧L=JN x.bj x.bc x.S 1 seed tick none 0 0::CN x.bn x.boot (t.cnt+1)::blkL 5 ov (u8s (wrG x.c x.s 1 seed x.boot (t.cnt+1) []))) (by
    rintro v L9 (⟨g,_⟩|⟨_,Lo,⟨ov,g1,g2,g3⟩,g4⟩)
    · exact absurd g (by omega)
    · exact ⟨ov,by rw [hsdd];exact g1,by rw [hsdd];exact g2,by rw [g4,g3,hsdd]⟩)
  obtain ⟨G,hG⟩:∃ G,G=wrG x.c x.s 1 seed x.boot (t.cnt+1) []:=⟨_,rfl⟩
  rw [← hG] at hdue2 hGl9
  clear hbl hGl hdj hgt hsdd
  refine enterK (tb:=tb) Tryz.func10 rfl Tryz.ntmps10 rfl ?_
  unfold NI.L
  rw [hKR]
  unfold NI.N NI.cs NI.C NI.R at *
  repeat' (first|(apply R.is1;first|(apply R.isBin;(apply R.pure;exact rfl;first|(apply Ok1.eqlP;(iterate 5 exact rfl))|(apply Ok1.leq_f;exact rfl;exact rfl;omega)|(apply Ok1.gtr_f;exact rfl;exact rfl;omega)))|(apply R.pure;exact rfl;first|(apply Ok1.load;exact rfl;(apply Ld.own1;exact rfl;exact rfl;exact At.head;exact rfl))|(apply Ok1.move;exact rfl)|(apply Ok1.fieldAddr;(iterate 5 exact rfl))|(apply Ok1.assign;exact rfl)|(apply Ok1.pick_f;exact rfl;exact rfl)|(apply Ok1.nilCheck;exact rfl)))|(apply R.is0;(apply R.store;(iterate 6 exact rfl);exact Upd.head;exact rfl))|(apply R.isG;(apply R.guard_run;exact rfl;exact rfl))|apply R.nil|(apply T.is;first|(apply T.stop1 4)|apply T.seq|apply T.region|apply T.skip|(apply T.cond_f;exact rfl)))
  all_goals refine ⟨?_⟩
  refine T.weakK (σ':=[(0,.pointer (some ⟨x.bN,0,none⟩)),(1,.int .i64 tick)]) (L':=((x.bN,.cells ⟨x.cs (.slice none 0 0) tick⟩ 111 (0,0))::(x.bc,.cells ⟨chC x.bn x.br x.bb x.bdr x.sd⟩ 173 (0,0))::(x.br,.cells ⟨ringC x.c x.s x.m1 x.m2⟩ 177 (0,0))::KR)++[JN x.bj x.bc x.S t.st t.sdd t.la none 0 0,CN x.bn x.boot t.cnt,dwB x.bd t.D]) ?_ (by unfold NI.cs;simp only [List.cons_append];(focus (repeat' first|exact Keep.nil _|exact Ext.one _ _|exact Ext.all _|apply Keep.cons|apply Keep.app|apply Ext.cons);done)) ⟨rfl,rfl,trivial⟩
  unfold NI.cs
  repeat' (first|(apply R.is1;first|(apply R.isCall;(apply R.callE (vs:=[.pointer (some ⟨x.bN,0,none⟩)]);(iterate 3 exact rfl);exact Ext.here _ _;intro w1 hw1;exact hsw w1;rintro v Lo rfl))|(apply R.pure;exact rfl;(apply Ok1.move;exact rfl)))|apply R.nil|(apply T.is;first|(apply T.stop 5)|apply T.seq|apply T.region))
  refine ⟨?_⟩
  refine T.weakK (σ':=[(0,.pointer (some ⟨x.bN,0,none⟩)),(1,.int .i64 tick)]) (L':=JN x.bj x.bc x.S t.st t.sdd t.la none 0 0::CN x.bn x.boot t.cnt::dwB x.bd t.D::(x.bN,.cells ⟨x.cs (.slice none 0 0) tick⟩ 111 (0,0))::(x.bc,.cells ⟨chC x.bn x.br x.bb x.bdr x.sd⟩ 173 (0,0))::(x.br,.cells ⟨ringC x.c x.s x.m1 x.m2⟩ 177 (0,0))::KR) ?_ (by unfold NI.cs;simp only [List.cons_append];(focus (repeat' first|exact Ext.one _ _|exact Ext.here _ _|apply Keep.cons|apply Keep.last|apply Ext.cons|apply Ext.app);done)) ⟨rfl,rfl,trivial⟩
  unfold NI.cs
  repeat' (first|(apply R.is1;first|(apply R.isBin;(apply R.pure;exact rfl;(apply Ok1.eql_f;exact rfl;exact rfl;omega)))|(apply R.isCall;first|(apply R.callV (vs:=[.pointer (some ⟨x.bj,0,none⟩)]);(iterate 3 exact rfl);intro w1 hw1;exact hsta _ _ _ hw1 (At.mem (by exact At.head)))|(apply R.callE (Li:=[JN x.bj x.bc x.S t.st t.sdd t.la none 0 0,CN x.bn x.boot t.cnt]) (vs:=[.pointer (some ⟨x.bj,0,none⟩),.int .i64 tick]);(iterate 3 exact rfl);exact Ext.two _ (Ext.one _ _) (Ext.one _ _);intro w1 hw1;exact hdue2 hw1 (Ext.two _ (Ext.one _ _) (Ext.one _ _)) (At.mem (by (focus (repeat' first|exact At.head|apply At.tail);done))) (At.mem (by (focus (repeat' first|exact At.head|apply At.tail);done)));rintro v Lo ⟨ov,hov,rfl,hq9⟩;(obtain ⟨UB,hUB,hub⟩:∃ UB,blkL 5 ov (u8s G)=UB∧∀ q∈blkL 5 ov (u8s G),q∈UB:=⟨_,rfl,fun q h=>h⟩);rw [hq9,hUB,slV_eq hov];simp only [List.cons_append])|(apply R.callE (Li:=[(x.bN,.cells ⟨[.pointer (some ⟨x.bc,0,none⟩),.slice (some ⟨ob,0,none⟩) 1 (1+jn),.pointer (some ⟨x.bj,0,none⟩),.pointer (some ⟨x.bf,0,none⟩),.pointer (some ⟨x.bv,0,none⟩),.map none,.slice none 0 0,.int .i64 0,.map none,.pointer (some ⟨x.bh,0,none⟩),.pointer (some ⟨x.bst,0,none⟩),.slice none 0 0,.int .i64 0,.pointer (some ⟨x.bd,0,none⟩),.map (some x.bp),.map (some x.bq),.int .i64 0,.int .i64 tick,.int .i64 (-16),.int .i64 0,.int .i64 0,.int .i64 0,.int .i64 0,.bool false,.int .i64 x.S]⟩ 111 (0,0))]) (vs:=[.pointer (some ⟨x.bN,_,none⟩)]);(iterate 3 exact rfl);(focus ((repeat' (exact Ext.one _ _));done));intro w1 hw1;exact hempty (.slice (some ⟨ob,0,none⟩) 1 (1+jn)) rfl w1;rintro v Lo ⟨rfl,rfl⟩)|(apply R.callV (vs:=[.pointer (some ⟨x.bN,0,none⟩)]);(iterate 3 exact rfl);intro w1 hw1;exact hini _ tick (1) (seed) (tick) (by omega) hw1 (At.mem (by exact At.head)) (At.mem (by (focus (repeat' first|exact At.head|apply At.tail|apply At.right);done)))))|(apply R.pure;exact rfl;first|(apply Ok1.load;exact rfl;(apply Ld.own1;exact rfl;exact rfl;(focus (repeat' first|exact At.head|apply At.tail);done);exact rfl))|(apply Ok1.move;exact rfl)|(apply Ok1.fieldAddr;(iterate 5 exact rfl))|(apply Ok1.assign;exact rfl)|(apply Ok1.extract;exact rfl;exact rfl)|(apply Ok1.pick_t;exact rfl;exact rfl)|(apply Ok1.not_f;exact rfl)|(apply Ok1.nilCheck;exact rfl)))|(apply R.isG;(apply R.guard_not;(iterate 3 exact rfl)))|apply R.nil|(apply T.is;first|(apply T.drawC (id:=13) [] (by decide);((apply A.tk 0;exact rfl;kernel_rfl;(apply Ok1.move;exact rfl))<;>(apply A.tk 1;exact rfl;kernel_rfl;(apply Ok1.nilCheck;exact rfl))<;>(apply A.tk 2;exact rfl;kernel_rfl;(apply Ok1.fieldAddr;(iterate 5 exact rfl)))<;>(apply A.tk 3;exact rfl;kernel_rfl;(apply Ok1.move;exact rfl))<;>(apply A.tk 4;exact rfl;kernel_rfl;(apply Ok1.move;exact rfl))<;>(apply A.one 5;kernel_rfl;exact rfl;(((apply R.callV (vs:=[.pointer (some ⟨x.bN,0,none⟩)]);(iterate 3 exact rfl);intro w1 hw1;exact hseat (.slice none 0 0) tick 1 seed tick (by omega) (by omega) hw1 (At.mem (by (focus (repeat' first|exact At.head|apply At.tail|apply At.right);done))) (At.mem (by exact At.head)))));apply R.nil;refine ⟨?_,?_⟩;(focus ((repeat' (exact trivial)))))<;>(apply A.one 6;kernel_rfl;exact rfl;(((apply R.buildSlice;(iterate 12 exact rfl);intro)));apply R.nil;refine ⟨?_,?_⟩;(focus ((repeat' (exact trivial)))))<;>(apply A.one 7;kernel_rfl;exact rfl;(((apply R.callE (Li:=[(x.bN,.cells ⟨[.pointer (some ⟨x.bc,0,none⟩),.slice none 0 0,.pointer (some ⟨x.bj,0,none⟩),.pointer (some ⟨x.bf,0,none⟩),.pointer (some ⟨x.bv,0,none⟩),.map none,.slice none 0 0,.int .i64 0,.map none,.pointer (some ⟨x.bh,0,none⟩),.pointer (some ⟨x.bst,0,none⟩),.slice none 0 0,.int .i64 0,.pointer (some ⟨x.bd,0,none⟩),.map (some x.bp),.map (some x.bq),.int .i64 0,.int .i64 tick,.int .i64 (-16),.int .i64 0,.int .i64 0,.int .i64 0,.int .i64 0,.bool false,.int .i64 x.S]⟩ 111 (0,0))]) (vs:=[.pointer (some ⟨x.bN,_,none⟩),.slice _ _ _,.slice (some ⟨_,0,none⟩) 1 1]);(iterate 3 exact rfl);(focus (repeat' first|exact Ext.one _ _|apply Ext.cons|apply Ext.app);done);intro w1 hw1;exact hpost (ovp ov) G.length (ovc ov G.length) G rfl (by omega) _ (65536+seed) w1 (rdown hov hw1 (fun q hq=>Ext.mem (by (focus (repeat' first|exact Ext.here _ _|apply Ext.cons);done)) q (hub q hq))) (fun _=>ovoff hw1 (by (focus (repeat' first|exact Ext.one _ _|apply Ext.cons|apply Ext.app);done)) (fun q hq=>Ext.mem (by (focus (repeat' first|exact Ext.here _ _|apply Ext.cons);done)) q (hub q hq))) (RdSl.ofMem (junk:=[]) hw1 (At.mem (by exact At.head)) rfl) (Off.of hw1 (by (focus (repeat' first|exact Ext.one _ _|apply Ext.cons|apply Ext.app);done)) (by exact At.head));rintro v Lo ⟨ov2,ob,jn,junk,hov2,hjn,rfl⟩;simp only [List.cons_append])));apply R.nil;refine ⟨?_,?_⟩;(focus ((repeat' (exact trivial)))))<;>(apply A.done;kernel_rfl)))|apply T.seq|apply T.region|apply T.skip|apply T.ret|(apply T.cond_t;exact rfl)|(apply T.cond_f;exact rfl)))
  all_goals skip
  (apply RetOk.t;exact rfl)
  refine ⟨(ob,.cells ⟨[.int .i64 (65536+seed),.slice (ovp ov2) G.length (ovc ov2 G.length)]++junk⟩ 53 (0,0))::(blkL 5 ov2 (u8s G)++x.L ⟨1,seed,tick,t.cnt+1,tick,D2⟩),?_,.inr ⟨hq,⟨1,seed,tick,t.cnt+1,tick,D2⟩,rfl,⟨.inr rfl,⟨hsd0,hsd1⟩,⟨by simp only;omega,by simp only;omega⟩,by simp only;omega,⟨by simp only;omega,by simp only;omega⟩⟩,.inr ⟨rfl,ob,jn,junk,ov2,hjn,?_,rfl,?_⟩⟩⟩
  · rw [hD2]
    unfold NI.L
    rw [hKR]
    unfold NI.N NI.cs
    generalize blkL 5 ov2 (u8s G)=U2
    simp only [List.cons_append,List.nil_append]
    (focus (repeat' first|exact Ext.one _ _|exact Ext.here _ _|exact Ext.all _|apply Keep.cons|apply Keep.app|apply Keep.last|apply Ext.cons|apply Ext.app);done)
  · rw [← hG];exact hov2
  · rw [← hG]
theorem ntick_ok (x:NI) (hx:x.ok) (t:NST) (ht:t.ok x) (hcnt:t.cnt≤1000) (tick:Int) (w:World):CallM Tryz.prog 10 [.pointer (some ⟨x.bN,0,none⟩),.int .i64 tick] (x.L t) w (NTick x t tick):=by
  by_cases hq:tick≤t.now ∨ 1073741824 < tick
  · exact ntick_bad x hx t ht hcnt tick hq w
  rcases ht.st with hst|hst
  · exact ntick_out x hx t ht hcnt tick hq hst w
  by_cases hdu:tick < t.la+16
  · exact ntick_wait x hx t ht hcnt tick hq hst hdu w
  · exact ntick_due x hx t ht hcnt tick hq hst hdu w
end Go.Proofs.YtcfdgnajepilbaaGreat
set_option linter.unusedSimpArgs false
set_option linter.unusedVariables false
namespace Go.Proofs.YtcfdgnajepilbaaGreat
open Go.RowKit Go.Shelf
set_option maxRecDepth 100000
theorem pkC_set (k:Int) (c:Cl) (to a b:Int) (p:Option Addr) (n cap:Nat) (t:List Int) (i:Nat) (x:Int):(pkC k c to a b p n cap t).set (9+i) (.int .u8 x)=pkC k c to a b p n cap (t.set i x):=by
  rw [Nat.add_comm 9 i]
  show _::_::_::_::_::_::_::_::_::(u8s t).set i (.int .u8 x)=_
  unfold pkC u8s
  rw [List.map_set]
theorem pkC_at (k:Int) (c:Cl) (to a b:Int) (p:Option Addr) (n cap:Nat) {t:List Int} {i:Nat} {x:Int} (h:t[i]? = some x):(pkC k c to a b p n cap t)[9+i]? = some (.int .u8 x):=by
  rw [Nat.add_comm 9 i]
  show (u8s t)[i]? = _
  unfold u8s
  rw [List.getElem?_map,h];rfl
/-- The document's check is the program's. -/
theorem vcheck14_ok (k:Int) (c:Cl) (to a b:Int) (p:Option Addr) (n cap:Nat) (t:List Int) (ht:t.length=32):CallP Tryz.prog 141 [.agg ⟨pkC k c to a b p n cap t⟩] (.int .i64 (pckE k c to a b n t)):=by
  have hrt:=right_ok c.id c.roles c.exp c.ser
  have hnr:=nright_ok a b
  have hpl:=pk_len k c to a b p n cap ht
  have hcl:subE (pkC k c to a b p n cap t) 1 4=some [.int .i64 c.id,.int .i64 c.roles,.int .i64 c.exp,.int .i64 c.ser]:=rfl
  have hnl:subE (pkC k c to a b p n cap t) 6 2=some [.int .i64 a,.int .i64 b]:=rfl
  have hk:(pkC k c to a b p n cap t)[0]? = some (.int .i64 k):=rfl
  have hto:(pkC k c to a b p n cap t)[5]? = some (.int .i64 to):=rfl
  have hbo:(pkC k c to a b p n cap t)[8]? = some (.slice p n cap):=rfl
  have hat:=fun (i:Nat) (x:Int) (h:t[i]? = some x)=>pkC_at k c to a b p n cap h
  have e1:decide (Cl.right ⟨c.id,c.roles,c.exp,c.ser⟩)=decide c.right:=rfl
  rw [e1] at hrt
  have hE : (¬ (0 < k∧k < 15)∧pckE k c to a b n t=13) ∨ ((0 < k∧k < 15)∧∃ q1 q2,decide c.right=q1∧decide (NR a b)=q2∧(((q1=false ∨ q2=false ∨ to < 0 ∨ 65535 < to)∧pckE k c to a b n t=10) ∨ (q1=true∧q2=true∧0≤to∧to≤65535∧((512 < n∧pckE k c to a b n t=2) ∨ (n≤512∧pckE k c to a b n t=if (k=1 ∨ k=2)∧t≠zI 32 then 3 else 0))))):=by
    unfold pckE
    by_cases h1:0 < k∧k < 15
    case neg=>exact .inl ⟨h1,if_pos h1⟩
    refine .inr ⟨h1,_,_,rfl,rfl,?_⟩
    rw [if_neg (fun h=>h h1)]
    by_cases h2:c.right∧0≤to∧to≤65535∧NR a b
    case neg =>
      rw [if_pos h2]
      refine .inl ⟨?_,rfl⟩
      by_cases g1:c.right
      · by_cases g2:NR a b
        · right;right
          by_cases g3:to < 0
          · exact .inl g3
          · exact .inr (by refine Decidable.byContradiction fun g4=>h2 ⟨g1,by omega,by omega,g2⟩)
        · exact .inr (.inl (decide_eq_false g2))
      · exact .inl (decide_eq_false g1)
    rw [if_neg (fun h=>h h2)]
    refine .inr ⟨decide_eq_true h2.1,decide_eq_true h2.2.2.2,h2.2.1,h2.2.2.1,?_⟩
    by_cases h3:512 < n
    · exact .inl ⟨h3,if_pos h3⟩
    · exact .inr ⟨by omega,if_neg h3⟩
  generalize pckE k c to a b n t=E at *
  rcases hE with ⟨h1,rfl⟩|⟨h1,q1,q2,g1,g2,hE⟩
  · generalize pkC k c to a b p n cap t=PK at *
    refine enterP (tb:=tb) Tryz.func141 rfl Tryz.ntmps141 rfl fun w=>?_
    repeat' (first|(apply R.is1;first|(apply R.isBin;first|(apply R.pure;exact rfl;(apply Ok1.gtr_t;exact rfl;exact rfl;omega))|(apply R.lss rfl rfl rfl<;>intro))|(apply R.pure;exact rfl;first|(apply Ok1.load;exact rfl;(apply Ld.own1;exact rfl;exact rfl;exact At.head;exact hk))|(apply Ok1.move;exact rfl)|(apply Ok1.fieldAddr;(iterate 5 exact rfl))|(apply Ok1.assign;exact rfl)|(apply Ok1.pick_t;exact rfl;exact rfl)|(apply Ok1.pick_f;exact rfl;exact rfl))|(apply R.box;(iterate 3 exact rfl);intro))|(apply R.isG;first|(apply R.guard_run;exact rfl;exact rfl)|(apply R.guard_not;(iterate 3 exact rfl)))|apply R.nil|(apply T.is;first|apply T.seq|apply T.region|apply T.ret|(apply T.cond_t;exact rfl)))
    all_goals skip
    all_goals (apply RetOk.t;exact rfl)
    all_goals rfl
  rw [g1] at hrt
  rw [g2] at hnr
  clear g1 g2 e1
  rcases hE with ⟨h2,rfl⟩|⟨rfl,rfl,h2,h3,hE⟩
  · generalize pkC k c to a b p n cap t=PK at *
    cases q1
    all_goals cases q2
    all_goals refine enterP (tb:=tb) Tryz.func141 rfl Tryz.ntmps141 rfl fun w=>?_
    all_goals repeat' (first|(apply R.is1;first|(apply R.isBin;first|(apply R.pure;exact rfl;first|(apply Ok1.lss_f;exact rfl;exact rfl;omega)|(apply Ok1.gtr_f;exact rfl;exact rfl;omega))|(apply R.lss rfl rfl rfl<;>intro)|(apply R.gtr rfl rfl rfl<;>intro))|(apply R.isCall;first|apply R.callP rfl rfl rfl hrt|apply R.callP rfl rfl rfl hnr)|(apply R.pure;exact rfl;first|(apply Ok1.load;exact rfl;first|(apply Ld.own1;exact rfl;exact rfl;exact At.head;exact hk)|(apply Ld.own1;exact rfl;exact rfl;exact At.head;exact hto)|(apply Ld.ownk;exact rfl;exact rfl;exact At.head;exact hcl)|(apply Ld.ownk;exact rfl;exact rfl;exact At.head;exact hnl))|(apply Ok1.move;exact rfl)|(apply Ok1.fieldAddr;(iterate 5 exact rfl))|(apply Ok1.assign;exact rfl)|(apply Ok1.pick_t;exact rfl;exact rfl)|(apply Ok1.pick_f;exact rfl;exact rfl)|(apply Ok1.not_t;exact rfl)|(apply Ok1.not_f;exact rfl))|(apply R.box;(iterate 3 exact rfl);intro))|(apply R.isG;first|(apply R.guard_run;exact rfl;exact rfl)|(apply R.guard_not;(iterate 3 exact rfl)))|apply R.nil|(apply T.is;first|apply T.seq|apply T.region|apply T.skip|apply T.ret|(apply T.cond_t;exact rfl)|(apply T.cond_f;exact rfl)))
    all_goals first|(exfalso;simp at h2;omega)|skip
    all_goals (apply RetOk.t;exact rfl)
    all_goals rfl
  rcases hE with ⟨h4,rfl⟩|⟨h4,hE⟩
  · generalize pkC k c to a b p n cap t=PK at *
    refine enterP (tb:=tb) Tryz.func141 rfl Tryz.ntmps141 rfl fun w=>?_
    repeat' (first|(apply R.is1;first|(apply R.isBin;(apply R.pure;exact rfl;first|(apply Ok1.lss_f;exact rfl;exact rfl;omega)|(apply Ok1.gtr_t;exact rfl;exact rfl;omega)|(apply Ok1.gtr_f;exact rfl;exact rfl;omega)))|(apply R.isCall;first|apply R.callP rfl rfl rfl hrt|apply R.callP rfl rfl rfl hnr|(apply R.pure;exact rfl;(apply Ok1.lenS;(iterate 3 exact rfl))))|(apply R.pure;exact rfl;first|(apply Ok1.load;exact rfl;first|(apply Ld.own1;exact rfl;exact rfl;exact At.head;exact hk)|(apply Ld.own1;exact rfl;exact rfl;exact At.head;exact hto)|(apply Ld.own1;exact rfl;exact rfl;exact At.head;exact hbo)|(apply Ld.ownk;exact rfl;exact rfl;exact At.head;exact hcl)|(apply Ld.ownk;exact rfl;exact rfl;exact At.head;exact hnl))|(apply Ok1.move;exact rfl)|(apply Ok1.fieldAddr;(iterate 5 exact rfl))|(apply Ok1.assign;exact rfl)|(apply Ok1.pick_f;exact rfl;exact rfl)|(apply Ok1.not_t;exact rfl))|(apply R.box;(iterate 3 exact rfl);intro))|(apply R.isG;(apply R.guard_run;exact rfl;exact rfl))|apply R.nil|(apply T.is;first|apply T.seq|apply T.region|apply T.skip|apply T.ret|(apply T.cond_t;exact rfl)|(apply T.cond_f;exact rfl)))
    all_goals skip
    all_goals (apply RetOk.t;exact rfl)
    all_goals rfl
  generalize pkC k c to a b p n cap t=PK at *
  refine enterP (tb:=tb) Tryz.func141 rfl Tryz.ntmps141 rfl fun w=>?_
  repeat' (first|(apply R.is1;first|(apply R.isBin;(apply R.pure;exact rfl;first|(apply Ok1.lss_f;exact rfl;exact rfl;omega)|(apply Ok1.gtr_f;exact rfl;exact rfl;omega)))|(apply R.isCall;first|apply R.callP rfl rfl rfl hrt|apply R.callP rfl rfl rfl hnr|(apply R.pure;exact rfl;(apply Ok1.lenS;(iterate 3 exact rfl))))|(apply R.pure;exact rfl;first|(apply Ok1.load;exact rfl;first|(apply Ld.own1;exact rfl;exact rfl;exact At.head;exact hk)|(apply Ld.own1;exact rfl;exact rfl;exact At.head;exact hto)|(apply Ld.own1;exact rfl;exact rfl;exact At.head;exact hbo)|(apply Ld.ownk;exact rfl;exact rfl;exact At.head;exact hcl)|(apply Ld.ownk;exact rfl;exact rfl;exact At.head;exact hnl))|(apply Ok1.move;exact rfl)|(apply Ok1.fieldAddr;(iterate 5 exact rfl))|(apply Ok1.assign;exact rfl)|(apply Ok1.pick_f;exact rfl;exact rfl)|(apply Ok1.not_t;exact rfl))|(apply R.box;(iterate 3 exact rfl);intro))|(apply R.isG;(apply R.guard_run;exact rfl;exact rfl))|apply R.nil|(apply T.is;first|apply T.seq|apply T.region|apply T.block|apply T.skip|(apply T.cond_f;exact rfl)))
  all_goals skip
  rename_i bp
  apply T.loopK (α:=Nat) (I:=fun i=>i≤32∧(k < 3→∀ j,j < i→t[j]? = some 0)) (σi:=fun i=>[(1,.pointer (some ⟨bp,0,none⟩)),(3,.int .i64 i)]) (Li:=fun i=>[(bp,.cells ⟨PK⟩ 136 (0,0))]) (μ:=fun i=>32 - i) (i0:=0)
  · exact ⟨Nat.zero_le _,fun _ j hj=>absurd hj (Nat.not_lt_zero _)⟩
  · exact ⟨rfl,rfl,trivial⟩
  · (focus (repeat' first|exact Keep.nil _|exact Ext.one _ _|apply Keep.cons);done)
  rintro i ⟨hi,hz⟩
  rcases Nat.lt_or_ge i 32 with hlt|hge
  · obtain ⟨x,hx⟩:∃ x,t[i]? = some x:=⟨_,List.getElem?_eq_getElem (by omega)⟩
    have hxi:=hat i x hx
    repeat' (first|(apply R.is1;first|(apply R.isBin;first|(apply R.pure;exact rfl;first|(apply Ok1.add64;exact rfl;exact rfl;omega;omega)|(apply Ok1.lss_t;exact rfl;exact rfl;omega))|(apply R.lss rfl rfl rfl<;>intro)|(apply R.neq rfl rfl rfl<;>intro))|(apply R.pure;exact rfl;first|(apply Ok1.load;exact rfl;first|(apply Ld.own1;exact rfl;exact rfl;exact At.head;exact hk)|(apply Ld.own1;exact rfl;exact rfl;exact At.head;(simpa using hxi)))|(apply Ok1.move;exact rfl)|(apply Ok1.fieldAddr;(iterate 5 exact rfl))|(apply Ok1.assign;exact rfl)|(apply Ok1.indexAddrA;(iterate 5 exact rfl);omega;omega)|(apply Ok1.pick_t;exact rfl;exact rfl)|(apply Ok1.pick_f;exact rfl;exact rfl)))|(apply R.isG;first|(apply R.guard_run;exact rfl;exact rfl)|(apply R.guard_not;(iterate 3 exact rfl)))|apply R.nil|(apply T.is;first|apply T.seq|apply T.region|apply T.block|apply T.skip|apply T.ret|(apply T.cond_t;exact rfl)|(apply T.cond_f;exact rfl)))
    all_goals skip
    all_goals first
      | (refine ⟨i+1,⟨by omega,fun g j hj=>?_⟩,by omega,⟨rfl,rfl,trivial⟩,by (focus (repeat' first|exact Keep.nil _|exact Ext.one _ _|apply Keep.cons);done)⟩
         rcases Nat.lt_or_ge j i with hji|hji
         · exact hz g j hji
         · have e1:j=i:=by omega
           have e2:x=0:=by omega
           rw [e1,hx,e2])
      | skip
    have hE3:E=3:=by
      rw [hE,if_pos]
      refine ⟨by omega,fun g=>?_⟩
      rw [g] at hx
      unfold zI at hx
      rw [List.getElem?_replicate,if_pos hlt] at hx
      cases hx
      omega
    rw [hE3]
    (apply RetOk.t;exact rfl)
    rfl
  · have hi32:i=32:=by omega
    subst hi32
    have hE0:E=0:=by
      rw [hE,if_neg]
      rintro ⟨g1,g2⟩
      refine g2 (List.ext_getElem? fun j=>?_)
      rcases Nat.lt_or_ge j 32 with hj|hj
      · rw [hz (by omega) j hj]
        unfold zI
        rw [List.getElem?_replicate,if_pos hj]
      · rw [List.getElem?_eq_none (by omega),List.getElem?_eq_none (by simp [zI];omega)]
    rw [hE0]
    repeat' (first|(apply R.is1;first|(apply R.isBin;(apply R.pure;exact rfl;(apply Ok1.lss_f;exact rfl;exact rfl;omega)))|(apply R.pure;exact rfl;first|(apply Ok1.move;exact rfl)|(apply Ok1.assign;exact rfl)))|apply R.nil|(apply T.is;first|apply T.seq|apply T.region|apply T.exit|apply T.ret|(apply T.cond_f;exact rfl)))
    all_goals skip
    (apply RetOk.t;exact rfl)
    rfl
theorem Ld.byteAt {X:Cx} {L:Lst} {t:TypeId} {r:TRow} {b o off i:Nat} {xs:List Int} {x:Int} (H:∀ i x,xs[i]? = some x→X.w0.cell? ⟨b,o+i,none⟩=some (.int .u8 x)) (hS:b ∉ X.S) (ht:X.tb.row t=some r) (hk:r.k.agg=some false) (hx:xs[i]? = some x) (ho:off=o+i):Ld X L t ⟨b,off,none⟩ (.int .u8 x) :=
  .old1 ht hk (by rw [ho];exact H i x hx) hS
theorem RdSl.bytes {w:World} {p:Option Addr} {xs:List Int} (h:RdSl w p u8V xs) (hne:xs≠[]):∃ b o,p=some ⟨b,o,none⟩∧∀ i x,xs[i]? = some x→w.cell? ⟨b,o+i,none⟩=some (.int .u8 x):=by
  rcases h with h|⟨b,o,hp,h⟩
  · exact absurd h hne
  · refine ⟨b,o,hp,fun i x hx=>?_⟩
    have hf:(fl u8V xs)[i]? = some (.int .u8 x):=by rw [fl_u8];unfold u8s;rw [List.getElem?_map,hx];rfl
    rw [h i (List.getElem?_eq_some_iff.1 hf).1,hf]
theorem Ok1.midRE {X:Cx} {σ:Env} {L:Lst} {d:Option Nat} {ty:TypeId} {pos:String} {af:Array Edge} {g:Option (Nat × Bool)} {x:Operand} {t e:TypeId} {r re:TRow} {p:Option Addr} {n cap i j:Nat} {mi mj:Int} {lo hi:Operand} {sz:Nat} (ht:X.tb.row t=some r) (hk:r.k = .slice e) (he:X.tb.row e=some re) (hsz:re.size=sz) (hx:ev σ x=some (.slice p n cap)) (hl:ev σ lo=some (.int .i64 mi)) (hh:ev σ hi=some (.int .i64 mj)) (h3:mi=(i:Int)) (h4:mj=(j:Int)) (h1:i≤j) (h2:j≤cap) :
    Ok1 X ⟨d,.slice t x (some lo) (some hi) none,ty,pos,af,g⟩ σ L (.slice (sufP p cap i sz) (j - i) (cap - i)):=by
  subst h3;subst h4
  exact Ok1.midR ht hk he hsz hx hl hh h1 h2
/-- What a right packet's bytes are. -/
theorem pkB_at (k:Int) (c:Cl) (to a b:Int) (body t:List Int) (ht:t.length=32) (hE:pckE k c to a b body.length t=0) :
    (pkB k c to a b body t)[0]? = some k∧(∃ y z,(pkB k c to a b body t)[10]? = some y∧(pkB k c to a b body t)[11]? = some z∧0≤y∧y≤255∧0≤z∧z≤255∧256 * y+z=to) ∧
    (∃ y z,(pkB k c to a b body t)[12]? = some y∧(pkB k c to a b body t)[13]? = some z∧0≤y∧y≤255∧0≤z∧z≤255∧256 * y+z=a) ∧
    (∃ y z:Int,(pkB k c to a b body t)[18]? = some y∧(pkB k c to a b body t)[19]? = some z∧0≤y∧y≤255∧0≤z∧z≤255∧256 * y+z=body.length) ∧
    (∃ y z u v,(pkB k c to a b body t)[14]? = some y∧(pkB k c to a b body t)[15]? = some z∧(pkB k c to a b body t)[16]? = some u∧(pkB k c to a b body t)[17]? = some v∧0≤y∧y≤255∧0≤z∧z≤255∧0≤u∧u≤255∧0≤v∧v≤255∧256 * (256 * (256 * y+z)+u)+v=b) ∧
    ((pkB k c to a b body t).drop 1).take 9=clI c∧(pkB k c to a b body t).drop 20=body++t:=by
  obtain ⟨h1,h2,h3,h4,h5,_⟩:=pckE_zero hE
  unfold NR at h4
  have hm:∀ (n:Int),0≤n % 256∧n % 256≤255:=fun n=>by omega
  have e0:k % 256=k:=by omega
  refine ⟨by show some (k % 256)=some k;rw [e0],⟨to / 256 % 256,to % 256,rfl,rfl,(hm _).1,(hm _).2,(hm _).1,(hm _).2,by omega⟩,⟨a / 256 % 256,a % 256,rfl,rfl,(hm _).1,(hm _).2,(hm _).1,(hm _).2,by omega⟩,⟨(body.length:Int) / 256 % 256,(body.length:Int) % 256,rfl,rfl,(hm _).1,(hm _).2,(hm _).1,(hm _).2,by omega⟩,⟨b / 16777216 % 256,b / 65536 % 256,b / 256 % 256,b % 256,rfl,rfl,rfl,rfl,(hm _).1,(hm _).2,(hm _).1,(hm _).2,(hm _).1,(hm _).2,(hm _).1,(hm _).2,by omega⟩,rfl,rfl⟩
/-- The document's Parse of a right packet's bytes. -/
theorem vparse14_ok (k:Int) (c:Cl) (to a b:Int) (body t:List Int) (ht:t.length=32) (htb:Byt t) (hE:pckE k c to a b body.length t=0) (p:Option Addr) (n cap:Nat) (hn:n=(pkB k c to a b body t).length) (hcap:n≤cap) (w:World) (hp:RdSl w p u8V (pkB k c to a b body t)) :
    CallM Tryz.prog 61 [.slice p n cap] [] w fun v L=>v = .tuple #[.agg ⟨pkC k c to a b (sufP p cap 20 1) body.length (cap - 20) t⟩,.int .i64 0]∧L=[]:=by
  obtain ⟨h1,h2,h3,h4,h5,_⟩:=pckE_zero hE
  unfold NR at h4
  have hlen:=pkB_len k c to a b body ht
  obtain ⟨f0,⟨y10,y11,f10,f11,b10,b10',b11,b11',s10⟩,⟨y12,y13,f12,f13,b12,b12',b13,b13',s12⟩,⟨y18,y19,f18,f19,b18,b18',b19,b19',s18⟩,⟨y14,y15,y16,y17,f14,f15,f16,f17,b14,b14',b15,b15',b16,b16',b17,b17',s14⟩,fc,fd⟩:=pkB_at k c to a b body t ht hE
  have hck:=vcheck14_ok k c to a b (sufP p cap 20 1) body.length (cap - 20) t ht
  rw [hE] at hck
  have h9:RdSl w (sufP p cap 1 1) u8V (clI c):=by
    have:=(hp.suf (cap:=cap) (i:=1) u8V_len (by omega) (by omega)).pre u8V_len 9
    rwa [fc] at this
  have hpc:=fun w1 (h:Chg [] w w1)=>vparse5_ok (sufP p cap 1 1) (cap - 1) (clI c) (clI_len c) (by omega) (clI_byt c) w1 (h9.chg' h (fun _=>Off.nil _))
  rw [c9_fwd h2,if_pos h2,if_pos h2] at hpc
  have htg:∀ i x,t[i]? = some x→(pkB k c to a b body t)[20+body.length+i]? = some x:=fun i x hx=>by
    have:((pkB k c to a b body t).drop 20)[body.length+i]? = some x:=by
      rw [fd,List.getElem?_append_right (by omega),Nat.add_sub_cancel_left,hx]
    rwa [List.getElem?_drop,← Nat.add_assoc] at this
  obtain ⟨bb,o,hpe,H⟩:=hp.bytes (by intro h;rw [h] at hlen;simp only [List.length_nil] at hlen;omega)
  generalize pkB k c to a b body t=xs at *
  simp only [kvC] at hpc
  refine enterK (tb:=tb) Tryz.func61 rfl Tryz.ntmps61 rfl ?_
  repeat' (first|(apply R.is1;first|(apply R.isBin;(apply R.pure;exact rfl;first|(apply Ok1.add64;exact rfl;exact rfl;omega;omega)|(apply Ok1.lss_t;exact rfl;exact rfl;omega)|(apply Ok1.lss_f;exact rfl;exact rfl;omega)|(apply Ok1.gtr_f;exact rfl;exact rfl;omega)))|(apply R.isCall;(apply R.pure;exact rfl;(apply Ok1.lenS;(iterate 3 exact rfl))))|(apply R.pure;exact rfl;first|(apply Ok1.move;exact rfl)|(apply Ok1.assign;exact rfl))|(apply R.alloc;(iterate 3 exact rfl);intro))|apply R.nil|(apply T.is;first|(apply T.stop 16)|apply T.rounds 5|(apply T.drawC (id:=5) [] (by decide);((apply A.tk 0;exact rfl;kernel_rfl;(apply Ok1.move;exact rfl))<;>(apply A.tk 1;exact rfl;kernel_rfl;(apply Ok1.indexAddrP;(iterate 4 exact rfl);exact hpe;exact rfl;omega;omega))<;>(apply A.tk 2;exact rfl;kernel_rfl;(apply Ok1.load;exact rfl;(apply Ld.byteAt H;exact List.not_mem_nil;exact rfl;exact rfl;exact f18;(focus ((simp;done))))))<;>(apply A.tk 3;exact rfl;kernel_rfl;(apply Ok1.convI64;(iterate 5 exact rfl);omega;omega))<;>(apply A.tk 4;exact rfl;kernel_rfl;(apply Ok1.mul64;exact rfl;exact rfl;omega;omega))<;>(apply A.tk 5;exact rfl;kernel_rfl;(apply Ok1.move;exact rfl))<;>(apply A.tk 6;exact rfl;kernel_rfl;(apply Ok1.indexAddrP;(iterate 4 exact rfl);exact hpe;exact rfl;omega;omega))<;>(apply A.tk 7;exact rfl;kernel_rfl;(apply Ok1.load;exact rfl;(apply Ld.byteAt H;exact List.not_mem_nil;exact rfl;exact rfl;exact f19;(focus ((simp;done))))))<;>(apply A.tk 8;exact rfl;kernel_rfl;(apply Ok1.convI64;(iterate 5 exact rfl);omega;omega))<;>(apply A.tk 9;exact rfl;kernel_rfl;(apply Ok1.add64;exact rfl;exact rfl;omega;omega))<;>(apply A.tk 10;exact rfl;kernel_rfl;(apply Ok1.assign;exact rfl))<;>(apply A.done;kernel_rfl)))|(apply T.drawC (id:=10) [] (by decide);((apply A.tk 0;exact rfl;kernel_rfl;(apply Ok1.move;exact rfl))<;>(apply A.tk 1;exact rfl;kernel_rfl;(apply Ok1.indexAddrP;(iterate 4 exact rfl);exact hpe;exact rfl;omega;omega))<;>(apply A.tk 2;exact rfl;kernel_rfl;(apply Ok1.load;exact rfl;(apply Ld.byteAt H;exact List.not_mem_nil;exact rfl;exact rfl;exact f0;(focus ((simp;done))))))<;>(apply A.tk 3;exact rfl;kernel_rfl;(apply Ok1.convI64;(iterate 5 exact rfl);omega;omega))<;>(apply A.tk 4;exact rfl;kernel_rfl;(apply Ok1.move;exact rfl))<;>(apply A.tk 5;exact rfl;kernel_rfl;(apply Ok1.indexAddrP;(iterate 4 exact rfl);exact hpe;exact rfl;omega;omega))<;>(apply A.tk 6;exact rfl;kernel_rfl;(apply Ok1.load;exact rfl;(apply Ld.byteAt H;exact List.not_mem_nil;exact rfl;exact rfl;exact f10;(focus ((simp;done))))))<;>(apply A.tk 7;exact rfl;kernel_rfl;(apply Ok1.convI64;(iterate 5 exact rfl);omega;omega))<;>(apply A.tk 8;exact rfl;kernel_rfl;(apply Ok1.mul64;exact rfl;exact rfl;omega;omega))<;>(apply A.tk 9;exact rfl;kernel_rfl;(apply Ok1.move;exact rfl))<;>(apply A.tk 10;exact rfl;kernel_rfl;(apply Ok1.indexAddrP;(iterate 4 exact rfl);exact hpe;exact rfl;omega;omega))<;>(apply A.tk 11;exact rfl;kernel_rfl;(apply Ok1.load;exact rfl;(apply Ld.byteAt H;exact List.not_mem_nil;exact rfl;exact rfl;exact f11;(focus ((simp;done))))))<;>(apply A.tk 12;exact rfl;kernel_rfl;(apply Ok1.convI64;(iterate 5 exact rfl);omega;omega))<;>(apply A.tk 13;exact rfl;kernel_rfl;(apply Ok1.add64;exact rfl;exact rfl;omega;omega))<;>(apply A.tk 14;exact rfl;kernel_rfl;(apply Ok1.move;exact rfl))<;>(apply A.tk 15;exact rfl;kernel_rfl;(apply Ok1.move;exact rfl))<;>(apply A.tk 16;exact rfl;kernel_rfl;(apply Ok1.add64;exact rfl;exact rfl;omega;omega))<;>(apply A.tk 17;exact rfl;kernel_rfl;(apply Ok1.midRE (i:=20) (j:=20+body.length) (sz:=1);(iterate 7 exact rfl);omega;omega;omega;omega))<;>(apply A.tk 18;exact rfl;kernel_rfl;(apply Ok1.build;(iterate 5 exact rfl)))<;>(apply A.one 19;kernel_rfl;exact rfl;(((apply R.alloc;(iterate 3 exact rfl);intro)));apply R.nil;refine ⟨?_,?_⟩;(focus ((repeat' (exact trivial)))))<;>(apply A.one 20;kernel_rfl;exact rfl;(((apply R.store;(iterate 6 exact rfl);exact Upd.head;exact rfl)));apply R.nil;refine ⟨?_,?_⟩;(focus ((repeat' (exact trivial)))))<;>(apply A.done;kernel_rfl)))|(apply T.drawC (id:=11) [] (by decide);((apply A.tk 0;exact rfl;kernel_rfl;(apply Ok1.move;exact rfl))<;>(apply A.tk 1;exact rfl;kernel_rfl;(apply Ok1.indexAddrP;(iterate 4 exact rfl);exact hpe;exact rfl;omega;omega))<;>(apply A.tk 2;exact rfl;kernel_rfl;(apply Ok1.load;exact rfl;(apply Ld.byteAt H;exact List.not_mem_nil;exact rfl;exact rfl;exact f12;(focus ((simp;done))))))<;>(apply A.tk 3;exact rfl;kernel_rfl;(apply Ok1.convI64;(iterate 5 exact rfl);omega;omega))<;>(apply A.tk 4;exact rfl;kernel_rfl;(apply Ok1.mul64;exact rfl;exact rfl;omega;omega))<;>(apply A.tk 5;exact rfl;kernel_rfl;(apply Ok1.move;exact rfl))<;>(apply A.tk 6;exact rfl;kernel_rfl;(apply Ok1.indexAddrP;(iterate 4 exact rfl);exact hpe;exact rfl;omega;omega))<;>(apply A.tk 7;exact rfl;kernel_rfl;(apply Ok1.load;exact rfl;(apply Ld.byteAt H;exact List.not_mem_nil;exact rfl;exact rfl;exact f13;(focus ((simp;done))))))<;>(apply A.tk 8;exact rfl;kernel_rfl;(apply Ok1.convI64;(iterate 5 exact rfl);omega;omega))<;>(apply A.tk 9;exact rfl;kernel_rfl;(apply Ok1.add64;exact rfl;exact rfl;omega;omega))<;>(apply A.tk 10;exact rfl;kernel_rfl;(apply Ok1.fieldAddr;(iterate 5 exact rfl)))<;>(apply A.tk 11;exact rfl;kernel_rfl;(apply Ok1.fieldAddr;(iterate 5 exact rfl)))<;>(apply A.one 12;kernel_rfl;exact rfl;(((apply R.store;(iterate 6 exact rfl);exact Upd.head;exact rfl)));apply R.nil;refine ⟨?_,?_⟩;(focus ((repeat' (exact trivial)))))<;>(apply A.done;kernel_rfl)))|(apply T.drawC (id:=15) [] (by decide);((apply A.tk 0;exact rfl;kernel_rfl;(apply Ok1.fieldAddr;(iterate 5 exact rfl)))<;>(apply A.tk 1;exact rfl;kernel_rfl;(apply Ok1.fieldAddr;(iterate 5 exact rfl)))<;>(apply A.tk 4;exact rfl;kernel_rfl;(apply Ok1.move;exact rfl))<;>(apply A.tk 5;exact rfl;kernel_rfl;(apply Ok1.move;exact rfl))<;>(apply A.tk 6;exact rfl;kernel_rfl;(apply Ok1.indexAddrP;(iterate 4 exact rfl);exact hpe;exact rfl;omega;omega))<;>(apply A.tk 7;exact rfl;kernel_rfl;(apply Ok1.load;exact rfl;first|(apply Ld.byteAt H;exact List.not_mem_nil;exact rfl;exact rfl;exact f14;(focus ((simp;done))))|(apply Ld.byteAt H;exact List.not_mem_nil;exact rfl;exact rfl;exact f15;(focus ((simp;done))))|(apply Ld.byteAt H;exact List.not_mem_nil;exact rfl;exact rfl;exact f16;(focus ((simp;done))))|(apply Ld.byteAt H;exact List.not_mem_nil;exact rfl;exact rfl;exact f17;(focus ((simp;done))))))<;>(apply A.tk 8;exact rfl;kernel_rfl;(apply Ok1.convI64;(iterate 5 exact rfl);omega;omega))<;>(apply A.one 2;kernel_rfl;exact rfl;(((apply R.pure;exact rfl;(apply Ok1.load;exact rfl;(apply Ld.own1;exact rfl;exact rfl;exact At.head;exact rfl)))));apply R.nil;refine ⟨?_,?_⟩;(focus ((repeat' (exact trivial)))))<;>(apply A.tk 3;exact rfl;kernel_rfl;(apply Ok1.mul64;exact rfl;exact rfl;omega;omega))<;>(apply A.tk 9;exact rfl;kernel_rfl;(apply Ok1.add64;exact rfl;exact rfl;omega;omega))<;>(apply A.tk 10;exact rfl;kernel_rfl;(apply Ok1.fieldAddr;(iterate 5 exact rfl)))<;>(apply A.tk 11;exact rfl;kernel_rfl;(apply Ok1.fieldAddr;(iterate 5 exact rfl)))<;>(apply A.one 12;kernel_rfl;exact rfl;(((apply R.store;(iterate 6 exact rfl);exact Upd.head;exact rfl)));apply R.nil;refine ⟨?_,?_⟩;(focus ((repeat' (exact trivial)))))<;>(apply A.done;kernel_rfl)))|apply T.seq|apply T.region|apply T.block|apply T.skip|apply T.exit|(apply T.cond_t;exact rfl)|(apply T.cond_f;exact rfl)))
  rename_i b2 b5
  refine ⟨?_⟩
  have hCE:256 * (256 * (256 * (256 * 0+y14)+y15)+y16)+y17=b:=by omega
  have hset:∀ (i:Nat) (x:Int) (d:Cl) (u v z:Int) (q:Option Addr) (m l:Nat),i < 32→t[i]? = some x→∀ o,o=9+i→setE (pkC k d u v z q m l (t.take i++zI (32 - i))) o [.int .u8 x]=some (pkC k d u v z q m l (t.take (i+1)++zI (32 - (i+1)))):=by
    intro i x d u v z q m l hi hx o ho
    have hl:(t.take i++zI (32 - i)).length=32:=by
      unfold zI
      rw [List.length_append,List.length_take,List.length_replicate];omega
    rw [ho,setE_one (by rw [pk_len k d u v z q m l hl];omega),pkC_set]
    have e1:(t.take i).length=i:=by rw [List.length_take];omega
    have e2:zI (32 - i)=0::zI (32 - (i+1)):=by
      rw [show 32 - i=(32 - (i+1))+1 by omega];rfl
    rw [List.set_append_right _ _ (by omega),e1,Nat.sub_self,e2,List.set_cons_zero,List.take_add_one,hx]
    simp
  repeat' (first|(apply R.is1;(apply R.pure;exact rfl;(apply Ok1.assign;exact rfl)))|apply R.nil|(apply T.is;first|apply T.seq|apply T.region|apply T.block))
  apply T.loopK (α:=Nat) (I:=fun i=>i≤32) (σi:=fun i=>[(0,.slice p n cap),(2,.pointer (some ⟨b2,0,none⟩)),(4,.int .i64 (256 * y18+y19)),(5,.pointer (some ⟨b5,0,none⟩)),(7,.int .i64 i)]) (Li:=fun i=>[(b5,.cells ⟨pkC k cl0 (256 * y10+y11) (256 * y12+y13) (256 * (256 * (256 * (256 * 0+y14)+y15)+y16)+y17) (sufP p cap 20 1) (20+body.length - 20) (cap - 20) (t.take i++zI (32 - i))⟩ 136 (0,0)),(b2,.cells ⟨pkC 0 cl0 0 0 0 none 0 0 (zI 32)⟩ 136 (0,0))]) (μ:=fun i=>32 - i) (i0:=0)
  · exact Nat.zero_le _
  · exact ⟨rfl,rfl,rfl,rfl,rfl,trivial⟩
  · show Keep _ [(b5,_),(b2,_)]
    (focus (repeat' first|exact Keep.nil _|exact Ext.one _ _|apply Keep.cons);done)
  rintro i hi
  rcases Nat.lt_or_ge i 32 with hlt|hge
  · obtain ⟨x,hx⟩:∃ x,t[i]? = some x:=⟨_,List.getElem?_eq_getElem (by omega)⟩
    have hxs:=htg i x hx
    repeat' (first|(apply R.is1;first|(apply R.isBin;(apply R.pure;exact rfl;first|(apply Ok1.add64;exact rfl;exact rfl;omega;omega)|(apply Ok1.lss_t;exact rfl;exact rfl;omega)))|(apply R.pure;exact rfl;first|(apply Ok1.indexAddrP;(iterate 4 exact rfl);exact hpe;exact rfl;omega;omega)|(apply Ok1.load;exact rfl;(apply Ld.byteAt H;exact List.not_mem_nil;exact rfl;exact rfl;exact hxs;(focus ((simp;omega)))))|(apply Ok1.move;exact rfl)|(apply Ok1.fieldAddr;(iterate 5 exact rfl))|(apply Ok1.assign;exact rfl)|(apply Ok1.indexAddrA;(iterate 5 exact rfl);omega;omega)))|(apply R.is0;(apply R.store;(iterate 6 exact rfl);exact Upd.head;exact hset i x _ _ _ _ _ _ _ hlt hx _ (by (simp;done))))|apply R.nil|(apply T.is;first|apply T.seq|apply T.region|apply T.block|apply T.skip|(apply T.cond_t;exact rfl)))
    all_goals skip
    exact ⟨i+1,by omega,by omega,⟨rfl,rfl,rfl,rfl,rfl,trivial⟩,by (focus (repeat' first|exact Keep.nil _|exact Ext.one _ _|apply Keep.cons);done)⟩
  have him:i=32:=by omega
  subst him
  have e3:t.take 32++zI (32 - 32)=t:=by
    rw [List.take_of_length_le (by omega)]
    exact List.append_nil t
  rw [e3,s10,s12,hCE,Nat.add_sub_cancel_left]
  have hpl:=pk_len k c to a b (sufP p cap 20 1) body.length (cap - 20) ht
  have hal:=subE_all hpl
  have hone:=pk_one k c to a b (sufP p cap 20 1) body.length (cap - 20) t
  have hst:setE (pkC 0 cl0 0 0 0 none 0 0 (zI 32)) 0 (pkC k c to a b (sufP p cap 20 1) body.length (cap - 20) t)=some (pkC k c to a b (sufP p cap 20 1) body.length (cap - 20) t):=setE_all (by rw [hpl];rfl)
  repeat' (first|(apply R.is1;first|(apply R.isBin;(apply R.pure;exact rfl;first|(apply Ok1.add64;exact rfl;exact rfl;omega;omega)|(apply Ok1.lss_f;exact rfl;exact rfl;omega)|(apply Ok1.gtr_f;exact rfl;exact rfl;omega)|(apply Ok1.neq_f;exact rfl;exact rfl;omega)))|(apply R.isCall;first|(apply R.callE (vs:=[.slice (sufP p cap 1 1) 9 (cap - 1)]);(iterate 3 exact rfl);exact Ext.none _;intro w1 hw1;exact hpc w1 hw1.chg;rintro v Lo ⟨rfl,rfl⟩)|apply R.callP rfl rfl rfl hck|(apply R.pure;exact rfl;(apply Ok1.lenS;(iterate 3 exact rfl))))|(apply R.pure;exact rfl;first|(apply Ok1.load;exact rfl;first|(apply Ld.own1;exact rfl;exact rfl;exact At.head;exact rfl)|(apply Ld.ownk;exact rfl;exact rfl;(focus (repeat' first|exact At.head|apply At.tail);done);exact hal)|(apply Ld.ownk;exact rfl;exact rfl;exact At.head;exact rfl))|(apply Ok1.midRE (i:=1) (j:=10) (sz:=1);(iterate 7 exact rfl);omega;omega;omega;omega)|(apply Ok1.move;exact rfl)|(apply Ok1.fieldAddr;(iterate 5 exact rfl))|(apply Ok1.assign;exact rfl)|(apply Ok1.extract;exact rfl;exact rfl)|(apply Ok1.pick_f;exact rfl;exact rfl))|(apply R.alloc;(iterate 3 exact rfl);intro))|(apply R.is0;first|(apply R.store;(iterate 4 exact rfl);exact hpl;exact hone;(focus (repeat' first|exact Upd.head|apply Upd.tail);done);exact hst)|(apply R.store;(iterate 6 exact rfl);(focus (repeat' first|exact Upd.head|apply Upd.tail);done);exact rfl))|(apply R.isG;(apply R.guard_run;exact rfl;exact rfl))|apply R.nil|(apply T.is;first|apply T.seq|apply T.region|apply T.skip|apply T.exit|apply T.ret|(apply T.cond_f;exact rfl)))
  all_goals skip
  (apply RetOk.ct;exact rfl;(apply Ld.ownk;exact rfl;exact rfl;(focus (repeat' first|exact At.head|apply At.tail);done);exact hal);exact rfl)
  exact ⟨_,by (focus ((repeat' (exact Keep.nil _));done)),rfl,rfl⟩
theorem of28_one (p:Option Addr) (cap:Nat) (a:Int) (q:Option Addr) (m c2:Nat) (w:World) (hp:RdSl w p ltV [(a,.slice q m c2)]):CallM Tryz.prog 13 [.slice p 1 cap] [] w fun v L=>∃ ob j junk,junk.length=j * 2∧v = .slice (some ⟨ob,0,none⟩) 1 (1+j)∧L=[(ob,.cells ⟨[.int .i64 a,.slice q m c2]++junk⟩ 55 (0,0))]:=by
  obtain ⟨b,o,hpe,H⟩:=hp.at (i:=0) rfl
  replace H:=H 2 (fun _=>rfl)
  have hv:ltV (a,.slice q m c2)=[.int .i64 a,.slice q m c2]:=rfl
  rw [hv] at H
  refine enterK (tb:=tb) Tryz.func13 rfl Tryz.ntmps13 rfl ?_
  repeat' (first|(apply R.is1;first|(apply R.isBin;(apply R.pure;exact rfl;first|(apply Ok1.add64;exact rfl;exact rfl;omega;omega)|(apply Ok1.lss_t;exact rfl;exact rfl;omega)|(apply Ok1.lss_f;exact rfl;exact rfl;omega)))|(apply R.isCall;(apply R.pure;exact rfl;(apply Ok1.lenS;(iterate 3 exact rfl))))|(apply R.pure;exact rfl;first|(apply Ok1.move;exact rfl)|(apply Ok1.assign;exact rfl)))|apply R.nil|(apply T.is;first|apply T.rounds 2|(apply T.drawC (id:=5) [] (by decide);((apply A.tk 0;exact rfl;kernel_rfl;(apply Ok1.move;exact rfl))<;>(apply A.tk 1;exact rfl;kernel_rfl;(apply Ok1.move;exact rfl))<;>(apply A.tk 2;exact rfl;kernel_rfl;(apply Ok1.move;exact rfl))<;>(apply A.tk 3;exact rfl;kernel_rfl;(apply Ok1.indexAddrP;(iterate 4 exact rfl);exact hpe;exact rfl;omega;omega))<;>(apply A.tk 4;exact rfl;kernel_rfl;(apply Ok1.fieldAddr;(iterate 5 exact rfl)))<;>(apply A.tk 5;exact rfl;kernel_rfl;(apply Ok1.load;exact rfl;(apply Ld.row0 H;exact rfl;exact List.not_mem_nil;(iterate 3 exact rfl))))<;>(apply A.tk 6;exact rfl;kernel_rfl;(apply Ok1.move;exact rfl))<;>(apply A.tk 7;exact rfl;kernel_rfl;(apply Ok1.move;exact rfl))<;>(apply A.tk 8;exact rfl;kernel_rfl;(apply Ok1.indexAddrP;(iterate 4 exact rfl);exact hpe;exact rfl;omega;omega))<;>(apply A.tk 9;exact rfl;kernel_rfl;(apply Ok1.fieldAddr;(iterate 5 exact rfl)))<;>(apply A.tk 10;exact rfl;kernel_rfl;(apply Ok1.load;exact rfl;(apply Ld.row1 H;exact rfl;exact List.not_mem_nil;(iterate 3 exact rfl))))<;>(apply A.tk 11;exact rfl;kernel_rfl;(apply Ok1.build;(iterate 5 exact rfl)))<;>(apply A.one 12;kernel_rfl;exact rfl;(((apply R.buildSlice;(iterate 12 exact rfl);intro)));apply R.nil;refine ⟨?_,?_⟩;(focus ((repeat' (exact trivial)))))<;>(apply A.one 13;kernel_rfl;exact rfl;(((apply R.append1;(iterate 12 exact rfl);(focus ((repeat' (exact OwnAt.nil _));done));exact At.head;exact rfl;exact rfl;omega;omega;intro b2 j2 k2 hj2)));apply R.nil;refine ⟨?_,?_⟩;(focus ((repeat' (exact trivial)))))<;>(apply A.tk 14;exact rfl;kernel_rfl;(apply Ok1.assign;exact rfl))<;>(apply A.done;kernel_rfl)))|apply T.seq|apply T.region|apply T.block|apply T.skip|apply T.exit|apply T.ret|(apply T.cond_t;exact rfl)|(apply T.cond_f;exact rfl)))
  (apply RetOk.t;exact rfl)
  exact ⟨_,by (focus (repeat' first|exact Keep.nil _|exact Ext.one _ _|apply Keep.cons);done),b2,j2,k2,hj2,rfl,rfl⟩
theorem own28_ok (a:Int) (c:Cl) (s:List Int) (to boot cnt:Int) (hr:c.right) (ht0:0≤to) (ht1:to≤3) (hnr:NR boot cnt) (p:Option Addr) (n cap:Nat) (hn:n=(wrG c s 1 to boot cnt []).length) (hcap:n≤cap) (ha:a=65536+to) (bm:Nat) (cs:List Value) (e1:TypeId) (f1:Nat × Nat) (hcs:subE cs 0 4=some [.int .i64 c.id,.int .i64 c.roles,.int .i64 c.exp,.int .i64 c.ser]) (w:World) (hp:RdSl w p u8V (wrG c s 1 to boot cnt [])) (hm:w.heap[bm]? = some (.cells ⟨cs⟩ e1 f1)) :
    CallM Tryz.prog 12 [.agg ⟨[.int .i64 a,.slice p n cap]⟩,.pointer (some ⟨bm,0,none⟩)] [] w fun v L=>v = .bool true∧L=[]:=by
  have hG:wrG c s 1 to boot cnt []=pkB 1 c to boot cnt [] (zI 32):=rfl
  rw [hG] at hp hn
  have hE:pckE 1 c to boot cnt ([]:List Int).length (zI 32)=0:=by
    unfold pckE
    rw [if_neg (fun h=>h ⟨by decide,by decide⟩),if_neg (fun h=>h ⟨hr,by omega,by omega,hnr⟩),if_neg (by decide),if_neg (fun h=>h.2 rfl)]
  have hzb:Byt (zI 32):=fun y hy=>by have:=List.eq_of_mem_replicate hy;omega
  have hps:=fun w1 (h:Chg [] w w1)=>vparse14_ok 1 c to boot cnt [] (zI 32) rfl hzb hE p n cap hn hcap w1 (hp.chg' h (fun _=>Off.nil _))
  have hwy:=vway_ok 1 (by decide) (by decide)
  rw [show wayI 1=1 from rfl] at hwy
  have hpl:=pk_len 1 c to boot cnt (sufP p cap 20 1) 0 (cap - 20) (t:=zI 32) rfl
  have hone:=pk_one 1 c to boot cnt (sufP p cap 20 1) 0 (cap - 20) (zI 32)
  subst ha
  refine enterK (tb:=tb) Tryz.func12 rfl Tryz.ntmps12 rfl ?_
  repeat' (first|(apply R.is1;first|(apply R.isBin;(apply R.pure;exact rfl;first|(apply Ok1.add64;exact rfl;exact rfl;omega;omega)|(apply Ok1.eql_t;exact rfl;exact rfl;omega)))|(apply R.isCall;first|(apply R.callE (vs:=[.slice p n cap]);(iterate 3 exact rfl);exact Ext.none _;intro w1 hw1;exact hps w1 hw1.chg;rintro v Lo ⟨rfl,rfl⟩)|apply R.callP rfl rfl rfl hwy)|(apply R.pure;exact rfl;first|(apply Ok1.load;exact rfl;(apply Ld.own1;exact rfl;exact rfl;(focus (repeat' first|exact At.head|apply At.tail);done);exact rfl))|(apply Ok1.move;exact rfl)|(apply Ok1.fieldAddr;(iterate 5 exact rfl))|(apply Ok1.assign;exact rfl)|(apply Ok1.extract;exact rfl;exact rfl))|(apply R.box;(iterate 3 exact rfl);intro)|(apply R.alloc;(iterate 3 exact rfl);intro))|(apply R.is0;(apply R.store;(iterate 6 exact rfl);exact Upd.head;exact rfl))|apply R.nil|(apply T.is;first|(apply T.drawC (id:=2) [0] (by decide);((apply A.tk 0;exact rfl;kernel_rfl;(apply Ok1.move;exact rfl))<;>((apply A.tk 1;exact rfl;kernel_rfl;(apply Ok1.neq_f;exact rfl;exact rfl;omega)))<;>(apply A.tk 2;exact rfl;kernel_rfl;(apply Ok1.move;exact rfl))<;>((apply A.tkG 3;(iterate 3 exact rfl);kernel_rfl;(apply Ok1.fieldAddr;(iterate 5 exact rfl))))<;>((apply A.tkG 4;(iterate 3 exact rfl);kernel_rfl;(apply Ok1.load;exact rfl;(apply Ld.ownk;exact rfl;exact rfl;exact At.head;exact rfl))))<;>((apply A.tkG 5;(iterate 3 exact rfl);kernel_rfl;(apply Ok1.move;exact rfl)))<;>((apply A.tkG 6;(iterate 3 exact rfl);kernel_rfl;(apply Ok1.nilCheck;exact rfl)))<;>((apply A.tkG 7;(iterate 3 exact rfl);kernel_rfl;(apply Ok1.fieldAddr;(iterate 5 exact rfl))))<;>((apply A.tkG 8;(iterate 3 exact rfl);kernel_rfl;(apply Ok1.load;exact rfl;(apply Ld.blkk;exact rfl;exact rfl;exact hm;exact List.not_mem_nil;exact hcs))))<;>((apply A.tkG 9;(iterate 3 exact rfl);kernel_rfl;((apply Ok1.neqF;(iterate 7 exact rfl)));apply A.dec (t:=22);exact rfl;all_goals intro))<;>(apply A.tk 10;exact rfl;kernel_rfl;(apply Ok1.pick_f;exact rfl;exact rfl))<;>(apply A.tk 11;exact rfl;kernel_rfl;(apply Ok1.move;exact rfl))<;>(first|(apply A.skG 12;(iterate 3 exact rfl);kernel_rfl)|(apply A.tkG 12;(iterate 3 exact rfl);kernel_rfl;(apply Ok1.fieldAddr;(iterate 5 exact rfl))))<;>(first|(apply A.skG 13;(iterate 3 exact rfl);kernel_rfl)|(apply A.tkG 13;(iterate 3 exact rfl);kernel_rfl;(apply Ok1.load;exact rfl;(apply Ld.own1;exact rfl;exact rfl;exact At.head;exact rfl))))<;>(apply A.one 14;kernel_rfl;exact rfl;((first|(apply R.isG;apply R.guard_run;exact rfl;exact rfl;(apply R.callP rfl rfl rfl hwy))|(apply R.isG;(apply R.guard_not;(iterate 3 exact rfl)))));apply R.nil;refine ⟨?_,?_⟩;(focus ((repeat' (first|exact trivial|(refine ⟨?_,?_⟩;exact At.head))))))<;>(first|(apply A.skG 15;(iterate 3 exact rfl);kernel_rfl)|(apply A.tkG 15;(iterate 3 exact rfl);kernel_rfl;(apply Ok1.eql_f;exact rfl;exact rfl;omega)))<;>(apply A.tk 16;exact rfl;kernel_rfl;first|(apply Ok1.pick_t;exact rfl;exact rfl)|(apply Ok1.pick_f;exact rfl;exact rfl))<;>(apply A.done;kernel_rfl)))|apply T.seq|apply T.region|apply T.skip|apply T.ret|(apply T.cond_t;exact rfl)|(apply T.cond_f;exact rfl)))
  all_goals first|(exfalso;exact absurd rfl (by assumption))|skip
  all_goals (apply RetOk.t;exact rfl)
  all_goals exact ⟨_,by (focus ((repeat' (exact Keep.nil _));done)),rfl,rfl⟩
end Go.Proofs.YtcfdgnajepilbaaGreat
set_option linter.unusedSimpArgs false
set_option linter.unusedVariables false
namespace Go.Proofs.YtcfdgnajepilbaaGreat
open Go.RowKit Go.Shelf Go.Sort
set_option maxRecDepth 100000
def c28:Cl:=⟨5,0,100,1⟩
def k28:List Int:=[48,49,50,51,52,53,54,55,56,57,97,98,99,100,101,102]
theorem hello_E (c:Cl) (to boot cnt:Int) (hr:c.right) (h0:0≤to) (h1:to≤3) (hnr:NR boot cnt):pckE 1 c to boot cnt ([]:List Int).length (zI 32)=0:=by
  unfold pckE
  rw [if_neg (fun h=>h ⟨by decide,by decide⟩),if_neg (fun h=>h ⟨hr,by omega,by omega,hnr⟩),if_neg (by decide),if_neg (fun h=>h.2 rfl)]
theorem zI_byt:Byt (zI 32):=fun y hy=>by have:=List.eq_of_mem_replicate hy;omega
/-- A hello's bytes are read. -/
theorem hello_parse (c:Cl) (s:List Int) (to boot cnt:Int) (hr:c.right) (h0:0≤to) (h1:to≤3) (hnr:NR boot cnt) (p:Option Addr) (n cap:Nat) (hn:n=(wrG c s 1 to boot cnt []).length) (w:World) (hp:RdSl w p u8V (wrG c s 1 to boot cnt [])) :
    CallM Tryz.prog 11 [.slice p n cap] [] w fun v L=>∃ ov,OvOk 1 ov 0 (u8s [])∧v = .tuple #[.agg ⟨pkC 1 c to boot cnt (ovp ov) 0 (ovc ov 0) (zI 32)⟩,.int .i64 0]∧L=blkL 5 ov (u8s []) :=
  parse_wr p n cap 1 c to boot cnt [] (zI 32) rfl zI_byt byt_nil (hello_E c to boot cnt hr h0 h1 hnr) hn w hp
theorem known28_ok:CallP Tryz.prog 14 [] (.bool true):=by
  have hkb:Byt k28:=by intro x hx;simp only [k28,List.mem_cons,List.not_mem_nil,or_false] at hx;omega
  have hkl:k28.length=16:=rfl
  have hr:c28.right:=by decide
  have hsl:=secret_len k28 c28
  have hsb:=secret_byt k28 c28
  have hmk:=fun bk w1 hk=>make_ok c28 hr bk k28 (by decide) hkb w1 hk
  have hcell:u8s k28++[]=[.int .u8 48,.int .u8 49,.int .u8 50,.int .u8 51,.int .u8 52,.int .u8 53,.int .u8 54,.int .u8 55,.int .u8 56,.int .u8 57,.int .u8 97,.int .u8 98,.int .u8 99,.int .u8 100,.int .u8 101,.int .u8 102]:=rfl
  generalize hd:secretI k28 c28=d at *
  have htl:=tk_len (c:=c28) hsl
  have hto:=tk_one c28 d
  have hnn:=fun w1=>nnew_ok c28 hr d hsl hsb 1 2 (by decide) (by decide) 7 w1
  refine enterP (tb:=tb) Tryz.func14 rfl Tryz.ntmps14 rfl fun w0=>?_
  repeat' (first|(apply R.is1;first|(apply R.convSame;(iterate 6 exact rfl);exact Upd.head)|(apply R.isCall;first|(apply R.callE (vs:=[.slice (some ⟨_,0,none⟩) 16 16]);(iterate 3 exact rfl);exact Ext.none _;intro w1 hw1;exact new_ok (some ⟨_,0,none⟩) 16 16 k28 hkl.symm (by decide) w1 (RdSl.of (junk:=[]) hw1 (by exact At.head) (by rw [fl_u8];exact hcell.symm));rintro v Lo ⟨bk,ov,rfl,hov,_,rfl⟩)|(apply R.callV (vs:=[.pointer (some ⟨bk,0,none⟩),.agg _]);(iterate 3 exact rfl);intro w1 hw1;exact hmk bk w1 (KeyR.of hov hw1 (Ext.mem (by (focus ((repeat' (exact Ext.here _ _));done))))))|(apply R.callE (vs:=[.agg ⟨tkC c28 d⟩,.int .i64 1,.int .i64 2,.int .u64 7]);(iterate 3 exact rfl);exact Ext.none _;intro w1 hw1;exact hnn w1;rintro v Lo ⟨x,hx,hxc,hxs,hxb,hxS,rfl,hL⟩))|(apply R.pure;exact rfl;first|(apply Ok1.load;exact rfl;(apply Ld.ownk;exact rfl;exact rfl;exact At.head;exact subE_all htl))|(apply Ok1.move;exact rfl)|(apply Ok1.assign;exact rfl)|(apply Ok1.build;(iterate 5 exact rfl))|(apply Ok1.extract;exact rfl;exact rfl))|(apply R.alloc;(iterate 3 exact rfl);intro)|(apply R.buildSlice;(iterate 12 exact rfl);intro))|(apply R.is0;(apply R.store;(iterate 4 exact rfl);exact htl;exact hto;exact Upd.head;exact setE_all htl))|apply R.nil|(apply T.is;first|(apply T.stop1 3)|apply T.seq|apply T.region))
  refine ⟨?_⟩
  have ht0:NST.ok ⟨0,0,0,0,0,7⟩ x:=⟨.inl rfl,⟨Int.le_refl _,by rw [hxS];decide⟩,⟨by decide,by decide⟩,by decide,⟨by decide,by decide⟩⟩
  have htk:∀ w1,CallM Tryz.prog 10 [.pointer (some ⟨x.bN,0,none⟩),.int .i64 1] Lo w1 fun v L=>∃ (sd:Int) (G:List Int) (ob j:Nat) (junk:List Value) (ov:Ov),0≤sd∧sd < 2∧G=wrG x.c x.s 1 sd x.boot 1 []∧OvOk 1 ov G.length (u8s G)∧v = .slice (some ⟨ob,0,none⟩) 1 (1+j)∧∃ Lr,L=(ob,.cells ⟨[.int .i64 (65536+sd),.slice (ovp ov) G.length (ovc ov G.length)]++junk⟩ 53 (0,0))::(blkL 5 ov (u8s G)++Lr):=by
    intro w1
    rw [hL]
    refine (ntick_ok x hx _ ht0 (by decide) 1 w1).imp ?_
    rintro v L (⟨g,_⟩|⟨_,t2,h1,h2,(⟨g,_⟩|⟨h3,ob,j,junk,ov,h4,h5,h6,h7⟩)⟩)
    · exact absurd g (by decide)
    · exact absurd g (by decide)
    · have e1:t2.cnt=1:=h3
      rw [e1] at h5 h7
      have:=h2.sd
      rw [hxS] at this
      exact ⟨t2.sdd,_,ob,j,junk,ov,this.1,this.2,rfl,h5,h6,_,h7⟩
  have hps:=fun sd (h0:0≤sd) (h1:sd < 2) p n cap hn w1 hp=>hello_parse x.c x.s sd x.boot 1 hx.c h0 (by omega) (show NR x.boot 1 by rw [hxb];decide) p n cap hn w1 hp
  have hl1:=fun sd p2 cap2=>pk_len 1 x.c sd x.boot 1 p2 0 cap2 (t:=zI 32) rfl
  have ho1:=fun sd p2 cap2=>pk_one 1 x.c sd x.boot 1 p2 0 cap2 (zI 32)
  clear hnn hmk hkb hcell
  rename_i b9 b1
  generalize KL bk ov k28=KK at *
  repeat' (first|(apply R.is1;first|(apply R.isBin;(apply R.pure;exact rfl;(apply Ok1.neq_f;exact rfl;exact rfl;omega)))|(apply R.isCall;first|(apply R.callE (Li:=Lo) (vs:=[.pointer (some ⟨x.bN,0,none⟩),.int .i64 1]);(iterate 3 exact rfl);exact Ext.here _ _;intro w1 hw1;exact htk w1;rintro v Lq ⟨sd,G,ob,jn,junk,ovw,hs0,hs1,hG,hovw,rfl,Lr,rfl⟩;simp only [List.cons_append,List.append_assoc])|(apply R.callE (vs:=[.slice (ovp ovw) G.length (ovc ovw G.length)]);(iterate 3 exact rfl);exact Ext.none _;intro w1 hw1;exact hps sd hs0 hs1 (ovp ovw) G.length (ovc ovw G.length) (by rw [hG]) w1 (by rw [← hG];exact rdown hovw hw1 (Ext.mem (by (focus (repeat' first|exact Ext.here _ _|apply Ext.cons);done))));rintro v Lq ⟨ovp2,hovp2,rfl,rfl⟩)|(apply R.pure;exact rfl;(apply Ok1.lenS;(iterate 3 exact rfl))))|(apply R.pure;exact rfl;first|(apply Ok1.load;exact rfl;(apply Ld.own1;exact rfl;exact rfl;exact At.head;exact rfl))|(apply Ok1.move;exact rfl)|(apply Ok1.fieldAddr;(iterate 5 exact rfl))|(apply Ok1.assign;exact rfl)|(apply Ok1.indexAddr;(iterate 5 exact rfl);omega;omega)|(apply Ok1.extract;exact rfl;exact rfl)|(apply Ok1.pick_f;exact rfl;exact rfl))|(apply R.alloc;(iterate 3 exact rfl);intro))|(apply R.is0;(apply R.store;(iterate 4 exact rfl);exact (hl1 _ _ _);exact (ho1 _ _ _);exact Upd.head;exact setE_all (hl1 _ _ _)))|(apply R.isG;(apply R.guard_run;exact rfl;exact rfl))|apply R.nil|(apply T.is;first|(apply T.stop1 7)|apply T.seq|apply T.region|apply T.skip|(apply T.cond_f;exact rfl)))
  rename_i b6
  refine ⟨?_⟩
  refine T.weakK (σ':=[(5,.slice (some ⟨ob,0,none⟩) 1 (1+jn)),(6,.pointer (some ⟨b6,0,none⟩)),(7,.int .i64 0)]) (L':=[(b6,.cells ⟨pkC 1 x.c sd x.boot 1 (ovp ovp2) 0 (ovc ovp2 0) (zI 32)⟩ 48 (0,0)),(ob,.cells ⟨[.int .i64 (65536+sd),.slice (ovp ovw) G.length (ovc ovw G.length)]++junk⟩ 53 (0,0))]) ?_ (by (focus (repeat' first|exact Keep.nil _|exact Ext.one _ _|apply Keep.cons|apply Ext.app);done)) ⟨rfl,rfl,rfl,trivial⟩
  repeat' ((apply T.is;first|(apply T.drawC (id:=7) [0,1] (by decide);((apply A.tk 0;exact rfl;kernel_rfl;(apply Ok1.move;exact rfl))<;>((apply A.tk 1;exact rfl;kernel_rfl;(apply Ok1.eql_t;exact rfl;exact rfl;omega)))<;>(apply A.tk 2;exact rfl;kernel_rfl;(apply Ok1.move;exact rfl))<;>((apply A.tkG 3;(iterate 3 exact rfl);kernel_rfl;(apply Ok1.fieldAddr;(iterate 5 exact rfl))))<;>((apply A.tkG 4;(iterate 3 exact rfl);kernel_rfl;(apply Ok1.load;exact rfl;(apply Ld.own1;exact rfl;exact rfl;exact At.head;exact rfl))))<;>((apply A.tkG 5;(iterate 3 exact rfl);kernel_rfl;(apply Ok1.eql_t;exact rfl;exact rfl;omega)))<;>(apply A.tk 6;exact rfl;kernel_rfl;(apply Ok1.pick_t;exact rfl;exact rfl))<;>(apply A.tk 7;exact rfl;kernel_rfl;(apply Ok1.move;exact rfl))<;>((apply A.tkG 8;(iterate 3 exact rfl);kernel_rfl;(apply Ok1.move;exact rfl)))<;>((apply A.tkG 9;(iterate 3 exact rfl);kernel_rfl;(apply Ok1.indexAddr;(iterate 5 exact rfl);omega;omega)))<;>((apply A.tkG 10;(iterate 3 exact rfl);kernel_rfl;(apply Ok1.fieldAddr;(iterate 5 exact rfl))))<;>((apply A.tkG 11;(iterate 3 exact rfl);kernel_rfl;(apply Ok1.load;exact rfl;(apply Ld.own1;exact rfl;exact rfl;(focus (repeat' first|exact At.head|apply At.tail);done);exact rfl))))<;>((apply A.tkG 12;(iterate 3 exact rfl);kernel_rfl;(apply Ok1.fieldAddr;(iterate 5 exact rfl))))<;>((apply A.tkG 13;(iterate 3 exact rfl);kernel_rfl;(apply Ok1.load;exact rfl;(apply Ld.own1;exact rfl;exact rfl;exact At.head;exact rfl))))<;>((apply A.tkG 14;(iterate 3 exact rfl);kernel_rfl;(apply Ok1.add64;exact rfl;exact rfl;omega;omega)))<;>((apply A.tkG 15;(iterate 3 exact rfl);kernel_rfl;(apply Ok1.eql_t;exact rfl;exact rfl;omega)))<;>(apply A.tk 16;exact rfl;kernel_rfl;(apply Ok1.pick_t;exact rfl;exact rfl))<;>(apply A.tk 17;exact rfl;kernel_rfl;(apply Ok1.move;exact rfl))<;>((apply A.tkG 18;(iterate 3 exact rfl);kernel_rfl;(apply Ok1.fieldAddr;(iterate 5 exact rfl))))<;>((apply A.tkG 19;(iterate 3 exact rfl);kernel_rfl;(apply Ok1.load;exact rfl;(apply Ld.own1;exact rfl;exact rfl;exact At.head;exact rfl))))<;>((apply A.tkG 20;(iterate 3 exact rfl);kernel_rfl;(apply Ok1.lss_t;exact rfl;exact rfl;omega)))<;>(apply A.tk 21;exact rfl;kernel_rfl;(apply Ok1.pick_t;exact rfl;exact rfl))<;>(apply A.tk 22;exact rfl;kernel_rfl;(apply Ok1.assign;exact rfl))<;>(apply A.done;kernel_rfl)))|apply T.seq|apply T.ret))
  all_goals skip
  all_goals (apply RetOk.t;exact rfl)
  all_goals rfl
end Go.Proofs.YtcfdgnajepilbaaGreat
set_option linter.unusedSimpArgs false
set_option linter.unusedVariables false
namespace Go.Proofs.YtcfdgnajepilbaaGreat
open Go.RowKit Go.Shelf
set_option maxRecDepth 100000
theorem make28_ok (p:Option Addr) (n cap:Nat) (k:List Int) (hn:n=k.length) (hcap:n≤cap) (hkb:Byt k) (c:Cl) (b0 s0 D:Int) (w:World) (hp:RdSl w p u8V k) :
    CallM Tryz.prog 6 [.slice p n cap,kvC c,.int .i64 b0,.int .i64 s0,.int .u64 D] [] w fun v L=>∃ x:NI,x.ok∧v = .pointer (some ⟨x.bN,0,none⟩)∧L=x.L ⟨0,0,0,0,0,D⟩:=by
  subst hn
  obtain ⟨K,hK⟩:∃ K,K=k.take 60:=⟨_,rfl⟩
  have hmin:min (k.length:Int) 60=(K.length:Int):=by rw [hK,List.length_take];omega
  have hKr:RdSl w p u8V K:=by rw [hK];exact hp.pre u8V_len 60
  have hKb:Byt K:=by rw [hK];exact hkb.take 60
  have hKc:K.length≤cap:=by rw [hK,List.length_take];omega
  have hK60:K.length≤60:=by rw [hK,List.length_take];omega
  clear hK
  have htk:=fun w1 (h:Chg [] w w1)=>ltoken_any7 p K.length cap K rfl (by omega) hKb c w1 (hKr.chg' h (fun _=>Off.nil _))
  have hsl:=secret_len K (tcl7 c)
  have hsb:=secret_byt K (tcl7 c)
  have htr:=tcl7_right c
  obtain ⟨hu0,hu1⟩:=u64_rangeM b0
  obtain ⟨hv0,hv1⟩:=u64_rangeM s0
  generalize secretI K (tcl7 c)=s at *
  generalize tcl7 c=c2 at *
  have htl:=tk_len (c:=c2) hsl
  have hone:=tk_one c2 s
  have hst:∀ z:List Value,z.length=36→setE z 0 (tkC c2 s)=some (tkC c2 s):=fun z hz=>setE_all (by rw [htl,hz])
  have hnn:=fun boot S h1 h2 w1=>nnew_ok c2 htr s hsl hsb boot S h1 h2 D w1
  simp only [kvC] at htk ⊢
  refine enterK (tb:=tb) Tryz.func6 rfl Tryz.ntmps6 rfl ?_
  repeat' (first|(apply R.is1;first|(apply R.isBin;(apply R.pure;exact rfl;first|(apply Ok1.add64;exact rfl;exact rfl;omega;omega)|(apply Ok1.neq_f;exact rfl;exact rfl;omega)|(apply Ok1.remN;exact rfl;exact rfl;omega;omega)))|(apply R.isCall;(apply R.callE (vs:=[.agg ⟨tkC c2 s⟩,.int .i64 _,.int .i64 _,.int .u64 D]);(iterate 3 exact rfl);exact Ext.none _;intro w1 hw1;exact hnn _ _ (by omega) (by omega) w1;rintro v Lo ⟨x,hx,_,_,_,_,rfl,hL⟩))|(apply R.pure;exact rfl;first|(apply Ok1.load;exact rfl;(apply Ld.ownk;exact rfl;exact rfl;exact At.head;exact subE_all htl))|(apply Ok1.move;exact rfl)|(apply Ok1.assign;exact rfl)|(apply Ok1.extract;exact rfl;exact rfl)|(apply Ok1.convI64;(iterate 5 exact rfl);omega;omega)|(apply Ok1.conv;(iterate 5 exact rfl)))|(apply R.box;(iterate 3 exact rfl);intro))|apply R.nil|(apply T.is;first|(apply T.drawC (id:=1) [0] (by decide);((apply A.tk 0;exact rfl;kernel_rfl;(apply Ok1.move;exact rfl))<;>(apply A.tk 1;exact rfl;kernel_rfl;(apply Ok1.move;exact rfl))<;>(apply A.tk 2;exact rfl;kernel_rfl;(apply Ok1.lenS;(iterate 3 exact rfl)))<;>(apply A.tk 3;exact rfl;kernel_rfl;(apply Ok1.min2E;exact rfl;exact rfl;exact hmin))<;>(apply A.tk 4;exact rfl;kernel_rfl;(apply Ok1.preR (i:=K.length);(iterate 5 exact rfl);omega))<;>(apply A.tk 5;exact rfl;kernel_rfl;(apply Ok1.load;exact rfl;(apply Ld.ownk;exact rfl;exact rfl;exact At.head;exact rfl)))<;>(apply A.two 6 7;kernel_rfl;exact rfl;exact rfl;rotate_left 1;(focus (((((apply R.alloc;(iterate 3 exact rfl);intro)));apply R.nil;refine ⟨?_,?_⟩;(focus (repeat' first|exact trivial|exact At.head|apply At.tail|refine ⟨?_,?_⟩)))<;>(apply A.one 6;kernel_rfl;exact rfl;(((apply R.callE (vs:=[.slice p K.length cap,.agg ⟨_⟩]);(iterate 3 exact rfl);exact Ext.none _;intro w1 hw1;exact htk w1 hw1.chg;rintro v Lo ⟨rfl,rfl⟩)));apply R.nil;refine ⟨?_,?_⟩;(focus (repeat' first|exact trivial|exact At.head|apply At.tail|refine ⟨?_,?_⟩)))<;>(apply A.one 8;kernel_rfl;exact rfl;(((apply R.store;(iterate 4 exact rfl);exact htl;exact hone;exact Upd.head;exact hst _ rfl)));apply R.nil;refine ⟨?_,?_⟩;(focus (repeat' first|exact trivial|exact At.head|apply At.tail|refine ⟨?_,?_⟩)))<;>(apply A.done;kernel_rfl)));rotate_right 1;(focus (((((apply R.callE (vs:=[.slice p K.length cap,.agg ⟨_⟩]);(iterate 3 exact rfl);exact Ext.none _;intro w1 hw1;exact htk w1 hw1.chg;rintro v Lo ⟨rfl,rfl⟩)));apply R.nil;refine ⟨?_,?_⟩;(focus ((repeat' (first|exact trivial|(refine ⟨?_,?_⟩;exact At.head))))))<;>(apply A.one 7;kernel_rfl;exact rfl;(((apply R.alloc;(iterate 3 exact rfl);intro)));apply R.nil;refine ⟨?_,?_⟩;(focus (repeat' first|exact trivial|exact At.head|apply At.tail|refine ⟨?_,?_⟩)))<;>(apply A.one 8;kernel_rfl;exact rfl;(((apply R.store;(iterate 4 exact rfl);exact htl;exact hone;exact Upd.head;exact hst _ rfl)));apply R.nil;refine ⟨?_,?_⟩;(focus (repeat' first|exact trivial|exact At.head|apply At.tail|refine ⟨?_,?_⟩)))<;>(apply A.done;kernel_rfl))))))|apply T.seq|apply T.region|apply T.skip|apply T.ret|(apply T.cond_f;exact rfl)))
  all_goals skip
  all_goals (apply RetOk.t;exact rfl)
  all_goals exact ⟨_,by (focus (repeat' first|exact Ext.here _ _|apply Keep.last);done),x,hx,rfl,hL⟩
end Go.Proofs.YtcfdgnajepilbaaGreat
set_option linter.unusedSimpArgs false
set_option linter.unusedVariables false
namespace Go.Proofs.YtcfdgnajepilbaaGreat
open Go.RowKit Go.Shelf Go.Sort
set_option maxRecDepth 100000
def rr28:List Value:=[.slice none 0 0,.slice none 0 0,.slice none 0 0,.slice none 0 0,.slice none 0 0,.slice none 0 0,.slice none 0 0,.slice none 0 0,.slice none 0 0,.int .i64 0]

def sRn:Code→Code | .seq _ b=>b|c=>c
def bodyMn (f:Func):Code:=match f.body with|some c=>c|none=>.skip
theorem nodeTicks_loop (x:NI) (hx:x.ok) (b10:Nat) (D:Int) (pl:Option Addr) (cl:Nat) (ls:List Int) (w:World) (hls:RdSl w pl iV ls) :
    T ⟨Tryz.prog,tb,119,w,[]⟩ (sRn (sRn (sRn (sRn (sRn (bodyMn Tryz.f3)))))) (retQ ⟨Tryz.prog,tb,119,w,[]⟩ Tryz.f3.results.toList fun u _=>u = .bool true)
      [(2,.slice pl ls.length cl),(9,.pointer (some ⟨x.bN,0,none⟩)),(10,.pointer (some ⟨b10,0,none⟩)),(11,.int .i64 0)] ((b10,.cells ⟨mbC x.c (zI 32) 0 0 rr28⟩ 41 (0,0))::x.L ⟨0,0,0,0,0,D⟩):=by
  have hkn:=known28_ok
  obtain ⟨KR,hKR⟩:∃ KR,x.K=x.C::x.R::KR:=⟨_,rfl⟩
  have hLt:∀ t,x.L t=x.N (.slice none 0 0) t.now::JN x.bj x.bc x.S t.st t.sdd t.la none 0 0::CN x.bn x.boot t.cnt::dwB x.bd t.D::x.C::x.R::KR:=fun t=>by unfold NI.L;rw [hKR]
  have hNm:∀ t,x.N (.slice none 0 0) t.now∈x.L t:=fun t=>by rw [hLt];exact List.mem_cons_self
  have hCm:∀ t,x.C∈x.L t:=fun t=>by rw [hLt];simp
  have hRm:∀ t,x.R∈x.L t:=fun t=>by rw [hLt];simp
  have hnw:=fun t {w1:World} {S:List Nat} {L:Lst} (hw:Hp w S L w1) (hm:∀ q∈x.L t,q∈L)=>nnow_ok x (.slice none 0 0) t.now w1 (hw.get _ _ (hm _ (hNm t)))
  have htk:∀ t:NST,t.ok x→t.cnt≤1000→∀ tick w1,CallM Tryz.prog 10 [.pointer (some ⟨x.bN,0,none⟩),.int .i64 tick] (x.L t) w1 fun v L=>((tick≤t.now ∨ 1073741824 < tick)∧v = .slice none 0 0∧L=x.L t) ∨ (¬ (tick≤t.now ∨ 1073741824 < tick)∧∃ t2:NST,t2.now=tick∧t2.ok x∧((t2.cnt=t.cnt∧v = .slice none 0 0∧L=x.L t2) ∨ (t2.cnt=t.cnt+1∧∃ (G:List Int) (ob j:Nat) (junk:List Value) (ov:Ov),G=wrG x.c x.s 1 t2.sdd x.boot t2.cnt []∧G.length=52∧OvOk 1 ov G.length (u8s G)∧v = .slice (some ⟨ob,0,none⟩) 1 (1+j)∧L=(ob,.cells ⟨[.int .i64 (65536+t2.sdd),.slice (ovp ov) G.length (ovc ov G.length)]++junk⟩ 53 (0,0))::(blkL 5 ov (u8s G)++x.L t2)))):=by
    intro t ht hc tick w1
    refine (ntick_ok x hx t ht hc tick w1).imp ?_
    rintro v L (⟨g1,g2,g3⟩|⟨g1,t2,h1,h2,(⟨g2,g3,g4,g5⟩|⟨h3,ob,j,junk,ov,h4,h5,h6,h7⟩)⟩)
    · exact .inl ⟨g1,g2,g3⟩
    · exact .inr ⟨g1,t2,h1,h2,.inl ⟨g3,g4,g5⟩⟩
    · exact .inr ⟨g1,t2,h1,h2,.inr ⟨h3,_,ob,j,junk,ov,rfl,pkB_len _ _ _ _ _ _ (wrT_len ..),h5,h6,h7⟩⟩
  have hps:=fun (t2:NST) (h:t2.ok x) (h1:1≤t2.cnt) (h2:t2.cnt≤1000) p n cap hn w1 hp=>hello_parse x.c x.s t2.sdd x.boot t2.cnt hx.c h.sd.1 (by have:=h.sd;have:=hx.S;omega) (by have:=hx.boot;unfold NR;omega) p n cap hn w1 hp
  have hwn:=fun (t2:NST) (h:t2.ok x) (h1:1≤t2.cnt) (h2:t2.cnt≤1000) p n cap hn hcap bm cs e1 f1 hcs w1 hp hm=>own28_ok (65536+t2.sdd) x.c x.s t2.sdd x.boot t2.cnt hx.c h.sd.1 (by have:=h.sd;have:=hx.S;omega) (by have:=hx.boot;unfold NR;omega) p n cap hn hcap rfl bm cs e1 f1 hcs w1 hp hm
  have hmc:subE (mbC x.c (zI 32) 0 0 rr28) 0 4=some [.int .i64 x.c.id,.int .i64 x.c.roles,.int .i64 x.c.exp,.int .i64 x.c.ser]:=subE_app (clC x.c) _ rfl
  have hl1:=fun sd boot cnt p2 cap2=>pk_len 1 x.c sd boot cnt p2 0 cap2 (t:=zI 32) rfl
  have ho1:=fun sd boot cnt p2 cap2=>pk_one 1 x.c sd boot cnt p2 0 cap2 (zI 32)
  have h2c:∀ (a b:Value) (junk:List Value),subE ([a,b]++junk) 0 2=some [a,b]:=fun a b junk=>subE_app [a,b] junk rfl
  have ht0:NST.ok ⟨0,0,0,0,0,D⟩ x:=⟨.inl rfl,⟨Int.le_refl _,by have:=hx.S;simp only;omega⟩,⟨Int.le_refl 0,by simp⟩,Int.le_refl 0,⟨Int.le_refl 0,by simp⟩⟩
  clear hLt hKR KR hNm hCm hRm
  obtain ⟨XL,hXL⟩:∃ XL:NST→Lst,XL=x.L:=⟨_,rfl⟩
  rw [← hXL] at htk hnw ⊢
  clear hXL
  repeat' (first|(apply R.is1;(apply R.pure;exact rfl;(apply Ok1.assign;exact rfl)))|apply R.nil|(apply T.is;first|apply T.seq|apply T.region|apply T.block))
  apply T.loopK (α:=Nat × NST) (I:=fun y=>y.1≤ls.length∧y.1≤30∧y.2.ok x∧y.2.cnt≤y.1) (σi:=fun y=>[(2,.slice pl ls.length cl),(9,.pointer (some ⟨x.bN,0,none⟩)),(10,.pointer (some ⟨b10,0,none⟩)),(11,.int .i64 y.2.cnt),(12,.int .i64 y.1)]) (Li:=fun y=>(b10,.cells ⟨mbC x.c (zI 32) 0 0 rr28⟩ 41 (0,0))::XL y.2) (μ:=fun y=>ls.length - y.1) (i0:=(0,⟨0,0,0,0,0,D⟩))
  · exact ⟨Nat.zero_le _,Nat.zero_le _,ht0,Int.le_refl _⟩
  · exact ⟨rfl,rfl,rfl,rfl,rfl,trivial⟩
  · (focus (repeat' first|exact Ext.one _ _|exact Ext.all _|apply Keep.cons|apply Keep.last);done)
  rintro ⟨i,t⟩ ⟨hi,hi30,ht,hcn⟩
  simp only at hi hi30 ht hcn ⊢
  have htk:=htk t ht (by omega)
  have htn:=ht.now
  have htc:=ht.cnt
  by_cases hlt:i < ls.length∧i < 30
  case neg =>
    repeat' (first|(apply R.is1;first|(apply R.isBin;first|(apply R.pure;exact rfl;(apply Ok1.lss_f;exact rfl;exact rfl;omega))|(apply R.lss rfl rfl rfl<;>intro))|(apply R.isCall;first|apply R.callP rfl rfl rfl hkn|(apply R.pure;exact rfl;(apply Ok1.lenS;(iterate 3 exact rfl))))|(apply R.pure;exact rfl;first|(apply Ok1.move;exact rfl)|(apply Ok1.assign;exact rfl)|(apply Ok1.pick_t;exact rfl;exact rfl)|(apply Ok1.pick_f;exact rfl;exact rfl)))|(apply R.isG;first|(apply R.guard_run;exact rfl;exact rfl)|(apply R.guard_not;(iterate 3 exact rfl)))|apply R.nil|(apply T.is;first|apply T.seq|apply T.region|apply T.exit|apply T.ret|(apply T.cond_f;exact rfl)))
    all_goals skip
    all_goals (apply RetOk.t;exact rfl)
    all_goals rfl
  obtain ⟨hlt1,hlt2⟩:=hlt
  obtain ⟨tk,hx9⟩:∃ tk,ls[i]? = some tk:=⟨_,List.getElem?_eq_getElem hlt1⟩
  obtain ⟨bb,o,hpe,H⟩:=hls.at hx9
  replace H:=H 1 iV_len
  repeat' (first|(apply R.is1;first|(apply R.isBin;first|(apply R.pure;exact rfl;first|(apply Ok1.add64;exact rfl;exact rfl;omega;omega)|(apply Ok1.lss_t;exact rfl;exact rfl;omega)|(apply Ok1.lss_f;exact rfl;exact rfl;omega)|(apply Ok1.leq_f;exact rfl;exact rfl;omega)|(apply Ok1.gtr_t;exact rfl;exact rfl;omega)|(apply Ok1.gtr_f;exact rfl;exact rfl;omega)|(apply Ok1.neq_f;exact rfl;exact rfl;omega))|(apply R.leq rfl rfl rfl<;>intro))|(apply R.isCall;first|(apply R.callV (vs:=[.pointer (some ⟨x.bN,0,none⟩)]);(iterate 3 exact rfl);intro w1 hw1;exact hnw t hw1 (Ext.mem (by (focus (repeat' first|exact Ext.here _ _|exact Ext.all _|apply Ext.cons);done))))|(apply R.callE (Li:=XL t) (vs:=[.pointer (some ⟨x.bN,0,none⟩),.int .i64 tk]);(iterate 3 exact rfl);(focus (repeat' first|exact Ext.all _|apply Ext.cons);done);intro w1 hw1;exact htk tk w1;rintro v Lo (⟨hg,rfl,hq⟩|⟨hg,t2,hn2,hok2,(⟨hc2,rfl,hq⟩|⟨hc2,G,ob,jn,junk,ovw,hG,hG52,hovw,rfl,hq⟩)⟩)<;>rw [hq]<;>clear hq<;>(try simp only [List.cons_append,List.append_assoc]))|(apply R.callE (vs:=[.slice (ovp ovw) G.length (ovc ovw G.length)]);(iterate 3 exact rfl);exact Ext.none _;intro w1 hw1;exact hps t2 hok2 (by omega) (by omega) (ovp ovw) G.length (ovc ovw G.length) (by rw [hG]) w1 (by rw [← hG];exact rdown hovw hw1 (Ext.mem (by (focus (repeat' first|exact Ext.here _ _|apply Ext.cons);done))));rintro v Lq ⟨ovp2,hovp2,rfl,rfl⟩)|(apply R.callE (vs:=[.slice (some ⟨ob,0,none⟩) 1 (1+jn)]);(iterate 3 exact rfl);exact Ext.none _;intro w1 hw1;exact of28_one (some ⟨ob,0,none⟩) (1+jn) (65536+t2.sdd) (ovp ovw) G.length (ovc ovw G.length) w1 (RdSl.ofMem hw1 (At.mem (by (focus (repeat' first|exact At.head|apply At.tail|apply At.right);done))) rfl);rintro v Lq ⟨ob2,j2,junk2,hj2,rfl,rfl⟩)|(apply R.callE (vs:=[.agg ⟨_⟩,.pointer (some ⟨b10,0,none⟩)]);(iterate 3 exact rfl);exact Ext.none _;intro w1 hw1;exact hwn t2 hok2 (by omega) (by omega) (ovp ovw) G.length (ovc ovw G.length) (by rw [hG]) (ovc_leR hovw) b10 _ _ _ hmc w1 (by rw [← hG];exact rdown hovw hw1 (Ext.mem (by (focus (repeat' first|exact Ext.here _ _|apply Ext.cons|apply Ext.app);done)))) (hw1.get _ _ (At.mem (by (focus (repeat' first|exact At.head|apply At.tail|apply At.right);done))));rintro v Lq ⟨rfl,rfl⟩)|(apply R.pure;exact rfl;(apply Ok1.lenS;(iterate 3 exact rfl))))|(apply R.pure;exact rfl;first|(apply Ok1.indexAddrP;(iterate 4 exact rfl);exact hpe;exact rfl;omega;omega)|(apply Ok1.load;exact rfl;first|(apply Ld.row0 H;exact rfl;exact List.not_mem_nil;(iterate 3 exact rfl))|(apply Ld.own1;exact rfl;exact rfl;(focus (repeat' first|exact At.head|apply At.tail);done);exact rfl)|(apply Ld.ownk;exact rfl;exact rfl;exact At.head;exact h2c _ _ _))|(apply Ok1.move;exact rfl)|(apply Ok1.fieldAddr;(iterate 5 exact rfl))|(apply Ok1.assign;exact rfl)|(apply Ok1.indexAddr;(iterate 5 exact rfl);omega;omega)|(apply Ok1.extract;exact rfl;exact rfl)|(apply Ok1.pick_t;exact rfl;exact rfl)|(apply Ok1.pick_f;exact rfl;exact rfl)|(apply Ok1.not_t;exact rfl))|(apply R.alloc;(iterate 3 exact rfl);intro))|(apply R.is0;(apply R.store;(iterate 4 exact rfl);exact (hl1 _ _ _ _ _);exact (ho1 _ _ _ _ _);exact Upd.head;exact setE_all (hl1 _ _ _ _ _)))|(apply R.isG;first|(apply R.guard_run;exact rfl;exact rfl)|(apply R.guard_not;(iterate 3 exact rfl)))|apply R.nil|(apply T.is;first|apply T.rounds 2|(apply T.drawC (id:=14) [] (by decide);((apply A.tk 0;exact rfl;kernel_rfl;(apply Ok1.move;exact rfl))<;>(apply A.tk 2;exact rfl;kernel_rfl;(apply Ok1.move;exact rfl))<;>(apply A.tk 3;exact rfl;kernel_rfl;(apply Ok1.move;exact rfl))<;>(apply A.tk 4;exact rfl;kernel_rfl;(apply Ok1.indexAddrP;(iterate 4 exact rfl);exact hpe;exact rfl;omega;omega))<;>(apply A.tk 5;exact rfl;kernel_rfl;(apply Ok1.load;exact rfl;(apply Ld.row0 H;exact rfl;exact List.not_mem_nil;(iterate 3 exact rfl))))<;>(apply A.one 1;kernel_rfl;exact rfl;(((apply R.callV (vs:=[.pointer (some ⟨x.bN,0,none⟩)]);(iterate 3 exact rfl);intro w1 hw1;exact hnw t2 hw1 (Ext.mem (by (focus (repeat' first|exact Ext.here _ _|apply Ext.cons|apply Ext.app);done))))));apply R.nil;refine ⟨?_,?_⟩;(focus ((repeat' (exact trivial)))))<;>((apply A.tk 6;exact rfl;kernel_rfl;(apply Ok1.neq_f;exact rfl;exact rfl;omega)))<;>(apply A.done;kernel_rfl)))|apply T.seq|apply T.region|apply T.block|apply T.skip|apply T.exit|(apply T.cond_t;exact rfl)|(apply T.cond_f;exact rfl)))
  all_goals skip
  all_goals first
    | (refine ⟨(i+1,t2),⟨?_,?_,hok2,?_⟩,?_,⟨rfl,rfl,rfl,rfl,rfl,trivial⟩,?_⟩<;>first|(simp only;omega)|(focus (repeat' first|exact Ext.one _ _|exact Ext.here _ _|apply Keep.cons|apply Keep.last|apply Ext.cons|apply Ext.app);done))
    | (refine ⟨(i+1,t2),⟨?_,?_,hok2,?_⟩,?_,⟨rfl,rfl,rfl,?_,rfl,trivial⟩,?_⟩<;>first|(simp only;omega)|(simp only [hc2];rfl)|(focus (repeat' first|exact Ext.one _ _|exact Ext.here _ _|apply Keep.cons|apply Keep.last|apply Ext.app);done))
    | (refine ⟨(i+1,t),⟨?_,?_,ht,?_⟩,?_,⟨rfl,rfl,rfl,rfl,rfl,trivial⟩,?_⟩<;>first|(simp only;omega)|(focus (repeat' first|exact Ext.one _ _|exact Ext.here _ _|apply Keep.cons|apply Keep.last|apply Ext.app);done))
theorem nodeTicks_ok (pm:Option Addr) (nm cm:Nat) (ms:List Int) (hnm:nm=ms.length) (hcm:nm≤cm) (hmb:Byt ms) (c:Cl) (pl:Option Addr) (cl:Nat) (ls:List Int) (D:Int) (w:World) (hpm:RdSl w pm u8V ms) (hls:RdSl w pl iV ls) :
    CallW Tryz.prog 3 [.slice pm nm cm,kvC c,.slice pl ls.length cl,.int .u64 D] w fun v _=>v = .bool true:=by
  have hmk:=fun w1 (h:Chg [] w w1)=>make28_ok pm nm cm ms hnm hcm hmb c 1 3 D w1 (hpm.chg' h (fun _=>Off.nil _))
  have hkn:=known28_ok
  simp only [kvC] at hmk ⊢
  refine enterW (tb:=tb) Tryz.func3 rfl Tryz.ntmps3 rfl ?_
  repeat' (first|(apply R.is1;first|(apply R.isBin;(apply R.pure;exact rfl;(apply Ok1.eqlP;(iterate 5 exact rfl))))|(apply R.isCall;(apply R.callE (vs:=[.slice pm nm cm,.agg ⟨_⟩,.int .i64 1,.int .i64 3,.int .u64 D]);(iterate 3 exact rfl);exact Ext.none _;intro w1 hw1;exact hmk w1 hw1.chg;rintro v Lo ⟨x,hx,rfl,hL⟩))|(apply R.pure;exact rfl;first|(apply Ok1.load;exact rfl;(apply Ld.ownk;exact rfl;exact rfl;exact At.head;exact rfl))|(apply Ok1.move;exact rfl)|(apply Ok1.assign;exact rfl))|(apply R.box;(iterate 3 exact rfl);intro))|apply R.nil|(apply T.is;first|(apply T.stop1 4)|apply T.seq|apply T.region|apply T.skip|(apply T.cond_f;exact rfl)))
  rename_i b5
  refine ⟨?_⟩
  rw [hL]
  clear hL hmk
  have hof:=of5_ok x.c.id x.c.roles x.c.exp x.c.ser
  obtain ⟨KR,hKR⟩:∃ KR,x.K=x.C::x.R::KR:=⟨_,rfl⟩
  have hLt:∀ t,x.L t=x.N (.slice none 0 0) t.now::JN x.bj x.bc x.S t.st t.sdd t.la none 0 0::CN x.bn x.boot t.cnt::dwB x.bd t.D::x.C::x.R::KR:=fun t=>by unfold NI.L;rw [hKR]
  have hNm:∀ t,x.N (.slice none 0 0) t.now∈x.L t:=fun t=>by rw [hLt];exact List.mem_cons_self
  have hCm:∀ t,x.C∈x.L t:=fun t=>by rw [hLt];simp
  have hRm:∀ t,x.R∈x.L t:=fun t=>by rw [hLt];simp
  have how:=fun t {w1:World} {S:List Nat} {L:Lst} (hw:Hp w S L w1) (hm:∀ q∈x.L t,q∈L)=>nown_ok x (.slice none 0 0) t.now w1 (hw.get _ _ (hm _ (hNm t))) hx.s (hw.get _ _ (hm _ (hCm t))) (hw.get _ _ (hm _ (hRm t)))
  simp only [kvC] at how
  clear hLt hKR KR hNm hCm hRm
  repeat' (first|(apply R.is1;first|(apply R.isCall;first|(apply R.callV (vs:=[.pointer (some ⟨x.bN,0,none⟩)]);(iterate 3 exact rfl);intro w1 hw1;exact how ⟨0,0,0,0,0,D⟩ hw1 (Ext.mem (by (focus ((repeat' (exact Ext.here _ _));done)))))|apply R.callP rfl rfl rfl hof)|(apply R.pure;exact rfl;first|(apply Ok1.move;exact rfl)|(apply Ok1.assign;exact rfl)|(apply Ok1.build;(iterate 5 exact rfl)))|(apply R.box;(iterate 3 exact rfl);intro))|apply R.nil|(apply T.is;first|(apply T.stop 6)|apply T.seq|apply T.region))
  rename_i b10
  refine ⟨?_⟩
  refine T.weakK (nodeTicks_loop x hx b10 D pl cl ls w hls) ?_ ?_
  · generalize x.L ⟨0,0,0,0,0,D⟩=LX
    (focus (repeat' first|exact Ext.one _ _|exact Ext.here _ _|apply Keep.cons|apply Keep.last);done)
  · exact ⟨rfl,rfl,rfl,rfl,trivial⟩
end Go.Proofs.YtcfdgnajepilbaaGreat
set_option linter.unusedSimpArgs false
set_option linter.unusedVariables false
namespace Go.Proofs.YtcfdgnajepilbaaGreat
open Go.ChangeShapes Go.WideShapes Go.ChangeAt Go.RowKit
theorem ownJ:ownKnob Tryz.prog.godebug=none:=by kernel_rfl
theorem laidJ:laidOutB Tryz.prog=true:=by kernel_rfl
theorem and_tt {a b:Bool} (h1:a=true) (h2:b=true):(a && b)=true:=by rw [h1,h2];rfl
theorem joined_of {P:Program} {f:FuncId} {fn:Func} {s:ChangeSpec} {c:OpenClaim} (k0:(c.wf (OpenSpec.ofChange s))=true) (k1:(laidOutB P)=true) (k2:(mapsRowed P)=true) (k3:(fn.params.all (P.readableRec ·))=true) (k4:(namedTie P c.named s.vars)=true) (k5:(c.stops == [])=true) (k6:(P.stops == [])=true) (k7:(c.knobs == [])=true) (k8:(P.stopKnobs == [])=true) (k9:(c.inPlace == P.inPlace f)=true) (k10:(c.unfollowed == P.unfollowed f)=true) (k11:(c.recurses == P.recurses f)=true) (k12:(c.named == P.varsNamed f)=true) (k13:(c.maps == (fn.params.toList++s.plain.varTypes P).any (P.mapsRec ·))=true) (k14:(c.ifaces == (fn.params.toList++s.plain.varTypes P).any (P.ifacesRec ·))=true) (k15:(c.mapsOut == P.mapsAmong fn.resultTypes.toList)=true) (k16:(c.loops == (fn.params.toList++s.plain.varTypes P).any (P.loopsFrom ·))=true) (k17:(c.wideKeys == (fn.params.toList++s.plain.varTypes P++fn.resultTypes.toList).any (P.wideKeysFrom ·))=true) (k18:(s.vars.all (P.varReadable ·))=true) (k19:(fn.resultTypes.all (fun t=>P.readableRec t && decide (t < P.types.size)))=true) (k20:(c.ifacesOut == fn.resultTypes.toList.any (P.ifacesRec ·))=true) (k21:(c.loopsOut == fn.resultTypes.toList.any (P.loopsFrom ·))=true) (k22:(c.plainKeys == P.plainKeys)=true) (k23:(c.shortTexts.isNone)=true) (k24:(P.stopsHeard)=true) (k25:(P.mayEnter)=true) (k26:(c.lifted == P.liftsFinal)=true) (k27:(P.make == some c.make)=true) (k28:(c.kinds == (if c.domain.isEmpty then [] else fn.params.toList.map fun t=>match P.underlying t with|some (.int k)=>some k|_=>none))=true) (k29:(c.pinned == c.pinnedBy)=true) (k30:(c.veiled == (fn.params.toList++s.plain.varTypes P++fn.resultTypes.toList).any (P.veiledRec ·))=true) (k31:(c.veiledFits P fn.params.toList (fn.params.toList++s.plain.varTypes P++fn.resultTypes.toList))=true):joinedFacts P f fn s c=true:=by
  unfold joinedFacts
  exact and_tt (and_tt (and_tt (and_tt (and_tt (and_tt (and_tt (and_tt (and_tt (and_tt (and_tt (and_tt (and_tt (and_tt (and_tt (and_tt (and_tt (and_tt (and_tt (and_tt (and_tt (and_tt (and_tt (and_tt (and_tt (and_tt (and_tt (and_tt (and_tt (and_tt (and_tt (k0) k1) k2) k3) k4) k5) k6) k7) k8) k9) k10) k11) k12) k13) k14) k15) k16) k17) k18) k19) k20) k21) k22) k23) k24) k25) k26) k27) k28) k29) k30) k31
def clKsJ:List TK:=[.int .i64,.int .i64,.int .i64,.int .i64]
theorem cl_decJ:∀ cs,allW clKsJ cs→∃ c:Cl,c.v=cs:=by
  rintro cs h
  simp only [clKsJ] at h
  match cs,h with
  | [.int k1 a,.int k2 b,.int k3 c,.int k4 d],h =>
    obtain ⟨⟨rfl,_⟩,⟨rfl,_⟩,⟨rfl,_⟩,⟨rfl,_⟩,_⟩:=h
    exact ⟨⟨a,b,c,d⟩,rfl⟩
def byKsJ:List TK:=[.int .u8]
theorem by_decJ:∀ cs,allW byKsJ cs→∃ x:Int,u8V x=cs:=by
  rintro cs h
  simp only [byKsJ] at h
  match cs,h with
  | [.int k1 a],h =>
    obtain ⟨⟨rfl,_⟩,_⟩:=h
    exact ⟨a,rfl⟩
theorem byt_ofJ {xs:List Int} (h:∀ x∈xs,allW byKsJ (u8V x)):Byt xs:=by
  intro x hx
  obtain ⟨⟨_,h2⟩,_⟩:=h x hx
  have e0:IntKind.u8.min=0:=rfl
  have e1:IntKind.u8.max=255:=rfl
  omega
end Go.Proofs.YtcfdgnajepilbaaGreat
set_option linter.unusedSimpArgs false
set_option linter.unusedVariables false
namespace Go.Proofs.YtcfdgnajepilbaaGreat
open Go.ChangeShapes Go.WideShapes Go.ChangeAt Go.RowKit
def iKsN:List TK:=[.int .i64]
theorem i_decN:∀ cs,allW iKsN cs→∃ x:Int,iV x=cs:=by
  intro cs h
  simp only [iKsN] at h
  match cs,h with
  | [.int k1 a],h =>
    obtain ⟨⟨rfl,_⟩,_⟩:=h
    exact ⟨a,rfl⟩
end Go.Proofs.YtcfdgnajepilbaaGreat
