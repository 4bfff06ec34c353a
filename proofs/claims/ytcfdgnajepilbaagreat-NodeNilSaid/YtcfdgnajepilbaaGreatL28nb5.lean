/- Texts of the proof: Ch2, Ch3, Ch4, Ch5, Ch6, Ch7, Ch8, Ch10, Ch11, Ch12, Ch13, Ch14, Cw1, Jn1, Nd1, Nd2, Nd3, Nd4, Nd5, Nd6. -/
import Derived.Test.YtcfdgnajepilbaaGreatL28nb4
set_option linter.unusedSimpArgs false
set_option linter.unusedVariables false
namespace Go.Proofs.YtcfdgnajepilbaaGreat
open Go.RowKit Go.Shelf
set_option maxRecDepth 100000
/-- A field of bytes. -/
def fldB (p:Option Addr) (n cap:Nat):List Value:=[.int .i64 4,.int .i64 0,.slice p n cap]
theorem wcheckB_ok (p:Option Addr) (n cap:Nat) (hn:n≤512):CallP Tryz.prog 368 [.agg ⟨fldB p n cap⟩] (.int .i64 0):=by
  unfold fldB
  refine enterP (tb:=tb) Tryz.func368 rfl Tryz.ntmps368 rfl fun w=>?_
  repeat' (first|(apply R.is1;first|(apply R.isBin;(apply R.pure;exact rfl;first|(apply Ok1.lss_f;exact rfl;exact rfl;omega)|(apply Ok1.gtr_f;exact rfl;exact rfl;omega)|(apply Ok1.eql_t;exact rfl;exact rfl;omega)|(apply Ok1.neq_f;exact rfl;exact rfl;omega)))|(apply R.isCall;(apply R.pure;exact rfl;(apply Ok1.lenS;(iterate 3 exact rfl))))|(apply R.pure;exact rfl;first|(apply Ok1.move;exact rfl)|(apply Ok1.fieldAddr;(iterate 5 exact rfl))|(apply Ok1.load;exact rfl;(apply Ld.own1;exact rfl;exact rfl;exact At.head;exact rfl))|(apply Ok1.assign;exact rfl)|(apply Ok1.pick_t;exact rfl;exact rfl)|(apply Ok1.pick_f;exact rfl;exact rfl))|(apply R.box;(iterate 3 exact rfl);intro))|(apply R.isG;first|(apply R.guard_run;exact rfl;exact rfl)|(apply R.guard_not;(iterate 3 exact rfl)))|apply R.nil|(apply T.is;first|(apply T.drawC (id:=5) [0] (by decide);((apply A.tk 0;exact rfl;kernel_rfl;(apply Ok1.fieldAddr;(iterate 5 exact rfl)))<;>(apply A.tk 1;exact rfl;kernel_rfl;(apply Ok1.load;exact rfl;(apply Ld.own1;exact rfl;exact rfl;exact At.head;exact rfl)))<;>((apply A.tk 2;exact rfl;kernel_rfl;(apply Ok1.lss_f;exact rfl;exact rfl;omega)))<;>(apply A.tk 3;exact rfl;kernel_rfl;(apply Ok1.move;exact rfl))<;>((apply A.tkG 4;(iterate 3 exact rfl);kernel_rfl;(apply Ok1.fieldAddr;(iterate 5 exact rfl))))<;>((apply A.tkG 5;(iterate 3 exact rfl);kernel_rfl;(apply Ok1.load;exact rfl;(apply Ld.own1;exact rfl;exact rfl;exact At.head;exact rfl))))<;>((apply A.tkG 6;(iterate 3 exact rfl);kernel_rfl;(apply Ok1.lss_f;exact rfl;exact rfl;omega)))<;>((apply A.tkG 7;(iterate 3 exact rfl);kernel_rfl;(apply Ok1.move;exact rfl)))<;>((apply A.skG 8;(iterate 3 exact rfl);kernel_rfl))<;>((apply A.skG 9;(iterate 3 exact rfl);kernel_rfl))<;>((apply A.skG 10;(iterate 3 exact rfl);kernel_rfl))<;>((apply A.skG 11;(iterate 3 exact rfl);kernel_rfl))<;>(apply A.one 12;kernel_rfl;exact rfl;(((apply R.isG;(apply R.guard_not;(iterate 3 exact rfl)))));apply R.nil;refine ⟨?_,?_⟩;(focus ((repeat' (first|exact trivial|(refine ⟨?_,?_⟩;exact At.head))))))<;>((apply A.skG 13;(iterate 3 exact rfl);kernel_rfl))<;>((apply A.skG 14;(iterate 3 exact rfl);kernel_rfl))<;>((apply A.skG 15;(iterate 3 exact rfl);kernel_rfl))<;>((apply A.tkG 16;(iterate 3 exact rfl);kernel_rfl;(apply Ok1.pick_f;exact rfl;exact rfl)))<;>(apply A.tk 17;exact rfl;kernel_rfl;(apply Ok1.pick_f;exact rfl;exact rfl))<;>(apply A.tk 18;exact rfl;kernel_rfl;(apply Ok1.assign;exact rfl))<;>(apply A.done;kernel_rfl)))|apply T.seq|apply T.region|apply T.block|apply T.skip|apply T.ret|(apply T.cond_f;exact rfl)))
  (apply RetOk.t;exact rfl)
  rfl
theorem num1_ok (n:Nat) (h1:n≤512) (w:World):CallM Tryz.prog 409 [.int .i64 1,.int .i64 n] [] w fun v L=>∃ ov,OvOk 1 ov 2 (u8s (numI 1 n))∧ov.isSome=true∧v=slV ov 2∧L=blkL 5 ov (u8s (numI 1 n)):=by
  refine (number_ok 1 n (.inr (.inl rfl)) (by omega) (by omega) w).imp ?_
  rintro v L ⟨b,rfl,rfl⟩
  exact ⟨some (b,0,[]),⟨rfl,rfl⟩,rfl,rfl,by simp [blkL]⟩
theorem foutB_ok (p:Option Addr) (n cap:Nat) (bs:List Int) (hn:n=bs.length) (h:n≤512) (w:World) (hr:RdSl w p u8V bs):CallM Tryz.prog 369 [.agg ⟨fldB p n cap⟩] [] w fun v L=>∃ ov,OvOk 1 ov (2+n) (u8s (numI 1 n++bs))∧v = .slice (ovp ov) (2+n) (ovc ov (2+n))∧L=blkL 5 ov (u8s (numI 1 n++bs)):=by
  have hnum:=fun w1=>num1_ok n h w1
  unfold fldB
  refine enterK (tb:=tb) Tryz.func369 rfl Tryz.ntmps369 rfl ?_
  repeat' (first|(apply R.is1;first|(apply R.isBin;(apply R.pure;exact rfl;(apply Ok1.eql_t;exact rfl;exact rfl;omega)))|(apply R.pure;exact rfl;first|(apply Ok1.fieldAddr;(iterate 5 exact rfl))|(apply Ok1.load;exact rfl;(apply Ld.own1;exact rfl;exact rfl;exact At.head;exact rfl))|(apply Ok1.assign;exact rfl))|(apply R.box;(iterate 3 exact rfl);intro))|apply R.nil|(apply T.is;first|(apply T.drawC (id:=2) [0] (by decide);((apply A.tk 0;exact rfl;kernel_rfl;(apply Ok1.fieldAddr;(iterate 5 exact rfl)))<;>(apply A.tk 1;exact rfl;kernel_rfl;(apply Ok1.load;exact rfl;(apply Ld.own1;exact rfl;exact rfl;exact At.head;exact rfl)))<;>(apply A.tk 2;exact rfl;kernel_rfl;(apply Ok1.lenS;(iterate 3 exact rfl)))<;>(apply A.tk 4;exact rfl;kernel_rfl;(apply Ok1.fieldAddr;(iterate 5 exact rfl)))<;>(apply A.tk 5;exact rfl;kernel_rfl;(apply Ok1.load;exact rfl;(apply Ld.own1;exact rfl;exact rfl;exact At.head;exact rfl)))<;>(apply A.one 3;kernel_rfl;exact rfl;(((apply R.callE;(iterate 3 exact rfl);exact Ext.none _;intro w1 hw1;exact hnum w1;rintro v Lo ⟨ova,hova,hsa,rfl,rfl⟩)));apply R.nil;refine ⟨?_,?_⟩;(focus (repeat' first|exact trivial|exact At.head|apply At.right|refine ⟨?_,?_⟩)))<;>(apply A.one 6;kernel_rfl;exact rfl;(((apply R.appendRd (xs:=bs) (v:=u8V) (sz:=1) (ov:=ova) (n:=2) (old:=u8s (numI 1 n));(iterate 12 exact rfl);exact hova;(focus ((repeat' (exact Ext.here _ _));done));exact hn;exact u8V_len;exact rfl;(intro w1 hw1;exact hr.chg hw1.chg (Off.nil _));(focus (rw [fl_u8];exact u8s_one bs));omega;intro ov1 hov1 hsome;rw [fl_u8,← u8s_app];rw [fl_u8,← u8s_app] at hov1)));apply R.nil;refine ⟨?_,?_⟩;(focus (repeat' first|exact trivial|exact At.head|apply At.right|refine ⟨?_,?_⟩)))<;>(apply A.tk 7;exact rfl;kernel_rfl;(apply Ok1.assign;exact rfl))<;>(apply A.done;kernel_rfl)))|apply T.seq|apply T.region|apply T.ret|(apply T.cond_t;exact rfl)))
  (apply RetOk.t;exact rfl)
  exact ⟨_,by (focus (repeat' first|exact Ext.here _ _|apply Keep.last);done),ov1,hov1,slV_eq hov1,rfl⟩
theorem putB_ok (bw:Nat) (ov:Ov) (bs:List Int) (hov:OvOk 1 ov bs.length (u8s bs)) (p:Option Addr) (n cap:Nat) (ys:List Int) (hn:n=ys.length) (h:n≤512) (hbig:bs.length≤500) (bf:Nat) (fz:Nat × Nat) (e:TypeId) (w:World) (hb:w.heap[bf]? = some (.cells ⟨fldB p n cap⟩ e fz)) (hoff:bf ∉ blks (WL bw ov bs)) (hr:RdSl w p u8V ys) (hq:ys≠[]→Off p (blks (WL bw ov bs))) :
    CallM Tryz.prog 304 [.pointer (some ⟨bw,0,none⟩),.slice (some ⟨bf,0,none⟩) 1 1] (WL bw ov bs) w (WRes bw (bs++(numI 1 n++ys))):=by
  have hck:=wcheckB_ok p n cap h
  have hfo:=fun w1 (hc:Chg (blks (WL bw ov bs)) w w1)=>foutB_ok p n cap ys hn h w1 (hr.chg' hc hq)
  have hnl:2+n=(numI 1 n++ys).length:=by rw [List.length_append,hn];rfl
  unfold WRes
  generalize numI 1 n++ys=nb at *
  refine enterK (tb:=tb) Tryz.func304 rfl Tryz.ntmps304 rfl ?_
  obtain ⟨S,hS⟩:∃ S,S=blks (WL bw ov bs):=⟨_,rfl⟩
  rw [← hS] at hoff hfo ⊢
  simp only [WL,fldB] at hb hck hfo ⊢
  clear hS hq hr
  repeat' (first|(apply R.is1;first|(apply R.isBin;(apply R.pure;exact rfl;first|(apply Ok1.add64;exact rfl;exact rfl;omega;omega)|(apply Ok1.lss_t;exact rfl;exact rfl;omega)|(apply Ok1.lss_f;exact rfl;exact rfl;omega)|(apply Ok1.gtr_f;exact rfl;exact rfl;omega)|(apply Ok1.neq_f;exact rfl;exact rfl;omega)|(apply Ok1.eqlP;(iterate 5 exact rfl))))|(apply R.isCall;first|apply R.callP rfl rfl rfl hck|(apply R.callE;(iterate 3 exact rfl);exact Ext.none _;intro w1 hw1;exact hfo w1 hw1.chg;rintro v Lo ⟨ov7,hov7,rfl,rfl⟩)|(apply R.pure;exact rfl;apply Ok1.lenOv;(iterate 3 exact rfl);exact hov)|(apply R.appendRd (xs:=nb) (v:=u8V) (sz:=1) (ov:=ov) (n:=bs.length) (old:=u8s bs);(iterate 12 exact rfl);exact hov;(focus (repeat' first|exact Ext.all _|apply Ext.cons|apply Ext.app);done);exact hnl;exact u8V_len;exact rfl;(intro w1 hw1;exact RdSl.own' hw1 (Ext.mem (by rw [fl_u8];(focus ((repeat' (exact Ext.here _ _));done)))) (by rw [fl_u8,← hnl];exact hov7) u8V_len);(focus (rw [fl_u8];exact u8s_one nb));omega;intro ov1 hov1 hsome;rw [hnl,fl_u8,← u8s_app,← List.length_append];rw [hnl,fl_u8,← u8s_app,← List.length_append] at hov1)|(apply R.pure;exact rfl;(apply Ok1.lenS;(iterate 3 exact rfl))))|(apply R.pure;exact rfl;first|(apply Ok1.move;exact rfl)|(apply Ok1.fieldAddr;(iterate 5 exact rfl))|(apply Ok1.load;exact rfl;first|(apply Ld.own1;exact rfl;exact rfl;(focus (repeat' first|exact At.head|apply At.tail|apply At.right);done);exact rfl)|(apply Ld.ownk;exact rfl;exact rfl;(focus (repeat' first|exact At.head|apply At.tail);done);exact rfl)|(apply Ld.blkk;exact rfl;exact rfl;assumption;(assumption);exact rfl))|(apply Ok1.assign;exact rfl)|(apply Ok1.indexAddr;(iterate 5 exact rfl);omega;omega)|(apply Ok1.nilCheck;exact rfl))|(apply R.alloc;(iterate 3 exact rfl);intro))|(apply R.is0;first|(apply R.store;(iterate 3 exact rfl);exact cellsE_slV _ _;exact rfl;exact one_slV _ _;(focus (repeat' first|exact Upd.head|apply Upd.tail|apply Upd.right);done);exact rfl)|(apply R.store;(iterate 6 exact rfl);(focus (repeat' first|exact Upd.head|apply Upd.tail);done);exact rfl))|apply R.nil|(apply T.is;first|apply T.rounds 3|apply T.seq|apply T.region|apply T.block|apply T.scope|apply T.label|apply T.skip|apply T.exit|apply T.ret|(apply T.cond_t;exact rfl)|(apply T.cond_f;exact rfl)))
  (apply RetOk.t;exact rfl)
  refine ⟨_,?_,ov1,rfl,hov1,rfl⟩
  (focus (repeat' first|exact Ext.one _ _|exact Ext.here _ _|apply Keep.cons|apply Keep.last|apply Ext.cons|apply Ext.app);done)
theorem wbytes1_ok (bw:Nat) (ov:Ov) (bs:List Int) (hov:OvOk 1 ov bs.length (u8s bs)) (p:Option Addr) (n cap:Nat) (ys:List Int) (hn:n=ys.length) (h:n≤512) (hbig:bs.length≤500) (bl:Nat) (fz:Nat × Nat) (e:TypeId) (w:World) (hb:w.heap[bl]? = some (.cells ⟨[.slice p n cap]⟩ e fz)) (hoff:bl ∉ blks (WL bw ov bs)) (hr:RdSl w p u8V ys) (hq:ys≠[]→Off p (blks (WL bw ov bs))) :
    CallM Tryz.prog 234 [.pointer (some ⟨bw,0,none⟩),.slice (some ⟨bl,0,none⟩) 1 1] (WL bw ov bs) w (WRes bw (bs++(numI 1 n++ys))):=by
  have hput:=fun bf fz e w1 h1 h2 (hc:Chg (blks (WL bw ov bs)) w w1)=>putB_ok bw ov bs hov p n cap ys hn h hbig bf fz e w1 h1 h2 (hr.chg' hc hq) hq
  unfold WRes at hput ⊢
  generalize bs++(numI 1 n++ys)=nb at *
  refine enterK (tb:=tb) Tryz.func234 rfl Tryz.ntmps234 rfl ?_
  obtain ⟨S,hS⟩:∃ S,S=blks (WL bw ov bs):=⟨_,rfl⟩
  rw [← hS] at hoff ⊢
  repeat' (first|(apply R.is1;first|(apply R.isBin;(apply R.pure;exact rfl;first|(apply Ok1.add64;exact rfl;exact rfl;omega;omega)|(apply Ok1.lss_t;exact rfl;exact rfl;omega)|(apply Ok1.lss_f;exact rfl;exact rfl;omega)))|(apply R.isCall;first|(apply R.callE (Li:=WL bw ov bs);(iterate 3 exact rfl);(focus (repeat' first|exact Ext.all _|apply Ext.cons);done);intro w1 hw1;exact hput _ _ _ w1 (hw1.get _ _ (At.mem (by exact At.head))) (RdSl.off hw1 (by (focus (repeat' first|exact Ext.all _|apply Ext.cons);done)) (At.mem (by exact At.head))) (hS ▸ hw1.chg);rintro v Lo ⟨ov1,rfl,hov1,rfl⟩)|(apply R.pure;exact rfl;(apply Ok1.lenS;(iterate 3 exact rfl))))|(apply R.pure;exact rfl;first|(apply Ok1.move;exact rfl)|(apply Ok1.load;exact rfl;(apply Ld.blk1;exact rfl;exact rfl;assumption;(assumption);exact rfl))|(apply Ok1.assign;exact rfl)|(apply Ok1.indexAddr;(iterate 5 exact rfl);omega;omega)|(apply Ok1.build;(iterate 5 exact rfl)))|(apply R.buildSlice;(iterate 12 exact rfl);intro))|apply R.nil|(apply T.is;first|apply T.rounds 3|apply T.seq|apply T.region|apply T.block|apply T.skip|apply T.exit|apply T.ret|(apply T.cond_t;exact rfl)|(apply T.cond_f;exact rfl)))
  (apply RetOk.t;exact rfl)
  refine ⟨_,?_,ov1,rfl,hov1,rfl⟩
  (focus (repeat' first|exact Ext.one _ _|exact Ext.here _ _|apply Keep.cons|apply Keep.last);done)
/-- The parts' bytes,one behind the other. -/
def catP (l:List Pt):List Int:=l.flatMap Pt.xs
theorem catP_take {l:List Pt} {i:Nat} {z:Pt} (h:l[i]? = some z):catP (l.take (i+1))=catP (l.take i)++z.xs:=by
  rw [List.take_add_one,h];simp [catP]
theorem catP_le (l:List Pt) (i:Nat):(catP (l.take i)).length≤(catP l).length:=by
  have:catP l=catP (l.take i)++catP (l.drop i):=by simp only [catP,← List.flatMap_append,List.take_append_drop]
  rw [this,List.length_append];omega
theorem bjoinN_ok (p:Option Addr) (cap:Nat) (x:Pt) (l:List Pt) (hl0:l≠[]) (hcap:l.length+1≤cap) (w:World) (hp:RdSl w p Pt.v (x::l)) (hr:∀ z∈x::l,RdSl w z.p u8V z.xs) (hpos:∀ z∈l,0 < z.xs.length) (hbig:(catP (x::l)).length≤1000000) (hk:l.length≤1000000) :
    CallM Tryz.prog 358 [.slice p (l.length+1) cap,.slice none 0 0] [] w fun v L=>∃ b junk,v = .slice (some ⟨b,0,none⟩) (catP (x::l)).length (catP (x::l)).length∧L=[(b,.cells ⟨u8s (catP (x::l))++junk⟩ 5 (0,0))]:=by
  obtain ⟨n,hn⟩:∃ n,n=(catP (x::l)).length:=⟨_,rfl⟩
  obtain ⟨k,hkk⟩:∃ k,k=l.length+1:=⟨_,rfl⟩
  have hl1:1≤l.length:=by cases l with|nil=>exact absurd rfl hl0|cons _ _=>simp
  obtain ⟨A,hA⟩:∃ A,A=x::l:=⟨_,rfl⟩
  have hAl:A.length=k:=by rw [hA,hkk];rfl
  have hx0:A[0]? = some x:=by rw [hA];rfl
  have hx:RdSl w x.p u8V x.xs:=hr x (.head _)
  have hxn:x.xs.length≤n:=by rw [hn];simp only [catP,List.flatMap_cons,List.length_append];omega
  have hle:=fun i=>catP_le A i
  rw [← hA] at hp hn hbig
  have hsuf:=hp.suf Pt.v_len (cap:=cap) (i:=1) (by omega) (by omega)
  have hdrop:A.drop 1=l:=by rw [hA];rfl
  rw [hdrop] at hsuf
  obtain ⟨b1,o1,hpe1,H1⟩:=hp.at hx0
  replace H1:=H1 1 Pt.v_len
  rw [← hkk]
  rw [← hA,← hn]
  rw [← hn] at hbig hle
  refine enterK (tb:=tb) Tryz.func358 rfl Tryz.ntmps358 rfl ?_
  repeat' (first|(apply R.is1;first|(apply R.isBin;(apply R.pure;exact rfl;first|(apply Ok1.gtr_f;exact rfl;exact rfl;omega)|(apply Ok1.eql_f;exact rfl;exact rfl;omega)))|(apply R.isCall;(apply R.pure;exact rfl;(apply Ok1.lenS;(iterate 3 exact rfl))))|(apply R.pure;exact rfl;first|(apply Ok1.move;exact rfl)|(apply Ok1.assign;exact rfl)))|apply R.nil|(apply T.is;first|apply T.seq|apply T.region|apply T.block|apply T.skip|(apply T.cond_f;exact rfl)))
  apply T.loopK (α:=Nat) (I:=fun i=>i≤k) (σi:=fun i=>[(0,.slice p k cap),(1,.slice none 0 0),(5,.int .i64 ((catP (A.take i)).length:Nat)),(42,.slice p k cap),(43,.int .i64 k),(44,.int .i64 i)]) (Li:=fun _=>[]) (μ:=fun i=>k - i) (i0:=0)
  · exact Nat.zero_le _
  · exact ⟨rfl,rfl,rfl,rfl,rfl,rfl,trivial⟩
  · (focus ((repeat' (exact Keep.nil _));done))
  · intro i hi
    have hlei:=hle i
    rcases Nat.lt_or_ge i k with hlt|hge
    · obtain ⟨z,hz⟩:∃ z,A[i]? = some z:=⟨_,List.getElem?_eq_getElem (by omega)⟩
      obtain ⟨b,o,hpe,H⟩:=hp.at hz
      replace H:=H 1 Pt.v_len
      have hle2:=hle (i+1)
      have hsum:((catP (A.take (i+1))).length:Int)=((catP (A.take i)).length:Int)+(z.xs.length:Int):=by rw [catP_take hz,List.length_append];omega
      repeat' (first|(apply R.is1;first|(apply R.isBin;(apply R.pure;exact rfl;first|(apply Ok1.add64;exact rfl;exact rfl;omega;omega)|(apply Ok1.sub64;exact rfl;exact rfl;omega;omega)|(apply Ok1.lss_t;exact rfl;exact rfl;omega)|(apply Ok1.gtr_f;exact rfl;exact rfl;omega)))|(apply R.isCall;(apply R.pure;exact rfl;(apply Ok1.lenS;(iterate 3 exact rfl))))|(apply R.pure;exact rfl;first|(apply Ok1.indexAddrP;(iterate 4 exact rfl);exact hpe;exact rfl;omega;omega)|(apply Ok1.load;exact rfl;apply Ld.row0 H;exact rfl;exact List.not_mem_nil;(iterate 3 exact rfl))|(apply Ok1.move;exact rfl)|(apply Ok1.assign;exact rfl)))|apply R.nil|(apply T.is;first|apply T.seq|apply T.region|apply T.block|apply T.skip|(apply T.cond_t;exact rfl)|(apply T.cond_f;exact rfl)))
      exact ⟨i+1,by omega,by omega,⟨rfl,rfl,by rw [hsum];exact rfl,rfl,rfl,rfl,trivial⟩,by (focus ((repeat' (exact Keep.nil _));done))⟩
    · have him:k=i:=by omega
      subst him
      rw [List.take_of_length_le (by omega),← hn]
      repeat' (first|(apply R.is1;first|(apply R.isBin;(apply R.pure;exact rfl;(apply Ok1.lss_f;exact rfl;exact rfl;omega)))|(apply R.isCall;first|(apply R.noZero (n:=n) nozero_ok;exact rfl;omega;exact rfl;intro b5 cs5 hcs5)|(apply R.copyAll (xs:=x.xs) (v:=u8V) (o':=0);(iterate 8 exact rfl);exact u8V_len;(intro w1 hw1;exact hx.chg hw1.chg (Off.nil _));(rw [fl_u8];exact u8s_one _);omega;exact rfl;exact Upd.head;(have h:=setE_off [] (u8s x.xs) cs5 (by rw [u8s_len];omega);rw [u8s_len] at h;rw [fl_u8];exact h))|(apply R.pure;exact rfl;(apply Ok1.lenS;(iterate 3 exact rfl))))|(apply R.pure;exact rfl;first|(apply Ok1.indexAddrP;(iterate 4 exact rfl);exact hpe1;exact rfl;omega;omega)|(apply Ok1.load;exact rfl;(apply Ld.row0 H1;exact rfl;exact List.not_mem_nil;(iterate 3 exact rfl)))|(apply Ok1.preM (i:=n) (m:=n);(iterate 6 exact rfl);omega;omega)|(apply Ok1.sufR (i:=1) (sz:=1);(iterate 6 exact rfl);omega;omega)|(apply Ok1.move;exact rfl)|(apply Ok1.assign;exact rfl)))|apply R.nil|(apply T.is;first|apply T.seq|apply T.region|apply T.block|apply T.exit|(apply T.cond_f;exact rfl)))
      have h1:catP (A.take 1)=x.xs:=by rw [hA];simp [catP]
      have hk1:k - 1=l.length:=by omega
      apply T.loopK (α:=Nat × List Value) (I:=fun y=>y.1≤l.length∧n≤(catP (A.take (y.1+1))).length+y.2.length) (σi:=fun y=>[(1,.slice none 0 0),(8,.slice (some ⟨b5,0,none⟩) n n),(9,.int .i64 ((catP (A.take (y.1+1))).length:Nat)),(70,.slice (sufP p cap 1 1) (k - 1) (cap - 1)),(71,.int .i64 ((k - 1:Nat):Int)),(72,.int .i64 y.1)]) (Li:=fun y=>[(b5,.cells ⟨u8s (catP (A.take (y.1+1)))++y.2⟩ 5 (0,0))]) (μ:=fun y=>l.length - y.1) (i0:=(0,cs5.drop x.xs.length))
      · refine ⟨Nat.zero_le _,?_⟩
        show n≤(catP (A.take 1)).length+_
        rw [h1,List.length_drop];omega
      · refine ⟨rfl,rfl,?_,rfl,rfl,rfl,trivial⟩
        show _=some (Value.int .i64 ((catP (A.take 1)).length:Nat))
        rw [h1];rfl
      · show Keep _ [(b5,.cells ⟨u8s (catP (A.take 1))++cs5.drop x.xs.length⟩ 5 (0,0))]
        rw [h1]
        (focus (repeat' first|exact Keep.nil _|exact Ext.one _ _|apply Keep.cons);done)
      · rintro ⟨i,rest⟩ ⟨hi,hrest⟩
        simp only at hi hrest ⊢
        rcases Nat.lt_or_ge i l.length with hlt|hge
        · obtain ⟨z,hz⟩:∃ z,l[i]? = some z:=⟨_,List.getElem?_eq_getElem (by omega)⟩
          obtain ⟨b,o,hpe,H⟩:=hsuf.at hz
          replace H:=H 1 Pt.v_len
          have hzA:A[i+1]? = some z:=by rw [hA];exact hz
          have hzr:RdSl w z.p u8V z.xs:=hr z (.tail _ (List.mem_of_getElem? hz))
          have hz0:0 < z.xs.length:=hpos z (List.mem_of_getElem? hz)
          have hle2:=hle (i+2)
          have hcat:=catP_take hzA
          have e2:i+1+1=i+2:=rfl
          rw [e2] at hcat
          obtain ⟨D,hD⟩:∃ D,D=catP (A.take (i+1)):=⟨_,rfl⟩
          rw [← hD] at hcat hrest ⊢
          rw [hcat,List.length_append] at hle2
          repeat' (first|(apply R.is1;first|(apply R.isBin;(apply R.pure;exact rfl;first|(apply Ok1.add64;exact rfl;exact rfl;omega;omega)|(apply Ok1.lss_t;exact rfl;exact rfl;omega)))|(apply R.isCall;first|(apply R.copyAll (xs:=([]:List Int)) (v:=u8V) (o':=D.length);(iterate 8 exact rfl);exact u8V_len;(intro w1 hw1;exact .inl rfl);exact rfl;exact Nat.zero_le _;(focus ((simp;done)));exact Upd.head;exact setE_nilO _ _)|(apply R.copyAll (xs:=z.xs) (v:=u8V) (o':=D.length);(iterate 8 exact rfl);exact u8V_len;(intro w1 hw1;exact hzr.chg hw1.chg (Off.nil _));(rw [fl_u8];exact u8s_one _);(focus (omega));(focus ((simp;done)));exact Upd.head;(have h:=setE_off (u8s D) (u8s z.xs) rest (by rw [u8s_len];omega);rw [u8s_len,u8s_len] at h;rw [fl_u8];exact h)))|(apply R.pure;exact rfl;first|(apply Ok1.indexAddrP;(iterate 4 exact rfl);exact hpe;exact rfl;omega;omega)|(apply Ok1.load;exact rfl;apply Ld.row0 H;exact rfl;exact List.not_mem_nil;(iterate 3 exact rfl))|(apply Ok1.move;exact rfl)|(apply Ok1.assign;exact rfl)|(apply Ok1.sliceFrom;(iterate 7 exact rfl);omega;omega;omega;omega;omega;(exact Or.inl rfl))))|apply R.nil|(apply T.is;first|apply T.seq|apply T.region|apply T.block|apply T.skip|(apply T.cond_t;exact rfl)))
          refine ⟨(i+1,rest.drop z.xs.length),⟨by simp only;omega,?_⟩,by simp only;omega,⟨rfl,rfl,?_,rfl,rfl,rfl,trivial⟩,?_⟩
          · show n≤(catP (A.take (i+2))).length+_
            rw [hcat,List.length_append,List.length_drop];omega
          · show _=some (Value.int .i64 ((catP (A.take (i+2))).length:Nat))
            rw [hcat,List.length_append]
            exact rfl
          · show Keep _ [(b5,.cells ⟨u8s (catP (A.take (i+2)))++rest.drop z.xs.length⟩ 5 (0,0))]
            rw [hcat,u8s_app,List.append_assoc]
            (focus (repeat' first|exact Keep.nil _|exact Ext.one _ _|apply Keep.cons);done)
        · have him:i=l.length:=by omega
          subst him
          rw [← hkk,List.take_of_length_le (by omega)]
          repeat' (first|(apply R.is1;first|(apply R.isBin;(apply R.pure;exact rfl;(apply Ok1.lss_f;exact rfl;exact rfl;omega)))|(apply R.pure;exact rfl;first|(apply Ok1.move;exact rfl)|(apply Ok1.assign;exact rfl)))|apply R.nil|(apply T.is;first|apply T.seq|apply T.region|apply T.exit|apply T.ret|(apply T.cond_f;exact rfl)))
          (apply RetOk.t;exact rfl)
          exact ⟨_,by (focus (repeat' first|exact Keep.nil _|exact Ext.one _ _|apply Keep.cons);done),b5,rest,rfl,rfl⟩
theorem bjoin5_ok (bb:Nat) (X1 X2 X3 X4 X5:Pt) (TT:List Int) (hT:TT=X1.xs++(X2.xs++(X3.xs++(X4.xs++X5.xs)))) (w:World) (hp:RdSl w (some ⟨bb,0,none⟩) Pt.v [X1,X2,X3,X4,X5]) (h1:RdSl w X1.p u8V X1.xs) (h2:RdSl w X2.p u8V X2.xs) (h3:RdSl w X3.p u8V X3.xs) (h4:RdSl w X4.p u8V X4.xs) (h5:RdSl w X5.p u8V X5.xs) (l2:0 < X2.xs.length) (l3:0 < X3.xs.length) (l4:0 < X4.xs.length) (l5:0 < X5.xs.length) (hbig:TT.length≤1000000) :
    CallM Tryz.prog 358 [.slice (some ⟨bb,0,none⟩) 5 5,.slice none 0 0] [] w fun v L=>∃ b junk,v = .slice (some ⟨b,0,none⟩) TT.length TT.length∧L=[(b,.cells ⟨u8s TT++junk⟩ 5 (0,0))]:=by
  have e:catP [X1,X2,X3,X4,X5]=TT:=by rw [hT];simp [catP]
  have h:=bjoinN_ok (some ⟨bb,0,none⟩) 5 X1 [X2,X3,X4,X5] (by simp) (by simp) w hp (by simp only [List.mem_cons,List.not_mem_nil,or_false,forall_eq_or_imp,forall_eq];exact ⟨h1,h2,h3,h4,h5⟩) (by simp only [List.mem_cons,List.not_mem_nil,or_false,forall_eq_or_imp,forall_eq];exact ⟨l2,l3,l4,l5⟩) (by rw [e];exact hbig) (by simp)
  rw [e] at h
  exact h
theorem pckE_zero {k:Int} {c:Cl} {to a b:Int} {n:Nat} {t:List Int} (h:pckE k c to a b n t=0):(0 < k∧k < 15)∧c.right∧(0≤to∧to≤65535)∧NR a b∧n≤512∧((k=1 ∨ k=2)→t=zI 32):=by
  unfold pckE at h
  by_cases g1:0 < k∧k < 15
  case neg=>rw [if_pos g1] at h;exact absurd h (by decide)
  rw [if_neg (fun g=>g g1)] at h
  by_cases g2:c.right∧0≤to∧to≤65535∧NR a b
  case neg=>rw [if_pos g2] at h;exact absurd h (by decide)
  rw [if_neg (fun g=>g g2)] at h
  by_cases g3:512 < n
  · rw [if_pos g3] at h;exact absurd h (by decide)
  rw [if_neg g3] at h
  by_cases g4:(k=1 ∨ k=2)∧t≠zI 32
  · rw [if_pos g4] at h;exact absurd h (by decide)
  exact ⟨g1,g2.1,⟨g2.2.1,g2.2.2.1⟩,g2.2.2.2,by omega,fun g=>Classical.byContradiction fun g5=>g4 ⟨g,g5⟩⟩
/-- What is tagged of a packet. -/
def pkH (k:Int) (c:Cl) (to a b:Int) (body:List Int):List Int:=numI 0 k++(clI c++(numI 1 to++(nbI a b++(numI 1 body.length++body))))
theorem pkH_len (k:Int) (c:Cl) (to a b:Int) (body:List Int):(pkH k c to a b body).length=20+body.length:=by
  have h1:(numI 0 k).length=1:=rfl
  have h2:(numI 1 to).length=2:=rfl
  have h3:(nbI a b).length=6:=rfl
  have h4:(numI 1 body.length).length=2:=rfl
  simp only [pkH,List.length_append,clI_len,h1,h2,h3,h4];omega
theorem phead_ok (k:Int) (c:Cl) (to a b:Int) (p:Option Addr) (n cap:Nat) (t:List Int) (body:List Int) (ht:t.length=32) (hE:pckE k c to a b n t=0) (hn:n=body.length) (w:World) (hb:RdSl w p u8V body) :
    CallM Tryz.prog 297 [.agg ⟨pkC k c to a b p n cap t⟩] [] w fun v L=>∃ bj junk,v = .tuple #[.slice (some ⟨bj,0,none⟩) (pkH k c to a b body).length (pkH k c to a b body).length,.int .i64 0]∧L=[(bj,.cells ⟨u8s (pkH k c to a b body)++junk⟩ 5 (0,0))]:=by
  obtain ⟨g1,g2,g3,g4,g5,g6⟩:=pckE_zero hE
  have hck:=pcheck_ok k c to a b p n cap t ht
  rw [hE] at hck
  have htag:=pk_tag k c to a b p n cap ht
  have hcb:=fun w1=>clBytes_ok c g2 w1
  have hnb:=fun w1=>wnbytes_ok a b g4 w1
  have hf1:Fits 0 k:=by unfold Fits;omega
  have hf2:Fits 1 to:=by unfold Fits;omega
  have hn1:=fun bw bl fz e w1=>number1_ok bw none [] (OvOk.start 1) 0 k hf1 (by decide) bl fz e w1
  have hn2:=fun bw bl fz e w1=>number1_ok bw none [] (OvOk.start 1) 1 to hf2 (by decide) bl fz e w1
  have hn3:=fun bw bl fz e w1 h1 h2 (hc:Chg [] w w1) h3=>wbytes1_ok bw none [] (OvOk.start 1) p n cap body hn g5 (by decide) bl fz e w1 h1 h2 (hb.chg hc (Off.nil _)) h3
  have hout:=fun (bw:Nat) (ov:Ov) (B:List Int) (hov:OvOk 1 ov B.length (u8s B)) (hB:B.length≤1000) L w1 (h1:Hp w [] L w1) (h2:∀ z∈WL bw ov B,z∈L)=>wout_ok bw ov B hov (by omega) w1 (h1.get _ _ (h2 _ List.mem_cons_self)) (rdown hov h1 fun z hz=>h2 z (List.mem_cons_of_mem _ hz))
  obtain ⟨B1,hB1⟩:∃ B,B=[]++numI 0 k:=⟨_,rfl⟩
  obtain ⟨B2,hB2⟩:∃ B,B=[]++numI 1 to:=⟨_,rfl⟩
  obtain ⟨B3,hB3⟩:∃ B,B=[]++(numI 1 n++body):=⟨_,rfl⟩
  have hl1:B1.length=1:=by rw [hB1];rfl
  have hl2:B2.length=2:=by rw [hB2];rfl
  have hl3:B3.length=2+n:=by rw [hB3,List.nil_append,List.length_append,hn];rfl
  obtain ⟨TT,hT⟩:∃ TT,TT=pkH k c to a b body:=⟨_,rfl⟩
  have hTe:TT=B1++(clI c++(B2++(nbI a b++B3))):=by rw [hT,hB1,hB2,hB3,hn];rfl
  have hTl:TT.length=20+n:=by rw [hT,pkH_len,hn]
  rw [← hB1] at hn1
  rw [← hB2] at hn2
  rw [← hB3] at hn3
  rw [← hT]
  have hj:=fun bb p1 c1 p2 c2 p3 c3 p4 c4 p5 c5 w1=>bjoin5_ok bb ⟨p1,c1,B1⟩ ⟨p2,c2,clI c⟩ ⟨p3,c3,B2⟩ ⟨p4,c4,nbI a b⟩ ⟨p5,c5,B3⟩ TT hTe w1
  clear hB1 hB2 hB3 hT hTe hE
  refine enterK (tb:=tb) Tryz.func297 rfl Tryz.ntmps297 rfl ?_
  have hpl:=pk_len k c to a b p n cap ht
  simp only [pkC] at htag hck hpl ⊢
  generalize hCL:clI c=CL at *
  have hcl:CL.length=9:=by rw [← hCL];rfl
  generalize hNB:nbI a b=NB at *
  have hnl:NB.length=6:=by rw [← hNB];rfl
  repeat' (first|(apply R.is1;first|(apply R.isBin;(apply R.pure;exact rfl;(apply Ok1.neq_f;exact rfl;exact rfl;omega)))|(apply R.isCall;first|apply R.callP rfl rfl rfl hck|(apply R.callE (vs:=[kvC c]);(iterate 3 exact rfl);exact Ext.none _;intro w1 hw1;exact hcb w1;rintro v Lo ⟨ovcl,hovcl,rfl,rfl⟩;rw [slV_eq hovcl])|(apply R.callE (vs:=[.agg ⟨[.int .i64 a,.int .i64 b]⟩]);(iterate 3 exact rfl);exact Ext.none _;intro w1 hw1;exact hnb w1;rintro v Lo ⟨ovn,hovn,rfl,rfl⟩;rw [slV_eq hovn]))|(apply R.pure;exact rfl;first|(apply Ok1.load;exact rfl;first|(apply Ld.own1;exact rfl;exact rfl;(focus (repeat' first|exact At.head|apply At.tail|apply At.right);done);exact rfl)|(apply Ld.ownk;exact rfl;exact rfl;(focus (repeat' first|exact At.head|apply At.right);done);exact rfl)|(apply Ld.ownk;exact rfl;exact rfl;exact At.head;exact subE_all hpl))|(apply Ok1.move;exact rfl)|(apply Ok1.fieldAddr;(iterate 5 exact rfl))|(apply Ok1.assign;exact rfl)|(apply Ok1.extract;exact rfl;exact rfl))|(apply R.box;(iterate 3 exact rfl);intro)|(apply R.alloc;(iterate 3 exact rfl);intro)|(apply R.buildSlice;(iterate 12 exact rfl);intro))|apply R.nil|(apply T.is;first|apply T.seq|apply T.region|apply T.skip|(apply T.cond_f;exact rfl)))
  rename_i bw1 bw2 bw3 bl1
  repeat' ((apply R.is1;(apply R.isCall;(apply R.callE (Li:=[(bw1,.cells ⟨[.slice none 0 0,.int .i64 0]⟩ 345 (0,0))]) (vs:=[.pointer (some ⟨bw1,0,none⟩),.int .i64 0,.slice (some ⟨bl1,0,none⟩) 1 1]);(iterate 3 exact rfl);(focus (repeat' first|exact Ext.one _ _|apply Ext.cons);done);intro w1 hw1;exact hn1 bw1 bl1 _ _ w1 (hw1.get _ _ List.mem_cons_self) (RdSl.off hw1 (by (focus (repeat' first|exact Ext.one _ _|apply Ext.cons);done)) List.mem_cons_self);rintro x Lo ⟨ov1,rfl,hov1,rfl⟩))))
  have h1:=hout bw1 ov1 B1 hov1 (by omega)
  generalize WL bw1 ov1 B1=W1 at h1 ⊢
  repeat' (first|(apply R.is1;first|(apply R.isCall;(apply R.callE (vs:=[.pointer (some ⟨bw1,0,none⟩)]);(iterate 3 exact rfl);exact Ext.none _;intro w1 hw1;exact h1 _ w1 hw1 (Ext.mem (by (focus ((repeat' (exact Ext.here _ _));done))));rintro x Lo ⟨ovx1,hovx1,rfl,rfl⟩;rw [slV_eq hovx1]))|(apply R.pure;exact rfl;first|(apply Ok1.load;exact rfl;(apply Ld.own1;exact rfl;exact rfl;(focus (repeat' first|exact At.head|apply At.tail|apply At.right);done);exact rfl))|(apply Ok1.move;exact rfl)|(apply Ok1.fieldAddr;(iterate 5 exact rfl))|(apply Ok1.assign;exact rfl)|(apply Ok1.extract;exact rfl;exact rfl))|(apply R.buildSlice;(iterate 12 exact rfl);intro))|apply R.nil|(apply T.is;first|apply T.seq|apply T.region))
  rename_i bl2
  repeat' ((apply R.is1;(apply R.isCall;(apply R.callE (Li:=[(bw2,.cells ⟨[.slice none 0 0,.int .i64 0]⟩ 345 (0,0))]) (vs:=[.pointer (some ⟨bw2,0,none⟩),.int .i64 1,.slice (some ⟨bl2,0,none⟩) 1 1]);(iterate 3 exact rfl);(focus (repeat' first|exact Ext.one _ _|apply Ext.cons|apply Ext.app);done);intro w1 hw1;exact hn2 bw2 bl2 _ _ w1 (hw1.get _ _ List.mem_cons_self) (RdSl.off hw1 (by (focus (repeat' first|exact Ext.one _ _|apply Ext.cons|apply Ext.app);done)) List.mem_cons_self);rintro x Lo ⟨ov2,rfl,hov2,rfl⟩))))
  have h2:=hout bw2 ov2 B2 hov2 (by omega)
  generalize WL bw2 ov2 B2=W2 at h2 ⊢
  repeat' (first|(apply R.is1;first|(apply R.isCall;(apply R.callE (vs:=[.pointer (some ⟨bw2,0,none⟩)]);(iterate 3 exact rfl);exact Ext.none _;intro w1 hw1;exact h2 _ w1 hw1 (Ext.mem (by (focus ((repeat' (exact Ext.here _ _));done))));rintro x Lo ⟨ovx2,hovx2,rfl,rfl⟩;rw [slV_eq hovx2]))|(apply R.pure;exact rfl;first|(apply Ok1.load;exact rfl;(apply Ld.own1;exact rfl;exact rfl;(focus (repeat' first|exact At.head|apply At.tail|apply At.right);done);exact rfl))|(apply Ok1.move;exact rfl)|(apply Ok1.fieldAddr;(iterate 5 exact rfl))|(apply Ok1.assign;exact rfl)|(apply Ok1.extract;exact rfl;exact rfl))|(apply R.buildSlice;(iterate 12 exact rfl);intro))|apply R.nil|(apply T.is;first|apply T.seq|apply T.region))
  rename_i bl3
  repeat' ((apply R.is1;(apply R.isCall;(apply R.callE (Li:=[(bw3,.cells ⟨[.slice none 0 0,.int .i64 0]⟩ 345 (0,0))]) (vs:=[.pointer (some ⟨bw3,0,none⟩),.slice (some ⟨bl3,0,none⟩) 1 1]);(iterate 3 exact rfl);(focus (repeat' first|exact Ext.one _ _|apply Ext.cons|apply Ext.app);done);intro w1 hw1;exact hn3 bw3 bl3 _ _ w1 (hw1.get _ _ List.mem_cons_self) (RdSl.off hw1 (by (focus (repeat' first|exact Ext.one _ _|apply Ext.cons|apply Ext.app);done)) List.mem_cons_self) hw1.chg (hb.old u8V_len (Nat.le_refl _) (fun _=>Off.nil _) hw1 (by (focus (repeat' first|exact Ext.one _ _|apply Ext.cons|apply Ext.app);done)));rintro x Lo ⟨ov3,rfl,hov3,rfl⟩))))
  have h3:=hout bw3 ov3 B3 hov3 (by omega)
  generalize WL bw3 ov3 B3=W3 at h3 ⊢
  repeat' (first|(apply R.is1;first|(apply R.isCall;(apply R.callE (vs:=[.pointer (some ⟨bw3,0,none⟩)]);(iterate 3 exact rfl);exact Ext.none _;intro w1 hw1;exact h3 _ w1 hw1 (Ext.mem (by (focus ((repeat' (exact Ext.here _ _));done))));rintro x Lo ⟨ovx3,hovx3,rfl,rfl⟩;rw [slV_eq hovx3]))|(apply R.pure;exact rfl;first|(apply Ok1.move;exact rfl)|(apply Ok1.assign;exact rfl)|(apply Ok1.extract;exact rfl;exact rfl))|(apply R.buildSlice;(iterate 12 exact rfl);intro))|apply R.nil|(apply T.is;first|apply T.seq|apply T.region))
  repeat' (first|(apply R.is1;first|(apply R.isCall;(apply R.callE;(iterate 3 exact rfl);exact Ext.none _;intro w1 hw1;exact hj _ (ovp ovx1) (ovc ovx1 B1.length) (ovp ovcl) (ovc ovcl 9) (ovp ovx2) (ovc ovx2 B2.length) (ovp ovn) (ovc ovn 6) (ovp ovx3) (ovc ovx3 B3.length) w1 (RdSl.of (v:=Pt.v) (rs:=[⟨ovp ovx1,ovc ovx1 B1.length,B1⟩,⟨ovp ovcl,ovc ovcl 9,CL⟩,⟨ovp ovx2,ovc ovx2 B2.length,B2⟩,⟨ovp ovn,ovc ovn 6,NB⟩,⟨ovp ovx3,ovc ovx3 B3.length,B3⟩]) (junk:=[]) hw1 .head (by simp [Pt.v,fl,hcl,hnl])) (RdSl.own' hw1 (Ext.mem (by rw [fl_u8];(focus (repeat' first|exact Ext.here _ _|apply Ext.cons|apply Ext.app);done))) (by rw [fl_u8];exact hovx1) u8V_len) (RdSl.own' hw1 (Ext.mem (by rw [fl_u8];(focus (repeat' first|exact Ext.here _ _|apply Ext.cons|apply Ext.app);done))) (by rw [fl_u8];exact (hcl.symm ▸ hovcl)) u8V_len) (RdSl.own' hw1 (Ext.mem (by rw [fl_u8];(focus (repeat' first|exact Ext.here _ _|apply Ext.cons|apply Ext.app);done))) (by rw [fl_u8];exact hovx2) u8V_len) (RdSl.own' hw1 (Ext.mem (by rw [fl_u8];(focus (repeat' first|exact Ext.here _ _|apply Ext.cons|apply Ext.app);done))) (by rw [fl_u8];exact (hnl.symm ▸ hovn)) u8V_len) (RdSl.own' hw1 (Ext.mem (by rw [fl_u8];(focus (repeat' first|exact Ext.here _ _|apply Ext.cons);done))) (by rw [fl_u8];exact hovx3) u8V_len) (by show 0 < CL.length;omega) (by show 0 < B2.length;omega) (by show 0 < NB.length;omega) (by show 0 < B3.length;omega) (by omega);rintro x Lo ⟨bj,junk,rfl,rfl⟩))|(apply R.pure;exact rfl;first|(apply Ok1.move;exact rfl)|(apply Ok1.assign;exact rfl)))|apply R.nil|(apply T.is;apply T.ret))
  (apply RetOk.tt;exact rfl;exact rfl)
  exact ⟨_,by (focus (repeat' first|exact Keep.nil _|exact Ext.one _ _|apply Keep.cons);done),bj,junk,rfl,rfl⟩
section
variable {X:Cx} {σ:Env} {L:Lst} {dd:Nat} {ty:TypeId} {pos:String} {af:Array Edge} {x y:Operand} {t t2 e:TypeId} {r r2 re:TRow} {all:Array Oper} {rest:List Oper} {K:Env→Lst→Prop}
theorem append_grow {P:Program} (tb:Tb P) (ht:tb.row t=some r) (hk:r.k = .slice e) (he:tb.row e=some re) {zc:List Value} (hz:cellsE re.zero=some zc) (hzl:zc.length=re.size) (ht2:tb.row t2=some r2) {e2:Nat} (hk2:r2.k = .slice e2)
    {w0 w:World} {S:List Nat} {base:Option Addr} {s2:Value} {n m cap:Nat} {old news:List Value} (hw:Hp w0 S L w) (hold:Holds w (.slice base n cap) old) (hlo:old.length=n * re.size) (hc2:cap < n+m) (hs2:Builtin.lenOf s2=Pure.pure m) (hn2:Holds w s2 news) (hlen:news.length=m * re.size)
    (hbig:(2 * (n+m)+768) * re.bytes≤281474976710656) (hb1:1≤re.bytes) :
    ∃ b' j' junk' w',junk'.length=j' * re.size∧(Builtin.append_ #[t,t2] ty #[.slice base n cap,s2]).run P w = .ok (.slice (some ⟨b',0,none⟩) (n+m) (n+m+j')) w' ∧ Hp w0 S ((b',.cells ⟨old++news++junk'⟩ e (0,0))::L) w':=by
  have hu:P.underlying t=some (.slice e):=by have:=(tb.get ht).is;rw [hk] at this;exact this
  have hu2:P.underlying t2=some (.slice e2):=by have:=(tb.get ht2).is;rw [hk2] at this;exact this
  have hbytes:∃ i,P.info? e=some i∧i.bytes=re.bytes:=by
    have:=(tb.get he).bytes
    cases h:P.info? e with
    | none=>rw [h] at this;cases this
    | some i=>rw [h] at this;exact ⟨i,rfl,by simpa using this⟩
  obtain ⟨i,hi,hib⟩:=hbytes
  have hti:∀ w,(typeInfo e).run P w = .ok i w:=fun w=>by simp [typeInfo,hi]
  have hzc:=cellsE_eq hz
  have hnx:=nextcap_le (n+m) cap (by omega)
  have hnb:¬ Builtin.nextslicecap (n+m) cap * re.bytes > 2 ^ 48:=by
    have:=Nat.mul_le_mul_right re.bytes hnx
    have:(2:Nat) ^ 48=281474976710656:=by decide
    omega
  have hold':Holds w.drew (.slice base n cap) old:=hold
  have hnew':Holds w.drew s2 news:=hn2
  obtain ⟨q,hq⟩:∃ q,(Question.appendCap (n+m) cap e).cut (w.tape w.drawn (.appendCap (n+m) cap e))=n+m+q:=⟨_,rfl⟩
  refine ⟨w.heap.size,q,(Builtin.zeroCells (zeroCellsOf re) q).toList,w.drew.alloc (.cells ⟨old++news++(Builtin.zeroCells (zeroCellsOf re) q).toList⟩ e (0,0)),?_,?_,?_⟩
  · simp [zeroCells_size,zeroCellsOf,hzc,hzl]
  · have harr:(Array.mk old++Array.mk news++Builtin.zeroCells re.zero.cells (n+m+q - (n+m)):Array Value)=⟨old++news++(Builtin.zeroCells (zeroCellsOf re) q).toList⟩:=by
      apply Array.toList_inj.1
      simp [zeroCellsOf]
    have hf1:=first_run (P:=P) hold' hlo
    have hf2:=first_run (P:=P) hnew' hlen
    unfold Builtin.append_
    simp only [List.getElem?_toArray,List.getElem?_cons_zero,List.getElem?_cons_succ,Sem.run_bind,run_underlying hu,run_underlying hu2,Result.andThen_ok,(tb.get he).size,Sem.run_pure,Bool.false_eq_true,if_false,hs2,Bool.not_false,if_true,
      show ¬ n+m≤cap by omega,hti,hib,Sem.run_ite,show ¬ re.bytes=0 by omega,or_false,and_false,false_or,hnb,run_choose,Question.forced,hq,run_askRoom,World.drew_eq,hf1,hf2,(tb.get he).zero,newRow,run_newObj,harr]
    rfl
  · exact (hw.step (Chg.drew [] w)).alloc _
/-- append to a slice without room: a new row. -/
theorem R.appendNew {α:Type} {v:α→List Value} {xs ys:List α} {n m cap cap2:Nat} {p p2:Option Addr} {e2:Nat} {zc:List Value} (hn:Nat.blt dd X.n=true) (ht:X.tb.row t=some r) (hk:r.k = .slice e) (he:X.tb.row e=some re) (hz:cellsE re.zero=some zc) (hzl:zc.length=re.size) (ht2:X.tb.row t2=some r2) (hk2:r2.k = .slice e2) (hb1:Nat.ble 1 re.bytes=true) (hb2:Nat.ble re.bytes 65536=true)
    (hx:ev σ x=some (.slice p n cap)) (hy:ev σ y=some (.slice p2 m cap2)) (hv:∀ a,(v a).length=1) (hs:re.size=1) (hxn:n=xs.length) (hym:m=ys.length) (hne:xs≠[]) (hne2:ys≠[]) (hc:cap < n+m)
    (hh:∀ w,Hp X.w0 X.S L w→RdSl w p v xs) (hh2:∀ w,Hp X.w0 X.S L w→RdSl w p2 v ys) (hbig:n+m≤1073741824)
    (h:∀ ov',OvOk re.size ov' (n+m) (fl v xs++fl v ys)→ov'.isSome=true→R X all rest K ((dd,slV ov' (n+m))::σ) (blkL e ov' (fl v xs++fl v ys)++L)) :
    R X all (⟨some dd,.call { callee:=.builtin .append,args:=#[x,y],argTypes:=#[t,t2] },ty,pos,af,none⟩::rest) K σ L :=
  R.value rfl rfl hn fun a w ha hw=>by
    have h3:=Nat.le_of_ble_eq_true hb2
    have hl1:(fl v xs).length=n * re.size:=by rw [fl_len hv,hs,hxn]
    have hl2:(fl v ys).length=m * re.size:=by rw [fl_len hv,hs,hym]
    obtain ⟨b',j',junk',w',g1,g2,g3⟩:=append_grow X.tb (ty:=ty) ht hk he hz hzl ht2 hk2 hw (((hh w hw).holds hne):Holds w (.slice p n cap) _) hl1 hc rfl (((hh2 w hw).holds hne2):Holds w (.slice p2 m cap2) _) hl2 (Nat.le_trans (Nat.mul_le_mul (show 2 * (n+m)+768≤2147484416 by omega) h3) (by decide)) (Nat.le_of_ble_eq_true hb1)
    refine ⟨slV (some (b',j',junk')) (n+m),w',_,?_,g3,h (some (b',j',junk')) ⟨by rw [List.length_append,hl1,hl2,Nat.add_mul],g1⟩ rfl⟩
    simp [execOp,resolve,ha.ev hx,ha.ev hy,invoke,builtin,g2,slV]
end
/-- A packet's bytes. -/
def pkB (k:Int) (c:Cl) (to a b:Int) (body t:List Int):List Int:=pkH k c to a b body++t
theorem pkB_len (k:Int) (c:Cl) (to a b:Int) (body:List Int) {t:List Int} (ht:t.length=32):(pkB k c to a b body t).length=52+body.length:=by
  rw [pkB,List.length_append,pkH_len,ht];omega
theorem pbytes_ok (k:Int) (c:Cl) (to a b:Int) (p:Option Addr) (n cap:Nat) (t:List Int) (body:List Int) (ht:t.length=32) (hE:pckE k c to a b n t=0) (hn:n=body.length) (w:World) (hb:RdSl w p u8V body) :
    CallM Tryz.prog 201 [.agg ⟨pkC k c to a b p n cap t⟩] [] w fun v L=>∃ ov,OvOk 1 ov (pkB k c to a b body t).length (u8s (pkB k c to a b body t))∧v = .tuple #[slV ov (pkB k c to a b body t).length,.int .i64 0]∧L=blkL 5 ov (u8s (pkB k c to a b body t)):=by
  have hh:=fun w1 (hc:Chg [] w w1)=>phead_ok k c to a b p n cap t body ht hE hn w1 (hb.chg hc (Off.nil _))
  have hl:=pkH_len k c to a b body
  have hbl:=(pckE_zero hE).2.2.2.2.1
  have hpl:=pk_len k c to a b p n cap ht
  have hpB:u8s (pkB k c to a b body t)=u8s (pkH k c to a b body)++u8s t:=u8s_app _ _
  have hpBl:(pkB k c to a b body t).length=(pkH k c to a b body).length+32:=by rw [pkB,List.length_append,ht]
  rw [hpB,hpBl]
  generalize hHH:pkH k c to a b body=HH at *
  have hne:HH≠[]:=by rintro rfl;simp at hl;omega
  have hnt:t≠[]:=by rintro rfl;cases ht
  clear hpB hpBl hHH hE
  refine enterK (tb:=tb) Tryz.func201 rfl Tryz.ntmps201 rfl ?_
  simp only [pkC] at hh hpl ⊢
  repeat' (first|(apply R.is1;first|(apply R.isBin;(apply R.pure;exact rfl;(apply Ok1.neq_f;exact rfl;exact rfl;omega)))|(apply R.isCall;first|(apply R.callE;(iterate 3 exact rfl);exact Ext.none _;intro w1 hw1;exact hh w1 hw1.chg;rintro v Lo ⟨bj,junk,rfl,rfl⟩)|(apply R.appendNew (xs:=HH) (ys:=t) (v:=u8V) (n:=HH.length) (m:=32);(iterate 12 exact rfl);exact u8V_len;exact rfl;exact rfl;exact ht.symm;exact hne;exact hnt;omega;(intro w1 hw1;exact RdSl.of hw1 (by exact At.head) (by rw [fl_u8]));(intro w1 hw1;exact RdSl.mid (pre:=[.int .i64 k,.int .i64 c.id,.int .i64 c.roles,.int .i64 c.exp,.int .i64 c.ser,.int .i64 to,.int .i64 a,.int .i64 b,.slice p n cap]) (junk:=[]) hw1 (by rw [List.append_nil];(focus (repeat' first|exact At.head|apply At.tail);done)) rfl);omega;intro ov1 hov1 hs1;rw [fl_u8,fl_u8];rw [fl_u8,fl_u8] at hov1))|(apply R.pure;exact rfl;first|(apply Ok1.load;exact rfl;(apply Ld.ownk;exact rfl;exact rfl;exact At.head;exact subE_all hpl))|(apply Ok1.sliceArr;(iterate 4 exact rfl))|(apply Ok1.move;exact rfl)|(apply Ok1.fieldAddr;(iterate 5 exact rfl))|(apply Ok1.assign;exact rfl)|(apply Ok1.extract;exact rfl;exact rfl))|(apply R.box;(iterate 3 exact rfl);intro))|apply R.nil|(apply T.is;first|apply T.seq|apply T.region|apply T.skip|apply T.ret|(apply T.cond_f;exact rfl)))
  (apply RetOk.tt;exact rfl;exact rfl)
  exact ⟨_,by (focus (repeat' first|exact Ext.here _ _|apply Keep.last);done),ov1,hov1,rfl,rfl⟩
theorem cat1 (p:Option Addr) (cap:Nat) (xs:List Int):cat [⟨p,cap,xs⟩]=xs:=by simp [cat]
theorem pckE_np {k:Int} {c:Cl} {to a b:Int} {n:Nat} (t t2:List Int) (h:¬ (k=1 ∨ k=2)):pckE k c to a b n t=pckE k c to a b n t2:=by
  unfold pckE
  rw [if_neg (c:=(k=1 ∨ k=2)∧t≠zI 32) (fun g=>h g.1),if_neg (c:=(k=1 ∨ k=2)∧t2≠zI 32) (fun g=>h g.1)]
theorem pkH_byt (k:Int) (c:Cl) (to a b:Int) {body:List Int} (h:Byt body):Byt (pkH k c to a b body) :=
  Byt.app (num_byt _ _) (Byt.app (clI_byt _) (Byt.app (num_byt _ _) (Byt.app (Byt.app (Byt.app byt_nil (num_byt _ _)) (num_byt _ _)) (Byt.app (num_byt _ _) h))))
/-- A packet's tag. -/
def pkT (key:List Int) (k:Int) (c:Cl) (to a b:Int) (body:List Int):List Int:=hmacI key (pkH k c to a b body)
theorem ptagged_ok (k:Int) (c:Cl) (to a b:Int) (p:Option Addr) (n cap:Nat) (t:List Int) (body:List Int) (ht:t.length=32) (hp:¬ (k=1 ∨ k=2)) (hE:pckE k c to a b n t=0) (hn:n=body.length) (hbb:Byt body) (bk:Nat) (key:List Int) (hkl:key.length≤999999000) (hkb:Byt key) (w:World) (hK:KeyR w bk key) (hb:RdSl w p u8V body) :
    CallM Tryz.prog 200 [.agg ⟨pkC k c to a b p n cap t⟩,.pointer (some ⟨bk,0,none⟩)] [] w fun v L=>∃ ov,OvOk 1 ov n (u8s body)∧v = .tuple #[.agg ⟨pkC k c to a b (ovp ov) n (ovc ov n) (pkT key k c to a b body)⟩,.int .i64 0]∧L=blkL 5 ov (u8s body):=by
  have hz:(zI 32).length=32:=rfl
  have hE0:pckE k c to a b n (zI 32)=0:=by rw [pckE_np (zI 32) t hp];exact hE
  have hn5:n≤512:=(pckE_zero hE).2.2.2.2.1
  have hh:=fun w1 (hc:Chg [] w w1)=>phead_ok k c to a b p n cap (zI 32) body hz hE0 hn w1 (hb.chg hc (Off.nil _))
  have hpl:=pplain_ok k
  rw [decide_eq_false hp] at hpl
  have hcl:=fun w1 (hc:Chg [] w w1)=>clone_ok p n cap body hn (by omega) w1 (hb.chg hc (Off.nil _))
  have hHl:=pkH_len k c to a b body
  have hHb:=pkH_byt k c to a b hbb
  have htg:=fun pp c2 (x:Pt) w1 (hx:x.xs=pkH k c to a b body) (hc:Chg [] w w1) (h1:RdSl w1 pp Pt.v [x]) (h2:RdSl w1 x.p u8V x.xs)=>ktag_ok bk key hkl hkb pp 1 c2 [x] rfl (by rw [cat1,hx];exact hHb) (by rw [cat1,hx,hHl];omega) (by decide) w1 (hK.chg hc) h1 (by simp only [List.mem_cons,List.not_mem_nil,or_false,forall_eq];exact h2)
  have htl:(pkT key k c to a b body).length=32:=by unfold pkT;exact hmac_len _ _
  have htd:∀ x:Pt,x.xs=pkH k c to a b body→hmacI key (cat [x])=pkT key k c to a b body:=fun x hx=>by rw [cat1,hx];rfl
  have hs1:=pk_set k c to a b p n cap ht hz
  have hl0:=pk_len k c to a b p n cap hz
  have hl1:=fun p2 cap2=>pk_len k c to a b p2 n cap2 htl
  have ho1:=fun p2 cap2=>pk_one k c to a b p2 n cap2 (pkT key k c to a b body)
  have hs2:=fun p2 cap2=>pk_set k c to a b p2 n cap2 hz htl
  generalize pkT key k c to a b body=TG at *
  generalize pkH k c to a b body=HH at *
  have htl2:(u8s TG).length=32:=by rw [u8s_len,htl]
  refine enterK (tb:=tb) Tryz.func200 rfl Tryz.ntmps200 rfl ?_
  simp only [pkC] at hh hl0 hl1 ho1 hs1 hs2 ⊢
  repeat' (first|(apply R.is1;first|(apply R.isBin;(apply R.pure;exact rfl;first|(apply Ok1.eqlP;(iterate 5 exact rfl))|(apply Ok1.neq_f;exact rfl;exact rfl;omega)))|(apply R.isCall;first|apply R.callP rfl rfl rfl hpl|(apply R.callE (vs:=[.agg _]);(iterate 3 exact rfl);exact Ext.none _;intro w1 hw1;exact hh w1 hw1.chg;rintro v Lo ⟨bj,junk,rfl,rfl⟩)|(apply R.callE (vs:=[.slice p n cap]);(iterate 3 exact rfl);exact Ext.none _;intro w1 hw1;exact hcl w1 hw1.chg;rintro v Lo ⟨ov1,hov1,hso1,rfl,rfl⟩;rw [slV_eq hov1])|(apply R.callW (vs:=[.pointer (some ⟨bk,0,none⟩),.slice _ 1 1]);(iterate 3 exact rfl);intro w1 hw1;exact htg _ _ ⟨some ⟨bj,0,none⟩,HH.length,HH⟩ w1 rfl hw1.chg (RdSl.of (v:=Pt.v) (rs:=[⟨some ⟨bj,0,none⟩,HH.length,HH⟩]) (junk:=[]) hw1 .head rfl) (RdSl.of hw1 (by (focus (repeat' first|exact At.head|apply At.tail|apply At.right);done)) (by rw [fl_u8]));intro v hv;rw [htd _ rfl] at hv;subst hv))|(apply R.pure;exact rfl;first|(apply Ok1.load;exact rfl;first|(apply Ld.own1;exact rfl;exact rfl;(focus (repeat' first|exact At.head|apply At.tail);done);exact rfl)|(apply Ld.ownk;exact rfl;exact rfl;(focus (repeat' first|exact At.head|apply At.tail|apply At.right);done);exact rfl)|(apply Ld.ownk;exact rfl;exact rfl;(focus (repeat' first|exact At.head|apply At.tail|apply At.right);done);exact subE_all (hl1 _ _)))|(apply Ok1.move;exact rfl)|(apply Ok1.fieldAddr;(iterate 5 exact rfl))|(apply Ok1.assign;exact rfl)|(apply Ok1.extract;exact rfl;exact rfl)|(apply Ok1.buildA;(iterate 6 exact rfl)))|(apply R.box;(iterate 3 exact rfl);intro)|(apply R.alloc;(iterate 3 exact rfl);intro)|(apply R.buildSlice;(iterate 12 exact rfl);intro))|(apply R.is0;first|(apply R.store;(iterate 6 exact rfl);(focus (repeat' first|exact Upd.head|apply Upd.tail|apply Upd.right);done);exact hs1)|(apply R.store;(iterate 4 exact rfl);exact htl2;exact u8s_one _;(focus (repeat' first|exact Upd.head|apply Upd.tail|apply Upd.right);done);exact hs2 _ _)|(apply R.store;(iterate 4 exact rfl);exact (hl1 _ _);exact (ho1 _ _);(focus (repeat' first|exact Upd.head|apply Upd.tail|apply Upd.right);done);exact setE_all (hl1 _ _))|(apply R.store;(iterate 6 exact rfl);(focus (repeat' first|exact Upd.head|apply Upd.tail|apply Upd.right);done);exact rfl))|apply R.nil|(apply T.is;first|apply T.seq|apply T.region|apply T.block|apply T.skip|apply T.ret|(apply T.cond_f;exact rfl)))
  (apply RetOk.ct;exact rfl;(apply Ld.ownk;exact rfl;exact rfl;(focus (repeat' first|exact At.head|apply At.tail|apply At.right);done);exact subE_all (hl1 _ _));exact rfl)
  exact ⟨_,by (focus (repeat' first|exact Ext.here _ _|apply Keep.last|apply Ext.cons);done),ov1,hov1,rfl,rfl⟩
theorem rown_ok (br:Nat) (c:Cl) (s:List Int) (hs:s.length=32) (m1 m2:Nat) (e:TypeId) (w:World) (hb:w.heap[br]? = some (.cells ⟨ringC c s m1 m2⟩ e (0,0))) :
    CallM Tryz.prog 32 [.pointer (some ⟨br,0,none⟩)] [] w fun v L=>v = .agg ⟨tkC c s⟩∧L=[]:=by
  have htk:=ring_tk c hs m1 m2
  have htl:=tk_len (c:=c) hs
  have hto:=tk_one c s
  refine enterK (tb:=tb) Tryz.func32 rfl Tryz.ntmps32 rfl ?_
  repeat' (first|(apply R.is1;first|(apply R.isBin;(apply R.pure;exact rfl;(apply Ok1.eqlP;(iterate 5 exact rfl))))|(apply R.pure;exact rfl;first|(apply Ok1.load;exact rfl;(apply Ld.blkk;exact rfl;exact rfl;exact hb;exact List.not_mem_nil;exact htk))|(apply Ok1.move;exact rfl)|(apply Ok1.fieldAddr;(iterate 5 exact rfl))|(apply Ok1.nilCheck;exact rfl))|(apply R.alloc;(iterate 3 exact rfl);intro))|(apply R.is0;(apply R.store;(iterate 4 exact rfl);exact htl;exact hto;exact Upd.head;exact setE_all htl))|apply R.nil|(apply T.is;first|apply T.seq|apply T.region|apply T.skip|apply T.ret|(apply T.cond_f;exact rfl)))
  (apply RetOk.c;exact rfl;(apply Ld.ownk;exact rfl;exact rfl;exact At.head;exact subE_all htl))
  exact ⟨_,by (focus ((repeat' (exact Keep.nil _));done)),rfl,rfl⟩
theorem wstart_ok (boot:Int) (h:NR boot 1) (w:World):CallM Tryz.prog 163 [.int .i64 boot] [] w fun v L=>∃ b,v = .tuple #[.pointer (some ⟨b,0,none⟩),.int .i64 0]∧L=[(b,.cells ⟨[.int .i64 boot,.int .i64 0]⟩ 400 (0,0))]:=by
  have hck:=nonce_ok boot 1
  rw [if_pos h] at hck
  refine enterK (tb:=tb) Tryz.func163 rfl Tryz.ntmps163 rfl ?_
  repeat' (first|(apply R.is1;first|(apply R.isBin;(apply R.pure;exact rfl;(apply Ok1.neq_f;exact rfl;exact rfl;omega)))|(apply R.isCall;apply R.callP rfl rfl rfl hck)|(apply R.pure;exact rfl;first|(apply Ok1.move;exact rfl)|(apply Ok1.assign;exact rfl)|(apply Ok1.build;(iterate 5 exact rfl)))|(apply R.box;(iterate 3 exact rfl);intro))|apply R.nil|(apply T.is;first|apply T.seq|apply T.region|apply T.skip|apply T.ret|(apply T.cond_f;exact rfl)))
  (apply RetOk.tt;exact rfl;exact rfl)
  exact ⟨_,by (focus (repeat' first|exact Keep.nil _|exact Ext.one _ _|apply Keep.cons);done),_,rfl,rfl⟩
theorem wstart_bad (boot:Int) (h:¬ NR boot 1):CallP Tryz.prog 163 [.int .i64 boot] (.tuple #[.pointer none,.int .i64 10]):=by
  have hck:=nonce_ok boot 1
  rw [if_neg h] at hck
  refine enterP (tb:=tb) Tryz.func163 rfl Tryz.ntmps163 rfl fun w=>?_
  repeat' (first|(apply R.is1;first|(apply R.isBin;(apply R.pure;exact rfl;(apply Ok1.neq_t;exact rfl;exact rfl;omega)))|(apply R.isCall;apply R.callP rfl rfl rfl hck)|(apply R.pure;exact rfl;first|(apply Ok1.move;exact rfl)|(apply Ok1.assign;exact rfl)|(apply Ok1.build;(iterate 5 exact rfl))))|apply R.nil|(apply T.is;first|apply T.seq|apply T.region|apply T.ret|(apply T.cond_t;exact rfl)))
  (apply RetOk.tt;exact rfl;exact rfl)
  rfl
theorem wnext_ok (b:Nat) (boot n:Int) (h0:0≤n) (h:n < 2147483647) (w:World):CallM Tryz.prog 198 [.pointer (some ⟨b,0,none⟩)] [(b,.cells ⟨[.int .i64 boot,.int .i64 n]⟩ 400 (0,0))] w fun v L=>v = .tuple #[.agg ⟨[.int .i64 boot,.int .i64 (n+1)]⟩,.int .i64 0]∧L=[(b,.cells ⟨[.int .i64 boot,.int .i64 (n+1)]⟩ 400 (0,0))]:=by
  refine enterK (tb:=tb) Tryz.func198 rfl Tryz.ntmps198 rfl ?_
  repeat' (first|(apply R.is1;first|(apply R.isBin;(apply R.pure;exact rfl;first|(apply Ok1.eqlP;(iterate 5 exact rfl))|(apply Ok1.add64;exact rfl;exact rfl;omega;omega)|(apply Ok1.eql_f;exact rfl;exact rfl;omega)))|(apply R.pure;exact rfl;first|(apply Ok1.move;exact rfl)|(apply Ok1.fieldAddr;(iterate 5 exact rfl))|(apply Ok1.load;exact rfl;first|(apply Ld.own1;exact rfl;exact rfl;(focus (repeat' first|exact At.head|apply At.tail);done);exact rfl)|(apply Ld.ownk;exact rfl;exact rfl;(focus (repeat' first|exact At.head|apply At.tail);done);exact rfl))|(apply Ok1.assign;exact rfl)|(apply Ok1.nilCheck;exact rfl))|(apply R.alloc;(iterate 3 exact rfl);intro))|(apply R.is0;(apply R.store;(iterate 6 exact rfl);(focus (repeat' first|exact Upd.head|apply Upd.tail);done);exact rfl))|apply R.nil|(apply T.is;first|apply T.seq|apply T.region|apply T.block|apply T.skip|apply T.ret|(apply T.cond_f;exact rfl)))
  (apply RetOk.ct;exact rfl;(apply Ld.ownk;exact rfl;exact rfl;exact At.head;exact rfl);exact rfl)
  exact ⟨_,by (focus (repeat' first|exact Keep.nil _|exact Ext.one _ _|apply Keep.cons|apply Ext.cons);done),rfl,rfl⟩
theorem dnew_ok (w:World):CallM Tryz.prog 164 [.int .i64 2147483647] [] w fun v L=>∃ b cs,v = .tuple #[.pointer (some ⟨b,0,none⟩),.int .i64 0]∧L=[(b,.cells ⟨cs⟩ 320 (0,0))]:=by
  refine enterK (tb:=tb) Tryz.func164 rfl Tryz.ntmps164 rfl ?_
  repeat' (first|(apply R.is1;first|(apply R.isBin;(apply R.pure;exact rfl;first|(apply Ok1.lss_f;exact rfl;exact rfl;omega)|(apply Ok1.gtr_f;exact rfl;exact rfl;omega)))|(apply R.pure;exact rfl;first|(apply Ok1.move;exact rfl)|(apply Ok1.assign;exact rfl)|(apply Ok1.build;(iterate 5 exact rfl))|(apply Ok1.pick_f;exact rfl;exact rfl))|(apply R.box;(iterate 3 exact rfl);intro))|(apply R.isG;(apply R.guard_run;exact rfl;exact rfl))|apply R.nil|(apply T.is;first|apply T.seq|apply T.region|apply T.skip|apply T.ret|(apply T.cond_f;exact rfl)))
  (apply RetOk.tt;exact rfl;exact rfl)
  exact ⟨_,by (focus (repeat' first|exact Keep.nil _|exact Ext.one _ _|apply Keep.cons);done),_,_,rfl,rfl⟩
/-- Four windows that have taken nothing. -/
def wz4:List Value:=[.int .i64 0,.int .i64 0,.int .u64 0,.int .i64 0,.int .i64 0,.int .u64 0,.int .i64 0,.int .i64 0,.int .u64 0,.int .i64 0,.int .i64 0,.int .u64 0]
/-- A channel's cells. -/
def chC (bn br bb bd:Nat) (sd:List Value):List Value:=[.pointer (some ⟨bn,0,none⟩),.pointer (some ⟨br,0,none⟩),.pointer (some ⟨bb,0,none⟩),.pointer (some ⟨bd,0,none⟩)]++sd
/-- What a new channel is made of. -/
def ChL (bc bn br bb bd bm m1 m2:Nat) (c:Cl) (s:List Int) (boot:Int) (sd dr:List Value):Lst:=(bc,.cells ⟨chC bn br bb bd sd⟩ 173 (0,0))::((bn,.cells ⟨[.int .i64 boot,.int .i64 0]⟩ 400 (0,0))::((bd,.cells ⟨dr⟩ 320 (0,0))::(RL0 br m1 m2 c s++BL bb bm [] 0)))
theorem chnew_ok (c:Cl) (hr:c.right) (s:List Int) (hs:s.length=32) (boot:Int) (hb:NR boot 1) (w:World):CallM Tryz.prog 76 [.agg ⟨tkC c s⟩,.int .i64 boot] [] w fun v L=>∃ bc bn br bb bd bm m1 m2 sd dr,v = .tuple #[.pointer (some ⟨bc,0,none⟩),.int .i64 0]∧L=ChL bc bn br bb bd bm m1 m2 c s boot sd dr:=by
  have htl:=tk_len (c:=c) hs
  have h1:=fun w1=>ring_new c hr s hs w1
  have h2:=fun w1=>wstart_ok boot hb w1
  refine enterK (tb:=tb) Tryz.func76 rfl Tryz.ntmps76 rfl ?_
  repeat' (first|(apply R.is1;first|(apply R.isBin;(apply R.pure;exact rfl;(apply Ok1.neq_f;exact rfl;exact rfl;omega)))|(apply R.isCall;first|(apply R.callE (vs:=[.agg ⟨tkC c s⟩]);(iterate 3 exact rfl);exact Ext.none _;intro w1 hw1;exact h1 w1;rintro x Lo ⟨br,m1,m2,rfl,rfl⟩)|(apply R.callE (vs:=[.int .i64 boot]);(iterate 3 exact rfl);exact Ext.none _;intro w1 hw1;exact h2 w1;rintro x Lo ⟨bn,rfl,rfl⟩)|(apply R.callE (vs:=[.int .i64 2147483647]);(iterate 3 exact rfl);exact Ext.none _;intro w1 hw1;exact dnew_ok w1;rintro x Lo ⟨bd,dr,rfl,rfl⟩)|(apply R.callE (vs:=[]);(iterate 3 exact rfl);exact Ext.none _;intro w1 hw1;exact New_ok w1;rintro x Lo ⟨bb,bm,rfl,rfl⟩))|(apply R.pure;exact rfl;first|(apply Ok1.load;exact rfl;(apply Ld.ownk;exact rfl;exact rfl;exact At.head;exact subE_all htl))|(apply Ok1.move;exact rfl)|(apply Ok1.assign;exact rfl)|(apply Ok1.build;(iterate 5 exact rfl))|(apply Ok1.extract;exact rfl;exact rfl))|(apply R.box;(iterate 3 exact rfl);intro))|apply R.nil|(apply T.is;first|apply T.seq|apply T.region|apply T.skip|apply T.ret|(apply T.cond_f;exact rfl)))
  rename_i bc
  (apply RetOk.tt;exact rfl;exact rfl)
  refine ⟨_,?_,bc,bn,br,bb,bd,bm,m1,m2,wz4,dr,rfl,rfl⟩
  unfold ChL chC wz4
  (focus (repeat' first|exact Keep.nil _|exact Ext.one _ _|apply Keep.cons|apply Ext.cons);done)
theorem chown_ok (bc bn br bb bd:Nat) (sd:List Value) (e1:TypeId) (f1:Nat × Nat) (c:Cl) (s:List Int) (hs:s.length=32) (m1 m2:Nat) (e:TypeId) (w:World) (hc:w.heap[bc]? = some (.cells ⟨chC bn br bb bd sd⟩ e1 f1)) (hb:w.heap[br]? = some (.cells ⟨ringC c s m1 m2⟩ e (0,0))) :
    CallM Tryz.prog 199 [.pointer (some ⟨bc,0,none⟩)] [] w fun v L=>v = .agg ⟨clC c⟩∧L=[]:=by
  have hown:=fun w1 (h:Chg [] w w1)=>rown_ok br c s hs m1 m2 e w1 (h.heap hb List.not_mem_nil)
  have htc:=tk_cl c s
  unfold chC at hc
  refine enterK (tb:=tb) Tryz.func199 rfl Tryz.ntmps199 rfl ?_
  repeat' (first|(apply R.is1;first|(apply R.isCall;(apply R.callE (vs:=[.pointer (some ⟨br,0,none⟩)]);(iterate 3 exact rfl);exact Ext.none _;intro w1 hw1;exact hown w1 hw1.chg;rintro x Lo ⟨rfl,rfl⟩))|(apply R.pure;exact rfl;first|(apply Ok1.load;exact rfl;(apply Ld.blk1;exact rfl;exact rfl;exact hc;exact List.not_mem_nil;exact rfl))|(apply Ok1.fieldk;(iterate 6 exact rfl);exact htc)|(apply Ok1.move;exact rfl)|(apply Ok1.fieldAddr;(iterate 5 exact rfl))|(apply Ok1.nilCheck;exact rfl))|(apply R.alloc;(iterate 3 exact rfl);intro))|(apply R.is0;(apply R.store;(iterate 6 exact rfl);exact Upd.head;exact rfl))|apply R.nil|(apply T.is;first|apply T.seq|apply T.region|apply T.ret))
  all_goals (apply RetOk.c;exact rfl;(apply Ld.ownk;exact rfl;exact rfl;exact At.head;exact rfl))
  exact ⟨_,by (focus ((repeat' (exact Keep.nil _));done)),rfl,rfl⟩
/-- A kind's way. -/
def wayI (k:Int):Int:=if k=1 ∨ k=3 ∨ k=5 ∨ k=11 ∨ k=14 then 1 else if k=2 ∨ k=4 ∨ k=6 ∨ k=12 then 2 else if k=7 ∨ k=8 ∨ k=9 ∨ k=10 ∨ k=13 then 3 else 0
theorem way_ok (k:Int):CallP Tryz.prog 170 [.int .i64 k] (.int .i64 (wayI k)):=by
  refine enterP (tb:=tb) Tryz.func170 rfl Tryz.ntmps170 rfl fun w=>?_
  repeat' (first|(apply R.is1;first|(apply R.isBin;(apply R.eql rfl rfl rfl<;>intro))|(apply R.pure;exact rfl;first|(apply Ok1.move;exact rfl)|(apply Ok1.assign;exact rfl)))|apply R.nil|(apply T.is;first|apply T.seq|apply T.region|apply T.block|apply T.skip|apply T.ret|(apply T.cond_t;exact rfl)|(apply T.cond_f;exact rfl)))
  all_goals (apply RetOk.t;exact rfl)
  all_goals (simp only [wayI];congr 1;(repeat' split)<;>omega)
/-- The next n bytes,one by one;what is left. -/
def Rs.raws (s:Rs):Nat→List Int × Rs
  | 0=>([],s)
  | n+1=>((s.raws n).1++[((s.raws n).2.num 1).1],((s.raws n).2.num 1).2.2)
theorem Rs.raws_len (s:Rs) (n:Nat):(s.raws n).1.length=n:=by
  induction n with
  | zero=>rfl
  | succ n ih=>simp [Rs.raws,ih]
theorem Rs.ok.raws {s:Rs} {br:Nat} {w:World} (h:s.ok br w) (n:Nat):(s.raws n).2.ok br w:=by
  induction n with
  | zero=>exact h
  | succ n ih=>exact ih.num 1
theorem Rs.num1_range9 {s:Rs} (h:Byt s.xs):0≤(s.num 1).1∧(s.num 1).1≤255:=by
  unfold Rs.num
  by_cases h1:s.e≠0 ∨ s.xs.length < 1
  · rw [if_pos h1];exact ⟨Int.le_refl 0,by show (0:Int)≤255;decide⟩
  rw [if_neg h1]
  have hb:=be_range 1 (s.xs.take 1) (by rw [List.length_take];omega) fun y hy=>h y (List.mem_of_mem_take hy)
  split<;>simp only<;>omega
theorem raw_ok (br:Nat) (s:Rs) (n:Nat) (hn:n≤1000) (w:World) (hs:s.ok br w):CallM Tryz.prog 54 [.agg ⟨[.pointer (some ⟨br,0,none⟩)]⟩,.int .i64 n] (s.L br) w fun v L=>∃ ov,OvOk 1 ov n (u8s (s.raws n).1)∧v=slV ov n∧L=(s.raws n).2.L br++blkL 5 ov (u8s (s.raws n).1):=by
  have hbl0:=rL_blk s br
  refine enterK (tb:=tb) Tryz.func54 rfl Tryz.ntmps54 rfl ?_
  generalize hL0:s.L br=L0 at *
  repeat' (first|(apply R.is1;first|(apply R.pure;exact rfl;first|(apply Ok1.move;exact rfl)|(apply Ok1.assign;exact rfl))|(apply R.box;(iterate 3 exact rfl);intro))|apply R.nil|(apply T.is;first|apply T.seq|apply T.region|apply T.block))
  rename_i b2
  apply T.loopK (α:=Nat × Ov) (I:=fun y=>y.1≤n∧OvOk 1 y.2 y.1 (u8s (s.raws y.1).1)) (σi:=fun y=>[(1,.int .i64 n),(2,.pointer (some ⟨b2,0,none⟩)),(5,slV y.2 y.1),(6,.int .i64 n),(7,.int .i64 y.1)]) (Li:=fun y=>(s.raws y.1).2.L br++((b2,.cells ⟨[.pointer (some ⟨br,0,none⟩)]⟩ 128 (0,0))::blkL 5 y.2 (u8s (s.raws y.1).1))) (μ:=fun y=>n - y.1) (i0:=(0,none))
  · exact ⟨Nat.zero_le _,OvOk.start 1⟩
  · exact ⟨rfl,rfl,rfl,rfl,rfl,trivial⟩
  · simp only [Rs.raws,hL0]
    (focus (repeat' first|exact Keep.nil _|exact Ext.one _ _|exact Ext.all _|apply Keep.cons|apply Keep.app|apply Ext.cons);done)
  · rintro ⟨i,ov⟩ ⟨hi,hov⟩
    simp only at hi hov ⊢
    have hsi:=hs.raws i
    have hrl:=s.raws_len i
    rcases Nat.lt_or_ge i n with hlt|hge
    · have hnum:=fun w1 h=>rnum_ok br (s.raws i).2 0 1 (by decide) rfl w1 h
      have hrg:=Rs.num1_range9 hsi.byt
      have hr1:(s.raws (i+1)).1=(s.raws i).1++[((s.raws i).2.num 1).1]:=rfl
      have hr2:(s.raws (i+1)).2=((s.raws i).2.num 1).2.2:=rfl
      generalize hL1:((s.raws i).2.num 1).2.2.L br=L1 at *
      generalize hx:((s.raws i).2.num 1).1=x at *
      generalize (s.raws i).1=RX at *
      generalize hLi:(s.raws i).2.L br=LI at *
      generalize (s.raws i).2=si at *
      repeat' (first|(apply R.is1;first|(apply R.isBin;(apply R.pure;exact rfl;first|(apply Ok1.add64;exact rfl;exact rfl;omega;omega)|(apply Ok1.lss_t;exact rfl;exact rfl;omega)))|(apply R.isCall;first|(apply R.callE (Li:=LI);(iterate 3 exact rfl);(focus ((repeat' (exact Ext.here _ _));done));intro w1 hw1;exact hnum w1 (hsi.chg hw1.chg hbl0);rintro v Lo ⟨rfl,hq⟩;rw [hq];clear hq)|(apply R.appendRd (xs:=[x]) (v:=u8V) (sz:=1) (ov:=ov) (n:=i) (m:=1) (old:=u8s RX);(iterate 12 exact rfl);exact hov;(focus (repeat' first|exact Ext.all _|apply Ext.cons|apply Ext.app);done);exact rfl;exact u8V_len;exact rfl;(intro w1 hw1;exact RdSl.of (junk:=[]) hw1 (by exact At.head) rfl);(focus (rw [fl_u8];exact u8s_one _));omega;intro ov1 hov1 hsome;rw [fl_u8,← u8s_app];rw [fl_u8,← u8s_app] at hov1))|(apply R.pure;exact rfl;first|(apply Ok1.move;exact rfl)|(apply Ok1.fieldAddr;(iterate 5 exact rfl))|(apply Ok1.load;exact rfl;(apply Ld.own1;exact rfl;exact rfl;(focus (repeat' first|exact At.head|apply At.right);done);exact rfl))|(apply Ok1.assign;exact rfl)|(apply Ok1.convU8;(iterate 5 exact rfl);omega;omega))|(apply R.buildSlice;(iterate 12 exact rfl);intro))|apply R.nil|(apply T.is;first|apply T.seq|apply T.region|apply T.block|apply T.skip|(apply T.cond_t;exact rfl)))
      refine ⟨(i+1,ov1),⟨by simp only;omega,?_⟩,by simp only;omega,⟨rfl,rfl,rfl,rfl,rfl,trivial⟩,?_⟩
      · show OvOk 1 ov1 (i+1) (u8s (s.raws (i+1)).1)
        rw [hr1];exact hov1
      · show Keep _ ((s.raws (i+1)).2.L br++(_::blkL 5 ov1 (u8s (s.raws (i+1)).1)))
        rw [hr1,hr2,hL1]
        (focus (repeat' first|exact Ext.one _ _|exact Ext.here _ _|apply Keep.cons|apply Keep.app|apply Keep.last|apply Ext.cons|apply Ext.app);done)
    · have him:n=i:=by omega
      subst him
      generalize (s.raws n).2.L br=LI at *
      repeat' (first|(apply R.is1;first|(apply R.isBin;(apply R.pure;exact rfl;(apply Ok1.lss_f;exact rfl;exact rfl;omega)))|(apply R.pure;exact rfl;first|(apply Ok1.move;exact rfl)|(apply Ok1.assign;exact rfl)))|apply R.nil|(apply T.is;first|apply T.seq|apply T.region|apply T.exit|apply T.ret|(apply T.cond_f;exact rfl)))
      (apply RetOk.t;exact rfl)
      exact ⟨_,by (focus (repeat' first|exact Ext.here _ _|exact Ext.all _|apply Keep.app|apply Keep.last|apply Ext.cons);done),ov,hov,rfl,rfl⟩
/-- The next bytes behind their number;what is left. -/
def Rs.gb (s:Rs):List Int × Rs :=
  if (s.num 2).2.1=false then ([],(s.num 2).2.2) else if 512 < (s.num 2).1 then ([],(s.num 2).2.2.fail 3) else if (s.num 2).2.2.xs.length < (s.num 2).1.toNat then ([],(s.num 2).2.2.fail 4) else ((s.num 2).2.2.xs.take (s.num 2).1.toNat,(s.num 2).2.2.drop (s.num 2).1.toNat)
theorem Rs.num_true {s:Rs} {k:Nat} (h:(s.num k).2.1=true):(s.num k).2.2.e=0:=by
  unfold Rs.num at h ⊢
  by_cases h1:s.e≠0 ∨ s.xs.length < k
  · rw [if_pos h1] at h;cases h
  rw [if_neg h1] at h ⊢
  have he:s.e=0:=Classical.byContradiction fun g=>h1 (.inl g)
  split at h
  · rw [if_pos ‹_›];exact he
  · cases h
theorem Rs.num_nonneg {s:Rs} (k:Nat) (h:Byt s.xs):0≤(s.num k).1:=by
  unfold Rs.num
  by_cases h1:s.e≠0 ∨ s.xs.length < k
  · rw [if_pos h1];exact Int.le_refl 0
  rw [if_neg h1]
  have hb:=be_range k (s.xs.take k) (by rw [List.length_take];omega) fun y hy=>h y (List.mem_of_mem_take hy)
  split
  · exact hb.1
  · exact Int.le_refl 0
theorem Rs.gb_len (s:Rs):s.gb.1.length≤512:=by
  unfold Rs.gb
  split
  · exact Nat.zero_le _
  split
  · exact Nat.zero_le _
  split
  · exact Nat.zero_le _
  · simp only [List.length_take];omega
theorem rgetB_ok (br:Nat) (s:Rs) (w:World) (hs:s.ok br w):CallM Tryz.prog 134 [.pointer (some ⟨br,0,none⟩),.int .i64 4] (s.L br) w fun v L=>∃ ov z,OvOk 1 ov s.gb.1.length (u8s s.gb.1)∧v = .agg ⟨[.int .i64 z,.int .i64 0,.slice (ovp ov) s.gb.1.length (ovc ov s.gb.1.length)]⟩∧L=s.gb.2.L br++blkL 5 ov (u8s s.gb.1):=by
  have hbl0:=rL_blk s br
  have hn:=fun w1 h1=>rnumber_ok br s 1 2 (by decide) rfl w1 h1
  have ht:=hs.num 2
  have htr:=fun h=>Rs.num_true (s:=s) (k:=2) h
  have hn0:=Rs.num_nonneg (s:=s) 2 hs.byt
  unfold Rs.gb
  generalize s.num 2=r at *
  obtain ⟨v1,v2,t⟩:=r
  simp only at hn ht htr hn0 ⊢
  cases v2 with
  | false =>
    rw [if_pos rfl]
    generalize s.L br=L0 at *
    generalize t.L br=L1 at *
    refine enterK (tb:=tb) Tryz.func134 rfl Tryz.ntmps134 rfl ?_
    repeat' (first|(apply R.is1;first|(apply R.isBin;(apply R.pure;exact rfl;first|(apply Ok1.lss_f;exact rfl;exact rfl;omega)|(apply Ok1.gtr_f;exact rfl;exact rfl;omega)|(apply Ok1.eqlP;(iterate 5 exact rfl))))|(apply R.isCall;(apply R.callE (Li:=L0);(iterate 3 exact rfl);(focus (repeat' first|exact Ext.all _|apply Ext.cons);done);intro w1 hw1;exact hn w1 (hs.chg hw1.chg hbl0);rintro v Lo ⟨rfl,hq⟩;rw [hq];clear hq))|(apply R.pure;exact rfl;first|(apply Ok1.move;exact rfl)|(apply Ok1.fieldAddr;(iterate 5 exact rfl))|(apply Ok1.assign;exact rfl)|(apply Ok1.build;(iterate 5 exact rfl))|(apply Ok1.extract;exact rfl;exact rfl)|(apply Ok1.pick_f;exact rfl;exact rfl)|(apply Ok1.not_f;exact rfl)|(apply Ok1.nilCheck;exact rfl))|(apply R.alloc;(iterate 3 exact rfl);intro))|(apply R.is0;(apply R.store;(iterate 6 exact rfl);(focus (repeat' first|exact Upd.head|apply Upd.right);done);exact rfl))|(apply R.isG;first|(apply R.guard_run;exact rfl;exact rfl)|(apply R.guard_not;(iterate 3 exact rfl)))|apply R.nil|(apply T.is;first|apply T.seq|apply T.region|apply T.block|apply T.skip|apply T.ret|(apply T.cond_t;exact rfl)|(apply T.cond_f;exact rfl)))
    (apply RetOk.c;exact rfl;((apply Ld.ownk;exact rfl;exact rfl;(focus (repeat' first|exact At.head|apply At.right);done);exact rfl)))
    exact ⟨_,by (focus (repeat' first|exact Ext.here _ _|apply Keep.last);done),none,0,OvOk.start 1,rfl,(List.append_nil _).symm⟩
  | true =>
    rw [if_neg (by decide)]
    have hte:=htr rfl
    by_cases h5:512 < v1
    · rw [if_pos h5]
      have hf:=fun w1=>rfail_ok br t 3 w1
      simp only
      generalize s.L br=L0 at *
      generalize t.L br=L1 at *
      generalize (t.fail 3).L br=L2 at *
      refine enterK (tb:=tb) Tryz.func134 rfl Tryz.ntmps134 rfl ?_
      repeat' (first|(apply R.is1;first|(apply R.isBin;(apply R.pure;exact rfl;first|(apply Ok1.lss_f;exact rfl;exact rfl;omega)|(apply Ok1.gtr_t;exact rfl;exact rfl;omega)|(apply Ok1.gtr_f;exact rfl;exact rfl;omega)|(apply Ok1.eqlP;(iterate 5 exact rfl))))|(apply R.isCall;first|(apply R.callE (Li:=L0);(iterate 3 exact rfl);(focus (repeat' first|exact Ext.all _|apply Ext.cons|apply Ext.app);done);intro w1 hw1;exact hn w1 (hs.chg hw1.chg hbl0);rintro v Lo ⟨rfl,hq⟩;rw [hq];clear hq)|(apply R.callE (Li:=L1);(iterate 3 exact rfl);(focus ((repeat' (exact Ext.here _ _));done));intro w1 hw1;exact hf w1;rintro v Lo ⟨rfl,hq⟩;rw [hq];clear hq))|(apply R.pure;exact rfl;first|(apply Ok1.move;exact rfl)|(apply Ok1.fieldAddr;(iterate 5 exact rfl))|(apply Ok1.assign;exact rfl)|(apply Ok1.build;(iterate 5 exact rfl))|(apply Ok1.extract;exact rfl;exact rfl)|(apply Ok1.pick_t;exact rfl;exact rfl)|(apply Ok1.pick_f;exact rfl;exact rfl)|(apply Ok1.not_f;exact rfl)|(apply Ok1.nilCheck;exact rfl))|(apply R.alloc;(iterate 3 exact rfl);intro))|(apply R.is0;(apply R.store;(iterate 6 exact rfl);(focus (repeat' first|exact Upd.head|apply Upd.right);done);exact rfl))|(apply R.isG;(apply R.guard_run;exact rfl;exact rfl))|apply R.nil|(apply T.is;first|apply T.seq|apply T.region|apply T.block|apply T.skip|apply T.ret|(apply T.cond_t;exact rfl)|(apply T.cond_f;exact rfl)))
      (apply RetOk.c;exact rfl;((apply Ld.ownk;exact rfl;exact rfl;(focus (repeat' first|exact At.head|apply At.right);done);exact rfl)))
      exact ⟨_,by (focus (repeat' first|exact Ext.here _ _|apply Keep.last);done),none,0,OvOk.start 1,rfl,(List.append_nil _).symm⟩
    rw [if_neg h5]
    obtain ⟨n,rfl⟩:∃ n:Nat,v1=n:=⟨v1.toNat,by omega⟩
    rw [Int.toNat_natCast]
    by_cases h6:t.xs.length < n
    · rw [if_pos h6]
      have hk:=fun w1=>rtake_no br t n (.inr h6) w1
      have hfe:t.fail 4=⟨none,0,[],4⟩:=by unfold Rs.fail;rw [if_pos hte]
      simp only [hfe] at hk ⊢
      simp only [Rs.L,List.length_nil] at hk ⊢
      have e1:(s.L br)=[(br,.cells ⟨[.slice s.q s.xs.length s.cap,.int .i64 s.e]⟩ 232 (0,0))]:=rfl
      have e2:(t.L br)=[(br,.cells ⟨[.slice t.q t.xs.length t.cap,.int .i64 t.e]⟩ 232 (0,0))]:=rfl
      rw [← e1] 
      rw [← e2] at hk
      generalize s.L br=L0 at *
      generalize t.L br=L1 at *
      refine enterK (tb:=tb) Tryz.func134 rfl Tryz.ntmps134 rfl ?_
      repeat' (first|(apply R.is1;first|(apply R.isBin;(apply R.pure;exact rfl;first|(apply Ok1.lss_f;exact rfl;exact rfl;omega)|(apply Ok1.gtr_f;exact rfl;exact rfl;omega)|(apply Ok1.neq_t;exact rfl;exact rfl;omega)|(apply Ok1.eqlP;(iterate 5 exact rfl))))|(apply R.isCall;first|(apply R.callE (Li:=L0) (vs:=[.pointer (some ⟨br,0,none⟩),.int .i64 1]);(iterate 3 exact rfl);(focus (repeat' first|exact Ext.all _|apply Ext.cons);done);intro w1 hw1;exact hn w1 (hs.chg hw1.chg hbl0);rintro v Lo ⟨rfl,hq⟩;rw [hq];clear hq)|(apply R.callE (Li:=L1) (vs:=[.pointer (some ⟨br,0,none⟩),.int .i64 n]);(iterate 3 exact rfl);(focus ((repeat' (exact Ext.here _ _));done));intro w1 hw1;exact hk w1;rintro v Lo ⟨rfl,rfl⟩))|(apply R.pure;exact rfl;first|(apply Ok1.move;exact rfl)|(apply Ok1.fieldAddr;(iterate 5 exact rfl))|(apply Ok1.load;exact rfl;(apply Ld.own1;exact rfl;exact rfl;exact At.head;exact rfl))|(apply Ok1.assign;exact rfl)|(apply Ok1.build;(iterate 5 exact rfl))|(apply Ok1.extract;exact rfl;exact rfl)|(apply Ok1.pick_t;exact rfl;exact rfl)|(apply Ok1.pick_f;exact rfl;exact rfl)|(apply Ok1.not_t;exact rfl)|(apply Ok1.nilCheck;exact rfl))|(apply R.alloc;(iterate 3 exact rfl);intro))|(apply R.is0;(apply R.store;(iterate 6 exact rfl);(focus (repeat' first|exact Upd.head|apply Upd.tail);done);exact rfl))|(apply R.isG;(apply R.guard_run;exact rfl;exact rfl))|apply R.nil|(apply T.is;first|apply T.seq|apply T.region|apply T.block|apply T.skip|apply T.ret|(apply T.cond_t;exact rfl)|(apply T.cond_f;exact rfl)))
      (apply RetOk.c;exact rfl;((apply Ld.ownk;exact rfl;exact rfl;(focus (repeat' first|exact At.head|apply At.tail);done);exact rfl)))
      exact ⟨_,by (focus (repeat' first|exact Keep.nil _|exact Ext.one _ _|apply Keep.cons);done),none,0,OvOk.start 1,rfl,rfl⟩
    · rw [if_neg h6]
      have hk:=fun w1=>rtake_ok br t n hte (by omega) ht.cap w1
      have hpre:=ht.rd.pre u8V_len n
      have hlt:(t.xs.take n).length=n:=by rw [List.length_take];omega
      have hcl:=fun w1 h1=>clone_ok t.q n n (t.xs.take n) hlt.symm (by omega) w1 h1
      have hof:t.xs.take n≠[]→Off t.q [br]:=fun h=>ht.off (fun h0=>h (by rw [h0];exact List.take_nil))
      simp only [hlt]
      have e3:(t.drop n).L br=[(br,.cells ⟨[.slice (t.drop n).q (t.drop n).xs.length (t.drop n).cap,.int .i64 0]⟩ 232 (0,0))]:=by
        have:(t.drop n).e=0:=hte
        simp only [Rs.L,this]
      rw [e3] at hk ⊢
      generalize t.xs.take n=ys at *
      generalize t.q=tq at *
      generalize t.drop n=t2 at *
      generalize s.L br=L0 at *
      generalize t.L br=L1 at *
      refine enterK (tb:=tb) Tryz.func134 rfl Tryz.ntmps134 rfl ?_
      repeat' (first|(apply R.is1;first|(apply R.isBin;(apply R.pure;exact rfl;first|(apply Ok1.lss_f;exact rfl;exact rfl;omega)|(apply Ok1.gtr_f;exact rfl;exact rfl;omega)|(apply Ok1.neq_f;exact rfl;exact rfl;omega)|(apply Ok1.eqlP;(iterate 5 exact rfl))))|(apply R.isCall;first|(apply R.callE (Li:=L0) (vs:=[.pointer (some ⟨br,0,none⟩),.int .i64 1]);(iterate 3 exact rfl);(focus (repeat' first|exact Ext.all _|apply Ext.cons);done);intro w1 hw1;exact hn w1 (hs.chg hw1.chg hbl0);rintro v Lo ⟨rfl,hq⟩;rw [hq];clear hq)|(apply R.callE (Li:=L1) (vs:=[.pointer (some ⟨br,0,none⟩),.int .i64 n]);(iterate 3 exact rfl);(focus ((repeat' (exact Ext.here _ _));done));intro w1 hw1;exact hk w1;rintro v Lo ⟨rfl,rfl⟩)|(apply R.callE (vs:=[.slice tq n n]);(iterate 3 exact rfl);exact Ext.none _;intro w1 hw1;exact hcl w1 (hpre.chg' hw1.chg (fun h=>hbl0.symm ▸ hof h));rintro v Lo ⟨ov,hov,hso,rfl,rfl⟩;rw [slV_eq hov]))|(apply R.pure;exact rfl;first|(apply Ok1.move;exact rfl)|(apply Ok1.fieldAddr;(iterate 5 exact rfl))|(apply Ok1.load;exact rfl;(apply Ld.own1;exact rfl;exact rfl;exact At.head;exact rfl))|(apply Ok1.assign;exact rfl)|(apply Ok1.build;(iterate 5 exact rfl))|(apply Ok1.extract;exact rfl;exact rfl)|(apply Ok1.pick_t;exact rfl;exact rfl)|(apply Ok1.pick_f;exact rfl;exact rfl)|(apply Ok1.not_t;exact rfl)|(apply Ok1.nilCheck;exact rfl))|(apply R.alloc;(iterate 3 exact rfl);intro))|(apply R.is0;(apply R.store;(iterate 6 exact rfl);(focus (repeat' first|exact Upd.head|apply Upd.tail|apply Upd.right);done);exact rfl))|(apply R.isG;(apply R.guard_run;exact rfl;exact rfl))|apply R.nil|(apply T.is;first|apply T.seq|apply T.region|apply T.block|apply T.skip|apply T.ret|(apply T.cond_f;exact rfl)))
      (apply RetOk.c;exact rfl;((apply Ld.ownk;exact rfl;exact rfl;(focus (repeat' first|exact At.head|apply At.tail|apply At.right);done);exact rfl)))
      exact ⟨_,by (focus (repeat' first|exact Ext.one _ _|exact Ext.here _ _|exact Ext.all _|apply Keep.cons|apply Keep.app|apply Keep.last|apply Ext.cons|apply Ext.app);done),ov,4,hov,rfl,rfl⟩
theorem rbytes_ok (br:Nat) (s:Rs) (w:World) (hs:s.ok br w):CallM Tryz.prog 55 [.pointer (some ⟨br,0,none⟩),.int .i64 512] (s.L br) w fun v L=>∃ ov,OvOk 1 ov s.gb.1.length (u8s s.gb.1)∧v = .slice (ovp ov) s.gb.1.length (ovc ov s.gb.1.length)∧L=s.gb.2.L br++blkL 5 ov (u8s s.gb.1):=by
  have hbl0:=rL_blk s br
  have hg:=fun w1 h1=>rgetB_ok br s w1 h1
  have hl:=s.gb_len
  generalize s.gb=g at *
  obtain ⟨ys,t⟩:=g
  simp only at hg hl ⊢
  generalize s.L br=L0 at *
  generalize t.L br=L1 at *
  refine enterK (tb:=tb) Tryz.func55 rfl Tryz.ntmps55 rfl ?_
  repeat' (first|(apply R.is1;first|(apply R.isBin;(apply R.pure;exact rfl;first|(apply Ok1.gtr_f;exact rfl;exact rfl;omega)|(apply Ok1.neqP;(iterate 5 exact rfl))))|(apply R.isCall;first|(apply R.callE (Li:=L0);(iterate 3 exact rfl);(focus ((repeat' (exact Ext.all _));done));intro w1 hw1;exact hg w1 (hs.chg hw1.chg hbl0);rintro v Lo ⟨ov,z,hov,rfl,hq⟩;rw [hq,List.append_assoc];clear hq)|(apply R.pure;exact rfl;(apply Ok1.lenS;(iterate 3 exact rfl))))|(apply R.pure;exact rfl;first|(apply Ok1.move;exact rfl)|(apply Ok1.fieldAddr;(iterate 5 exact rfl))|(apply Ok1.load;exact rfl;(apply Ld.own1;exact rfl;exact rfl;exact At.head;exact rfl))|(apply Ok1.assign;exact rfl)|(apply Ok1.pick_t;exact rfl;exact rfl))|(apply R.alloc;(iterate 3 exact rfl);intro))|(apply R.is0;(apply R.store;(iterate 6 exact rfl);exact Upd.head;exact rfl))|(apply R.isG;(apply R.guard_run;exact rfl;exact rfl))|apply R.nil|(apply T.is;first|apply T.seq|apply T.region|apply T.skip|apply T.ret|(apply T.cond_f;exact rfl)))
  (apply RetOk.t;exact rfl)
  exact ⟨_,by (focus (repeat' first|exact Ext.here _ _|apply Keep.app|apply Keep.last|apply Ext.cons);done),ov,hov,rfl,rfl⟩
theorem RsO.okB {s:Rs} {M:Lst} (h:RsO s M) (br:Nat):∀ (w0 w:World) (S:List Nat) (L Lr:Lst),Hp w0 S L w→Ext L (s.L br) Lr→(∀ z∈M,z∈Lr)→s.ok br w:=fun _ _ _ _ _ a b c=>h.ok a b c
def prC (s:Rs):Cl × Int:=if (rdC s).2≠0 then (cl0,(rdC s).2) else if s.c4.fin≠0 then (cl0,s.c4.fin) else ((rdC s).1,0)
theorem clparse_ok (p:Option Addr) (n cap:Nat) (xs:List Int) (hn:n=xs.length) (hbig:n≤1000000000) (hb:Byt xs) (w:World) (hp:RdSl w p u8V xs) :
    CallM Tryz.prog 57 [.slice p n cap] [] w fun v L=>∃ s:Rs,s.xs=(if n≤1024 then xs else [])∧s.e=(if n≤1024 then 0 else 2)∧v = .tuple #[kvC (prC s).1,.int .i64 (prC s).2]∧L=[]:=by
  have hnew:=fun w1 (hc:Chg [] w w1)=>rnewr_ok p n cap xs hn hbig hb w1 (hp.chg' hc (fun _=>Off.nil _))
  refine enterK (tb:=tb) Tryz.func57 rfl Tryz.ntmps57 rfl ?_
  repeat' (first|(apply R.is1;first|(apply R.isCall;(apply R.callE (vs:=[.slice p n cap]);(iterate 3 exact rfl);exact Ext.none _;intro w1 hw1;exact hnew w1 hw1.chg;rintro v Lo ⟨br,s,M,rfl,hs1,hs2,hso,rfl⟩;rw [List.append_assoc]))|(apply R.pure;exact rfl;first|(apply Ok1.move;exact rfl)|(apply Ok1.assign;exact rfl))|(apply R.alloc;(iterate 3 exact rfl);intro))|apply R.nil|(apply T.is;first|apply T.seq|apply T.region))
  have hsk:=hso.okB br
  have hrd:=fun w1 h1=>cread_ok br s w1 h1
  have hen:=fun w1 h1=>rend_ok br s.c4 w1 h1
  have hm3:(br,Obj.cells ⟨[.slice s.c4.q s.c4.xs.length s.c4.cap,.int .i64 s.c4.e]⟩ 232 (0,0))∈s.c4.L br:=by simp [Rs.L]
  have hP:prC s=if (rdC s).2≠0 then (cl0,(rdC s).2) else if s.c4.fin≠0 then (cl0,s.c4.fin) else ((rdC s).1,0):=rfl
  generalize hpp:prC s=pr at *
  generalize hL4:s.c4.L br=L4 at *
  generalize s.c4=s4 at *
  generalize rdC s=rd at *
  obtain ⟨c,e⟩:=rd
  generalize hLS:s.L br=LS at *
  simp only at hP
  simp only [kvC] at hrd
  by_cases h1:e=0
  · rw [if_neg (fun h=>h h1)] at hP
    by_cases h2:s4.fin=0
    · rw [if_neg (fun h=>h h2)] at hP
      subst hP
      rw [h2] at hen
      subst h1
      repeat' (first|(apply R.is1;first|(apply R.isBin;(apply R.pure;exact rfl;first|(apply Ok1.eql_t;exact rfl;exact rfl;omega)|(apply Ok1.neq_f;exact rfl;exact rfl;omega)))|(apply R.isCall;first|(apply R.callE (Li:=LS) (vs:=[.pointer (some ⟨br,0,none⟩)]);(iterate 3 exact rfl);(focus (repeat' first|exact Ext.here _ _|apply Ext.cons|apply Ext.app);done);intro w1 hw1;exact hrd w1 (hsk _ _ _ _ _ hw1 (by (focus ((repeat' (exact Ext.here _ _));done))) (Ext.mem (by (focus ((repeat' (exact Ext.here _ _));done)))));rintro v Lo ⟨rfl,hq⟩;rw [hq];clear hq)|(apply R.callV (vs:=[.pointer (some ⟨br,0,none⟩)]);(iterate 3 exact rfl);intro w1 hw1;(apply hen w1;apply hw1.get;apply Ext.memI9 hm3;(focus (repeat' first|exact Ext.here _ _|apply Ext.cons);done))))|(apply R.pure;exact rfl;first|(apply Ok1.move;exact rfl)|(apply Ok1.load;exact rfl;(apply Ld.ownk;exact rfl;exact rfl;exact At.head;exact rfl))|(apply Ok1.assign;exact rfl)|(apply Ok1.extract;exact rfl;exact rfl))|(apply R.alloc;(iterate 3 exact rfl);intro))|(apply R.is0;(apply R.store;(iterate 6 exact rfl);(focus (repeat' first|exact Upd.head|apply Upd.tail|apply Upd.right);done);exact rfl))|apply R.nil|(apply T.is;first|apply T.seq|apply T.region|apply T.skip|apply T.ret|(apply T.cond_t;exact rfl)|(apply T.cond_f;exact rfl)))
      (apply RetOk.ct;exact rfl;((apply Ld.ownk;exact rfl;exact rfl;(focus (repeat' first|exact At.head|apply At.tail|apply At.right);done);exact rfl));exact rfl)
      exact ⟨_,by (focus ((repeat' (exact Keep.nil _));done)),s,hs1,hs2,by rw [hpp];rfl,rfl⟩
    · rw [if_pos h2] at hP
      subst hP
      subst h1
      generalize s4.fin=e9 at *
      repeat' (first|(apply R.is1;first|(apply R.isBin;(apply R.pure;exact rfl;first|(apply Ok1.eql_t;exact rfl;exact rfl;omega)|(apply Ok1.neq_t;exact rfl;exact rfl;omega)))|(apply R.isCall;first|(apply R.callE (Li:=LS) (vs:=[.pointer (some ⟨br,0,none⟩)]);(iterate 3 exact rfl);(focus (repeat' first|exact Ext.here _ _|apply Ext.cons|apply Ext.app);done);intro w1 hw1;exact hrd w1 (hsk _ _ _ _ _ hw1 (by (focus ((repeat' (exact Ext.here _ _));done))) (Ext.mem (by (focus ((repeat' (exact Ext.here _ _));done)))));rintro v Lo ⟨rfl,hq⟩;rw [hq];clear hq)|(apply R.callV (vs:=[.pointer (some ⟨br,0,none⟩)]);(iterate 3 exact rfl);intro w1 hw1;(apply hen w1;apply hw1.get;apply Ext.memI9 hm3;(focus (repeat' first|exact Ext.here _ _|apply Ext.cons);done))))|(apply R.pure;exact rfl;first|(apply Ok1.move;exact rfl)|(apply Ok1.assign;exact rfl)|(apply Ok1.build;(iterate 5 exact rfl))|(apply Ok1.extract;exact rfl;exact rfl))|(apply R.alloc;(iterate 3 exact rfl);intro))|(apply R.is0;(apply R.store;(iterate 6 exact rfl);(focus (repeat' first|exact Upd.head|apply Upd.tail|apply Upd.right);done);exact rfl))|apply R.nil|(apply T.is;first|apply T.seq|apply T.region|apply T.ret|(apply T.cond_t;exact rfl)))
      (apply RetOk.ct;exact rfl;((apply Ld.ownk;exact rfl;exact rfl;(focus (repeat' first|exact At.head|apply At.tail|apply At.right);done);exact rfl));exact rfl)
      exact ⟨_,by (focus ((repeat' (exact Keep.nil _));done)),s,hs1,hs2,by rw [hpp];rfl,rfl⟩
  · rw [if_pos h1] at hP
    subst hP
    repeat' (first|(apply R.is1;first|(apply R.isBin;(apply R.pure;exact rfl;first|(apply Ok1.eql_f;exact rfl;exact rfl;omega)|(apply Ok1.neq_t;exact rfl;exact rfl;omega)))|(apply R.isCall;(apply R.callE (Li:=LS) (vs:=[.pointer (some ⟨br,0,none⟩)]);(iterate 3 exact rfl);(focus ((repeat' (exact Ext.here _ _));done));intro w1 hw1;exact hrd w1 (hsk _ _ _ _ _ hw1 (by (focus ((repeat' (exact Ext.here _ _));done))) (Ext.mem (by (focus ((repeat' (exact Ext.here _ _));done)))));rintro v Lo ⟨rfl,hq⟩;rw [hq];clear hq))|(apply R.pure;exact rfl;first|(apply Ok1.move;exact rfl)|(apply Ok1.assign;exact rfl)|(apply Ok1.build;(iterate 5 exact rfl))|(apply Ok1.extract;exact rfl;exact rfl))|(apply R.alloc;(iterate 3 exact rfl);intro))|(apply R.is0;(apply R.store;(iterate 6 exact rfl);(focus (repeat' first|exact Upd.head|apply Upd.tail|apply Upd.right);done);exact rfl))|apply R.nil|(apply T.is;first|apply T.seq|apply T.region|apply T.skip|apply T.ret|(apply T.cond_t;exact rfl)|(apply T.cond_f;exact rfl)))
    (apply RetOk.ct;exact rfl;((apply Ld.ownk;exact rfl;exact rfl;(focus (repeat' first|exact At.head|apply At.tail|apply At.right);done);exact rfl));exact rfl)
    exact ⟨_,by (focus ((repeat' (exact Keep.nil _));done)),s,hs1,hs2,by rw [hpp];rfl,rfl⟩
/-- A reader's object. -/
def Rs.O (s:Rs):Obj:=.cells ⟨[.slice s.q s.xs.length s.cap,.int .i64 s.e]⟩ 232 (0,0)
theorem Rs.L_O (s:Rs) (br:Nat):s.L br=[(br,s.O)]:=rfl
def Rs.s1 (s:Rs):Rs:=(s.num 1).2.2
def Rs.s2 (s:Rs):Rs:=(s.s1.raws 9).2
def Rs.s3 (s:Rs):Rs:=(s.s2.num 2).2.2
def Rs.s4 (s:Rs):Rs:=(s.s3.num 2).2.2
def Rs.s5 (s:Rs):Rs:=(s.s4.num 4).2.2
def Rs.s6 (s:Rs):Rs:=s.s5.gb.2
def Rs.s7 (s:Rs):Rs:=(s.s6.raws 32).2
/-- The parts that are read of a packet,and what is wrong with them;sc: what the claims' bytes are read by. -/
def Rs.pk (s:Rs):Int:=(s.num 1).1
def Rs.pc (s:Rs):List Int:=(s.s1.raws 9).1
def Rs.pto (s:Rs):Int:=(s.s2.num 2).1
def Rs.pa (s:Rs):Int:=(s.s3.num 2).1
def Rs.pb (s:Rs):Int:=(s.s4.num 4).1
def Rs.pbd (s:Rs):List Int:=s.s5.gb.1
def Rs.ptg (s:Rs):List Int:=(s.s6.raws 32).1
def Rs.pE (s sc:Rs):Int:=if s.s7.e≠0 then s.s7.e else if ¬ (0 < s.pk∧s.pk < 15) then 13 else if (prC sc).2≠0 then 3 else if 0 < s.s7.xs.length then 3 else if pckE s.pk (prC sc).1 s.pto s.pa s.pb s.pbd.length s.ptg≠0 then 3 else 0
theorem RsO.raws {s:Rs} {M:Lst} (h:RsO s M) (n:Nat):RsO (s.raws n).2 M:=by
  induction n with
  | zero=>exact h
  | succ n ih=>exact ih.num 1
theorem RsO.raws_byt {s:Rs} {M:Lst} (h:RsO s M) (n:Nat):Byt (s.raws n).1:=by
  induction n with
  | zero=>intro y hy;cases hy
  | succ n ih =>
    intro y hy
    simp only [Rs.raws,List.mem_append,List.mem_singleton] at hy
    rcases hy with hy|rfl
    · exact ih y hy
    · have:=Rs.num1_range9 (h.raws n).byt;omega
theorem RsO.gb {s:Rs} {M:Lst} (h:RsO s M):RsO s.gb.2 M:=by
  have h2:=h.num 2
  unfold Rs.gb
  split
  · exact h2
  split
  · exact h2.fail 3
  split
  · exact h2.fail 4
  · exact h2.drop (by omega)
def ParsePost (n:Nat) (xs:List Int) (v:Value) (L:Lst):Prop:=∃ s sc:Rs,s.xs=(if n≤1024 then xs else [])∧s.e=(if n≤1024 then 0 else 2)∧sc.xs=s.pc∧sc.e=0∧((s.pE sc≠0∧v = .tuple #[.agg ⟨pkC 0 cl0 0 0 0 none 0 0 (zI 32)⟩,.int .i64 (s.pE sc)]∧L=[]) ∨ (s.pE sc=0∧∃ ov,OvOk 1 ov s.pbd.length (u8s s.pbd)∧v = .tuple #[.agg ⟨pkC s.pk (prC sc).1 s.pto s.pa s.pb (ovp ov) s.pbd.length (ovc ov s.pbd.length) s.ptg⟩,.int .i64 0]∧L=blkL 5 ov (u8s s.pbd)))
theorem pkparse_ok (p:Option Addr) (n cap:Nat) (xs:List Int) (hn:n=xs.length) (hbig:n≤1000000000) (hb:Byt xs) (w:World) (hp:RdSl w p u8V xs) :
    CallM Tryz.prog 11 [.slice p n cap] [] w (ParsePost n xs):=by
  have hnew:=fun w1 (hc:Chg [] w w1)=>rnewr_ok p n cap xs hn hbig hb w1 (hp.chg' hc (fun _=>Off.nil _))
  refine enterK (tb:=tb) Tryz.func11 rfl Tryz.ntmps11 rfl ?_
  repeat' (first|(apply R.is1;first|(apply R.isCall;(apply R.callE (vs:=[.slice p n cap]);(iterate 3 exact rfl);exact Ext.none _;intro w1 hw1;exact hnew w1 hw1.chg;rintro v Lo ⟨br,s,M,rfl,hs1,hs2,hso,rfl⟩;rw [List.append_assoc]))|(apply R.pure;exact rfl;first|(apply Ok1.move;exact rfl)|(apply Ok1.fieldAddr;(iterate 5 exact rfl))|(apply Ok1.load;exact rfl;(apply Ld.own1;exact rfl;exact rfl;exact At.head;exact rfl))|(apply Ok1.assign;exact rfl)|(apply Ok1.build;(iterate 5 exact rfl)))|(apply R.alloc;(iterate 3 exact rfl);intro))|(apply R.is0;(apply R.store;(iterate 6 exact rfl);exact Upd.head;exact rfl))|apply R.nil|(apply T.is;first|apply T.seq|apply T.region))
  have o1:RsO s.s1 M:=hso.num 1
  have o2:RsO s.s2 M:=o1.raws 9
  have o3:RsO s.s3 M:=o2.num 2
  have o4:RsO s.s4 M:=o3.num 2
  have o5:RsO s.s5 M:=o4.num 4
  have o6:RsO s.s6 M:=o5.gb
  have o7:RsO s.s7 M:=o6.raws 32
  have k0:=hso.okB br
  have k1:=o1.okB br
  have k2:=o2.okB br
  have k3:=o3.okB br
  have k4:=o4.okB br
  have k5:=o5.okB br
  have k6:=o6.okB br
  have h1:∀ w1,s.ok br w1→CallM Tryz.prog 53 [.pointer (some ⟨br,0,none⟩),.int .i64 0] (s.L br) w1 fun v L=>v = .int .i64 s.pk∧L=s.s1.L br:=fun w1 h=>rnum_ok br s 0 1 (by decide) rfl w1 h
  have h2:∀ w1,s.s1.ok br w1→CallM Tryz.prog 54 [.agg ⟨[.pointer (some ⟨br,0,none⟩)]⟩,.int .i64 9] (s.s1.L br) w1 fun v L=>∃ ov,OvOk 1 ov 9 (u8s s.pc)∧v=slV ov 9∧L=s.s2.L br++blkL 5 ov (u8s s.pc):=fun w1 h=>raw_ok br s.s1 9 (by decide) w1 h
  have h3:∀ w1,s.s2.ok br w1→CallM Tryz.prog 53 [.pointer (some ⟨br,0,none⟩),.int .i64 1] (s.s2.L br) w1 fun v L=>v = .int .i64 s.pto∧L=s.s3.L br:=fun w1 h=>rnum_ok br s.s2 1 2 (by decide) rfl w1 h
  have h4:∀ w1,s.s3.ok br w1→CallM Tryz.prog 53 [.pointer (some ⟨br,0,none⟩),.int .i64 1] (s.s3.L br) w1 fun v L=>v = .int .i64 s.pa∧L=s.s4.L br:=fun w1 h=>rnum_ok br s.s3 1 2 (by decide) rfl w1 h
  have h5:∀ w1,s.s4.ok br w1→CallM Tryz.prog 53 [.pointer (some ⟨br,0,none⟩),.int .i64 2] (s.s4.L br) w1 fun v L=>v = .int .i64 s.pb∧L=s.s5.L br:=fun w1 h=>rnum_ok br s.s4 2 4 (by decide) rfl w1 h
  have h6:∀ w1,s.s5.ok br w1→CallM Tryz.prog 55 [.pointer (some ⟨br,0,none⟩),.int .i64 512] (s.s5.L br) w1 fun v L=>∃ ov,OvOk 1 ov s.pbd.length (u8s s.pbd)∧v = .slice (ovp ov) s.pbd.length (ovc ov s.pbd.length)∧L=s.s6.L br++blkL 5 ov (u8s s.pbd):=fun w1 h=>rbytes_ok br s.s5 w1 h
  have h7:∀ w1,s.s6.ok br w1→CallM Tryz.prog 54 [.agg ⟨[.pointer (some ⟨br,0,none⟩)]⟩,.int .i64 32] (s.s6.L br) w1 fun v L=>∃ ov,OvOk 1 ov 32 (u8s s.ptg)∧v=slV ov 32∧L=s.s7.L br++blkL 5 ov (u8s s.ptg):=fun w1 h=>raw_ok br s.s6 32 (by decide) w1 h
  have hre:=fun w1 h=>rerr_ok br s.s7 w1 h
  have hrl:=fun w1 h=>rleft_ok br s.s7 w1 h
  have hcpb:Byt s.pc:=o1.raws_byt 9
  have hcb:s.pc.length=9:=Rs.raws_len _ _
  have htl:s.ptg.length=32:=Rs.raws_len _ _
  have hO7:s.s7.O = .cells ⟨[.slice s.s7.q s.s7.xs.length s.s7.cap,.int .i64 s.s7.e]⟩ 232 (0,0):=rfl
  rw [← hO7] at hre hrl
  simp only [Rs.L_O] at *
  have hpost:∀ (sc:Rs) (v:Value) (L:Lst),sc.xs=s.pc→sc.e=0→((s.pE sc≠0∧v = .tuple #[.agg ⟨pkC 0 cl0 0 0 0 none 0 0 (zI 32)⟩,.int .i64 (s.pE sc)]∧L=[]) ∨ (s.pE sc=0∧∃ ov,OvOk 1 ov s.pbd.length (u8s s.pbd)∧v = .tuple #[.agg ⟨pkC s.pk (prC sc).1 s.pto s.pa s.pb (ovp ov) s.pbd.length (ovc ov s.pbd.length) s.ptg⟩,.int .i64 0]∧L=blkL 5 ov (u8s s.pbd)))→ParsePost n xs v L:=fun sc v L a1 a2 a3=>⟨s,sc,hs1,hs2,a1,a2,a3⟩
  have hpE:∀ sc,s.pE sc=if s.s7.e≠0 then s.s7.e else if ¬ (0 < s.pk∧s.pk < 15) then 13 else if (prC sc).2≠0 then 3 else if 0 < s.s7.xs.length then 3 else if pckE s.pk (prC sc).1 s.pto s.pa s.pb s.pbd.length s.ptg≠0 then 3 else 0:=fun sc=>rfl
  obtain ⟨PE,hPE⟩:∃ f:Rs→Int,f=fun sc=>s.pE sc:=⟨_,rfl⟩
  have hPE2:∀ sc,s.pE sc=PE sc:=fun sc=>by rw [hPE]
  simp only [hPE2] at hpE hpost
  clear hPE hPE2 hnew hO7
  generalize s.pk=xk at *
  generalize s.pc=xc at *
  generalize s.pto=xto at *
  generalize s.pa=xa at *
  generalize s.pb=xb at *
  generalize s.pbd=xbd at *
  generalize s.ptg=xt at *
  generalize s.s7.e=e7 at *
  generalize s.s7.xs.length=l7 at *
  generalize s.s7.O=O7 at *
  generalize s.s6.O=O6 at *
  generalize s.s5.O=O5 at *
  generalize s.s4.O=O4 at *
  generalize s.s3.O=O3 at *
  generalize s.s2.O=O2 at *
  generalize s.s1.O=O1 at *
  generalize s.O=O0 at *
  repeat' (first|(apply R.is1;first|(apply R.isCall;first|(apply R.callE (Li:=[(br,O0)]) (vs:=[.pointer (some ⟨br,0,none⟩),.int .i64 0]);(iterate 3 exact rfl);(focus (repeat' first|exact Ext.one _ _|apply Ext.cons);done);intro w1 hw1;exact h1 w1 (k0 _ _ _ _ _ hw1 (by (focus (repeat' first|exact Ext.one _ _|apply Ext.cons);done)) (Ext.mem (by (focus (repeat' first|exact Ext.here _ _|apply Ext.cons|apply Ext.app);done))));rintro v Lo ⟨rfl,rfl⟩)|(apply R.callE (Li:=[(br,O1)]) (vs:=[.agg ⟨[.pointer (some ⟨br,0,none⟩)]⟩,.int .i64 9]);(iterate 3 exact rfl);(focus (repeat' first|exact Ext.one _ _|apply Ext.cons);done);intro w1 hw1;exact h2 w1 (k1 _ _ _ _ _ hw1 (by (focus (repeat' first|exact Ext.one _ _|apply Ext.cons);done)) (Ext.mem (by (focus (repeat' first|exact Ext.here _ _|apply Ext.cons|apply Ext.app);done))));rintro v Lo ⟨ovc9,hovc9,rfl,rfl⟩;rw [slV_eq hovc9,List.append_assoc])|(apply R.callE (Li:=[(br,O2)]) (vs:=[.pointer (some ⟨br,0,none⟩),.int .i64 1]);(iterate 3 exact rfl);(focus ((repeat' (exact Ext.one _ _));done));intro w1 hw1;exact h3 w1 (k2 _ _ _ _ _ hw1 (by (focus ((repeat' (exact Ext.one _ _));done))) (Ext.mem (by (focus (repeat' first|exact Ext.here _ _|apply Ext.cons|apply Ext.app);done))));rintro v Lo ⟨rfl,rfl⟩))|(apply R.pure;exact rfl;first|(apply Ok1.fieldAddr;(iterate 5 exact rfl))|(apply Ok1.load;exact rfl;first|(apply Ld.own1;exact rfl;exact rfl;(focus (repeat' first|exact At.head|apply At.tail|apply At.right);done);exact rfl)|(apply Ld.ownk;exact rfl;exact rfl;(focus (repeat' first|exact At.head|apply At.tail);done);exact rfl))|(apply Ok1.assign;exact rfl)|(apply Ok1.build;(iterate 5 exact rfl)))|(apply R.alloc;(iterate 3 exact rfl);intro))|(apply R.is0;(apply R.store;(iterate 6 exact rfl);(focus (repeat' first|exact Upd.head|apply Upd.tail|apply Upd.right);done);exact rfl))|apply R.nil|(apply T.is;first|apply T.seq|apply T.region))
  rename_i b2 b4 b5
  refine T.weakK (σ':=[(2,.pointer (some ⟨b2,0,none⟩)),(3,.int .i64 0),(4,.pointer (some ⟨b4,0,none⟩)),(5,.pointer (some ⟨b5,0,none⟩)),(6,.slice (ovp ovc9) 9 (ovc ovc9 9))]) (L':=(b4,.cells ⟨[.pointer (some ⟨br,0,none⟩)]⟩ 128 (0,0))::(b5,.cells ⟨pkC xk cl0 xto 0 0 none 0 0 (zI 32)⟩ 48 (0,0))::(br,O3)::(b2,.cells ⟨pkC 0 cl0 0 0 0 none 0 0 (zI 32)⟩ 48 (0,0))::(blkL 5 ovc9 (u8s xc)++M)) ?_ (by (focus (repeat' first|exact Ext.one _ _|exact Ext.here _ _|apply Keep.cons|apply Keep.app|apply Keep.last|apply Ext.cons|apply Ext.app);done)) ⟨rfl,rfl,rfl,rfl,rfl,trivial⟩
  repeat' (first|(apply R.is1;first|(apply R.isCall;(apply R.callE (Li:=[(br,O5)]) (vs:=[.pointer (some ⟨br,0,none⟩),.int .i64 512]);(iterate 3 exact rfl);(focus ((repeat' (exact Ext.one _ _));done));intro w1 hw1;exact h6 w1 (k5 _ _ _ _ _ hw1 (by (focus ((repeat' (exact Ext.one _ _));done))) (Ext.mem (by (focus (repeat' first|exact Ext.all _|apply Ext.cons|apply Ext.app);done))));rintro v Lo ⟨ovb,hovb,rfl,rfl⟩;rw [List.append_assoc]))|(apply R.pure;exact rfl;first|(apply Ok1.fieldAddr;(iterate 5 exact rfl))|(apply Ok1.load;exact rfl;(apply Ld.own1;exact rfl;exact rfl;(focus (repeat' first|exact At.head|apply At.tail);done);exact rfl))))|(apply R.is0;(apply R.store;(iterate 6 exact rfl);(focus (repeat' first|exact Upd.head|apply Upd.tail|apply Upd.right);done);exact rfl))|apply R.nil|(apply T.is;first|(apply T.drawC (id:=5) [0] (by decide);((apply A.tk 0;exact rfl;kernel_rfl;(apply Ok1.fieldAddr;(iterate 5 exact rfl)))<;>(apply A.tk 1;exact rfl;kernel_rfl;(apply Ok1.load;exact rfl;(apply Ld.own1;exact rfl;exact rfl;exact At.head;exact rfl)))<;>(apply A.tk 3;exact rfl;kernel_rfl;(apply Ok1.fieldAddr;(iterate 5 exact rfl)))<;>(apply A.tk 4;exact rfl;kernel_rfl;(apply Ok1.load;exact rfl;(apply Ld.own1;exact rfl;exact rfl;exact At.head;exact rfl)))<;>(apply A.one 2;kernel_rfl;exact rfl;(((apply R.callE (Li:=[(br,O3)]) (vs:=[.pointer (some ⟨br,0,none⟩),.int .i64 1]);(iterate 3 exact rfl);(focus (repeat' first|exact Ext.one _ _|apply Ext.cons);done);intro w1 hw1;exact h4 w1 (k3 _ _ _ _ _ hw1 (by (focus (repeat' first|exact Ext.one _ _|apply Ext.cons);done)) (Ext.mem (by (focus (repeat' first|exact Ext.all _|apply Ext.cons|apply Ext.app);done))));rintro v Lo ⟨rfl,rfl⟩)));apply R.nil;refine ⟨?_,?_⟩;(focus (repeat' first|exact trivial|exact At.head|apply At.tail|refine ⟨?_,?_⟩)))<;>(apply A.one 5;kernel_rfl;exact rfl;(((apply R.callE (Li:=[(br,O4)]) (vs:=[.pointer (some ⟨br,0,none⟩),.int .i64 2]);(iterate 3 exact rfl);(focus ((repeat' (exact Ext.one _ _));done));intro w1 hw1;exact h5 w1 (k4 _ _ _ _ _ hw1 (by (focus ((repeat' (exact Ext.one _ _));done))) (Ext.mem (by (focus (repeat' first|exact Ext.all _|apply Ext.cons|apply Ext.app);done))));rintro v Lo ⟨rfl,rfl⟩)));apply R.nil;refine ⟨?_,?_⟩;(focus (repeat' first|exact trivial|exact At.head|apply At.tail|refine ⟨?_,?_⟩)))<;>(apply A.tk 6;exact rfl;kernel_rfl;(apply Ok1.build;(iterate 5 exact rfl)))<;>(apply A.tk 7;exact rfl;kernel_rfl;(apply Ok1.fieldAddr;(iterate 5 exact rfl)))<;>(apply A.one 8;kernel_rfl;exact rfl;(((apply R.store;(iterate 6 exact rfl);(focus (repeat' first|exact Upd.head|apply Upd.tail);done);exact rfl)));apply R.nil;refine ⟨?_,?_⟩;(focus (repeat' first|exact trivial|exact At.head|apply At.tail|refine ⟨?_,?_⟩)))<;>(apply A.done;kernel_rfl)))|apply T.seq|apply T.region))
  refine T.weakK (σ':=[(2,.pointer (some ⟨b2,0,none⟩)),(3,.int .i64 0),(4,.pointer (some ⟨b4,0,none⟩)),(5,.pointer (some ⟨b5,0,none⟩)),(6,.slice (ovp ovc9) 9 (ovc ovc9 9))]) (L':=(b4,.cells ⟨[.pointer (some ⟨br,0,none⟩)]⟩ 128 (0,0))::(b5,.cells ⟨pkC xk cl0 xto xa xb (ovp ovb) xbd.length (ovc ovb xbd.length) (zI 32)⟩ 48 (0,0))::(br,O6)::(b2,.cells ⟨pkC 0 cl0 0 0 0 none 0 0 (zI 32)⟩ 48 (0,0))::(blkL 5 ovc9 (u8s xc)++(blkL 5 ovb (u8s xbd)++M))) ?_ (by (focus (repeat' first|exact Ext.one _ _|exact Ext.here _ _|exact Ext.all _|apply Keep.cons|apply Keep.app|apply Keep.last|apply Ext.cons|apply Ext.app);done)) ⟨rfl,rfl,rfl,rfl,rfl,trivial⟩
  repeat' (first|(apply R.is1;(apply R.pure;exact rfl;first|(apply Ok1.fieldAddr;(iterate 5 exact rfl))|(apply Ok1.load;exact rfl;(apply Ld.own1;exact rfl;exact rfl;(focus (repeat' first|exact At.head|apply At.tail|apply At.right);done);exact rfl))))|(apply T.is;first|(apply T.drawC (id:=7) [0] (by decide);((apply A.tk 0;exact rfl;kernel_rfl;(apply Ok1.fieldAddr;(iterate 5 exact rfl)))<;>(apply A.tk 1;exact rfl;kernel_rfl;(apply Ok1.sliceArr;(iterate 4 exact rfl)))<;>(apply A.tk 2;exact rfl;kernel_rfl;(apply Ok1.load;exact rfl;(apply Ld.ownk;exact rfl;exact rfl;exact At.head;exact rfl)))<;>(apply A.one 3;kernel_rfl;exact rfl;(((apply R.callE (Li:=[(br,O6)]) (vs:=[.agg ⟨[.pointer (some ⟨br,0,none⟩)]⟩,.int .i64 32]);(iterate 3 exact rfl);(focus (repeat' first|exact Ext.one _ _|apply Ext.cons);done);intro w1 hw1;exact h7 w1 (k6 _ _ _ _ _ hw1 (by (focus (repeat' first|exact Ext.one _ _|apply Ext.cons);done)) (Ext.mem (by (focus (repeat' first|exact Ext.all _|apply Ext.cons|apply Ext.app);done))));rintro v Lo ⟨ovt,hovt,rfl,rfl⟩;rw [slV_eq hovt,List.append_assoc])));apply R.nil;refine ⟨?_,?_⟩;(focus (repeat' first|exact trivial|exact At.head|apply At.tail|apply At.right|refine ⟨?_,?_⟩)))<;>(apply A.one 4;kernel_rfl;exact rfl;(((apply R.copyAll (xs:=xt) (v:=u8V) (o':=9);(iterate 7 exact rfl);exact htl.symm;exact u8V_len;(intro w1 hw1;exact RdSl.own' hw1 (Ext.mem (by rw [fl_u8];(focus (repeat' first|exact Ext.here _ _|apply Ext.cons|apply Ext.app);done))) (by rw [fl_u8,htl];exact hovt) u8V_len);(rw [fl_u8];exact u8s_one _);(rw [htl];omega);exact rfl;(focus (repeat' first|exact Upd.head|apply Upd.tail|apply Upd.right);done);(rw [fl_u8];exact pk_set _ _ _ _ _ _ _ _ rfl htl))));apply R.nil;refine ⟨?_,?_⟩;(focus (repeat' first|exact trivial|exact At.head|apply At.tail|apply At.right|refine ⟨?_,?_⟩)))<;>(apply A.done;kernel_rfl)))|apply T.seq|apply T.region))
  by_cases he:e7=0
  case neg =>
    have hD:=hpE ⟨none,0,xc,0⟩
    rw [if_pos he] at hD
    repeat' (first|(apply R.is1;first|(apply R.isBin;(apply R.pure;exact rfl;(apply Ok1.neq_t;exact rfl;exact rfl;omega)))|(apply R.isCall;(apply R.callV (vs:=[.pointer (some ⟨br,0,none⟩)]);(iterate 3 exact rfl);intro w1 hw1;exact hre w1 (hw1.get _ _ (At.mem (by exact At.head)))))|(apply R.pure;exact rfl;first|(apply Ok1.move;exact rfl)|(apply Ok1.assign;exact rfl)|(apply Ok1.build;(iterate 5 exact rfl))))|(apply R.is0;(apply R.store;(iterate 6 exact rfl);(focus (repeat' first|exact Upd.head|apply Upd.tail|apply Upd.right);done);exact rfl))|apply R.nil|(apply T.is;first|apply T.seq|apply T.region|apply T.ret|(apply T.cond_t;exact rfl)))
    all_goals (apply RetOk.ct;exact rfl;(apply Ld.ownk;exact rfl;exact rfl;(focus (repeat' first|exact At.head|apply At.tail|apply At.right);done);exact rfl);exact rfl)
    all_goals exact ⟨_,by (focus ((repeat' (exact Keep.nil _));done)),hpost ⟨none,0,xc,0⟩ _ _ rfl rfl (.inl ⟨by rw [hD];exact he,by rw [hD];rfl,rfl⟩)⟩
  subst he
  have hcp:=fun w1 h=>clparse_ok (ovp ovc9) 9 (ovc ovc9 9) xc hcb.symm (by decide) hcpb w1 h
  repeat' (first|(apply R.is1;first|(apply R.isBin;(apply R.pure;exact rfl;(apply Ok1.neq_f;exact rfl;exact rfl;omega)))|(apply R.isCall;first|(apply R.callV (vs:=[.pointer (some ⟨br,0,none⟩)]);(iterate 3 exact rfl);intro w1 hw1;exact hre w1 (hw1.get _ _ (At.mem (by exact At.head))))|(apply R.callE (vs:=[.slice (ovp ovc9) 9 (ovc ovc9 9)]);(iterate 3 exact rfl);exact Ext.none _;intro w1 hw1;exact hcp w1 (RdSl.own' hw1 (Ext.mem (by rw [fl_u8];(focus (repeat' first|exact Ext.here _ _|apply Ext.cons|apply Ext.app);done))) (by rw [fl_u8,hcb];exact hovc9) u8V_len);rintro v Lo ⟨sc,hsc1,hsc2,rfl,rfl⟩;simp only [kvC]))|(apply R.pure;exact rfl;first|(apply Ok1.move;exact rfl)|(apply Ok1.fieldAddr;(iterate 5 exact rfl))|(apply Ok1.assign;exact rfl)|(apply Ok1.extract;exact rfl;exact rfl)))|(apply R.is0;(apply R.store;(iterate 6 exact rfl);(focus (repeat' first|exact Upd.head|apply Upd.tail|apply Upd.right);done);exact rfl))|apply R.nil|(apply T.is;first|(apply T.stop1 13)|apply T.seq|apply T.region|apply T.skip|(apply T.cond_f;exact rfl)))
  refine ⟨?_⟩
  have hD:=hpE sc
  rw [if_neg (fun h=>h rfl)] at hD
  rw [if_pos (by decide)] at hsc1 hsc2
  generalize hpr:prC sc=pr at *
  obtain ⟨cl,ec⟩:=pr
  simp only at hD
  refine T.weakK (σ':=[(2,.pointer (some ⟨b2,0,none⟩)),(3,.int .i64 0),(4,.pointer (some ⟨b4,0,none⟩)),(5,.pointer (some ⟨b5,0,none⟩)),(8,.int .i64 ec)]) (L':=(b4,.cells ⟨[.pointer (some ⟨br,0,none⟩)]⟩ 128 (0,0))::(b5,.cells ⟨pkC xk cl xto xa xb (ovp ovb) xbd.length (ovc ovb xbd.length) xt⟩ 48 (0,0))::(br,O7)::(b2,.cells ⟨pkC 0 cl0 0 0 0 none 0 0 (zI 32)⟩ 48 (0,0))::blkL 5 ovb (u8s xbd)) ?_ (by (focus (repeat' first|exact Ext.one _ _|exact Ext.here _ _|apply Keep.cons|apply Keep.last|apply Ext.cons|apply Ext.app);done)) ⟨rfl,rfl,rfl,rfl,rfl,trivial⟩
  have hck:=pcheck_ok xk cl xto xa xb (ovp ovb) xbd.length (ovc ovb xbd.length) xt htl
  have hkd:=pkind_ok xk
  have hpl:=pk_len xk cl xto xa xb (ovp ovb) xbd.length (ovc ovb xbd.length) htl
  have hpo:=pk_one xk cl xto xa xb (ovp ovb) xbd.length (ovc ovb xbd.length) xt
  obtain ⟨qk,hqk⟩:∃ q,q=decide (0 < xk∧xk < 15):=⟨_,rfl⟩
  rw [← hqk] at hkd
  have key:(qk=false∧PE sc=13) ∨ (qk=true∧ec≠0∧PE sc=3) ∨ (qk=true∧ec=0∧0 < l7∧PE sc=3) ∨ (qk=true∧ec=0∧l7=0∧pckE xk cl xto xa xb xbd.length xt≠0∧PE sc=3) ∨ (qk=true∧ec=0∧l7=0∧pckE xk cl xto xa xb xbd.length xt=0∧PE sc=0):=by
    by_cases g1:0 < xk∧xk < 15
    case neg=>rw [if_pos g1] at hD;exact .inl ⟨by rw [hqk];exact decide_eq_false g1,hD⟩
    rw [if_neg (fun g=>g g1)] at hD
    have q1:qk=true:=by rw [hqk];exact decide_eq_true g1
    by_cases g2:ec=0
    case neg=>rw [if_pos g2] at hD;exact .inr (.inl ⟨q1,g2,hD⟩)
    rw [if_neg (fun g=>g g2)] at hD
    by_cases g3:0 < l7
    · rw [if_pos g3] at hD;exact .inr (.inr (.inl ⟨q1,g2,g3,hD⟩))
    rw [if_neg g3] at hD
    by_cases g4:pckE xk cl xto xa xb xbd.length xt=0
    · rw [if_neg (fun g=>g g4)] at hD;exact .inr (.inr (.inr (.inr ⟨q1,g2,by omega,g4,hD⟩)))
    · rw [if_pos g4] at hD;exact .inr (.inr (.inr (.inl ⟨q1,g2,by omega,g4,hD⟩)))
  clear hD hqk hpE
  generalize pckE xk cl xto xa xb xbd.length xt=EE at *
  generalize hPS:PE sc=PS at *
  simp only [pkC] at hck hpl hpo ⊢
  have hfin:∀ x:Value,True:=fun _=>trivial
  rcases key with ⟨rfl,rfl⟩|⟨rfl,g2,rfl⟩|⟨rfl,rfl,g3,rfl⟩|⟨rfl,rfl,rfl,g4,rfl⟩|⟨rfl,rfl,rfl,rfl,rfl⟩
  all_goals repeat' (first|(apply R.is1;first|(apply R.isBin;first|(apply R.pure;exact rfl;first|(apply Ok1.gtr_t;exact rfl;exact rfl;omega)|(apply Ok1.gtr_f;exact rfl;exact rfl;omega)|(apply Ok1.neq_t;exact rfl;exact rfl;omega)|(apply Ok1.neq_f;exact rfl;exact rfl;omega))|(apply R.neq rfl rfl rfl<;>intro))|(apply R.isCall;first|apply R.callP rfl rfl rfl hkd|(apply R.callV (vs:=[.pointer (some ⟨br,0,none⟩)]);(iterate 3 exact rfl);intro w1 hw1;exact hrl w1 (hw1.get _ _ (At.mem (by (focus (repeat' first|exact At.head|apply At.tail);done)))))|apply R.callP rfl rfl rfl hck)|(apply R.pure;exact rfl;first|(apply Ok1.load;exact rfl;first|(apply Ld.own1;exact rfl;exact rfl;(focus (repeat' first|exact At.head|apply At.tail);done);exact rfl)|(apply Ld.ownk;exact rfl;exact rfl;(focus (repeat' first|exact At.head|apply At.tail);done);exact subE_all hpl))|(apply Ok1.move;exact rfl)|(apply Ok1.fieldAddr;(iterate 5 exact rfl))|(apply Ok1.assign;exact rfl)|(apply Ok1.build;(iterate 5 exact rfl))|(apply Ok1.pick_t;exact rfl;exact rfl)|(apply Ok1.pick_f;exact rfl;exact rfl)|(apply Ok1.not_t;exact rfl)|(apply Ok1.not_f;exact rfl)))|(apply R.is0;first|(apply R.store;(iterate 4 exact rfl);exact hpl;exact hpo;(focus (repeat' first|exact Upd.head|apply Upd.tail);done);exact setE_all hpl)|(apply R.store;(iterate 6 exact rfl);(focus (repeat' first|exact Upd.head|apply Upd.tail);done);exact rfl))|(apply R.isG;first|(apply R.guard_run;exact rfl;exact rfl)|(apply R.guard_not;(iterate 3 exact rfl)))|apply R.nil|(apply T.is;first|apply T.seq|apply T.region|apply T.block|apply T.skip|apply T.ret|(apply T.cond_t;exact rfl)|(apply T.cond_f;exact rfl)))
  all_goals (apply RetOk.ct;exact rfl;(first|(apply Ld.ownk;exact rfl;exact rfl;(focus (repeat' first|exact At.head|apply At.tail);done);exact rfl)|(apply Ld.ownk;exact rfl;exact rfl;(focus (repeat' first|exact At.head|apply At.tail);done);exact subE_all hpl));exact rfl)
  all_goals first
    | exact ⟨_,by (focus ((repeat' (exact Keep.nil _));done)),hpost sc _ _ hsc1 hsc2 (.inl ⟨by rw [hPS];decide,by rw [hPS];rfl,rfl⟩)⟩
    | exact ⟨_,by (focus (repeat' first|exact Ext.all _|apply Keep.last|apply Ext.cons);done),hpost sc _ _ hsc1 hsc2 (.inr ⟨hPS,ovb,hovb,by rw [hpr];rfl,rfl⟩)⟩
theorem Rs.raws_fwd {s:Rs} {l rest:List Int} (hb:Byt l) (hs:s.xs=l++rest) (he:s.e=0):∀ n,n≤l.length→(s.raws n).1=l.take n∧(s.raws n).2.xs=l.drop n++rest∧(s.raws n).2.e=0:=by
  intro n
  induction n with
  | zero=>intro _;exact ⟨rfl,hs,he⟩
  | succ n ih =>
    intro hn
    obtain ⟨h1,h2,h3⟩:=ih (by omega)
    obtain ⟨x,hx⟩:∃ x,l[n]? = some x:=⟨_,List.getElem?_eq_getElem (by omega)⟩
    have hxb:=hb x (List.mem_of_getElem? hx)
    have hd:l.drop n=x::l.drop (n+1):=by
      have hlt:n < l.length:=by omega
      rw [List.drop_eq_getElem_cons hlt]
      rw [List.getElem?_eq_getElem hlt] at hx
      cases hx;rfl
    have hnx:numI 0 x=[x]:=by show [x % 256]=[x];congr 1;omega
    have h2':(s.raws n).2.xs=numI 0 x++(l.drop (n+1)++rest):=by rw [h2,hd,hnx];rfl
    obtain ⟨a1,a2,a3⟩:=Rs.num_fwd (s:=(s.raws n).2) (z:=0) (k:=1) (.inl ⟨rfl,rfl⟩) (by omega) (by omega) (by omega) (by omega) h2' h3
    refine ⟨?_,a2,a3⟩
    show (s.raws n).1++[((s.raws n).2.num 1).1]=l.take (n+1)
    rw [a1,h1,List.take_add_one,hx];rfl
theorem Rs.gb_fwd {s:Rs} {l rest:List Int} (hl:l.length≤512) (hs:s.xs=numI 1 l.length++(l++rest)) (he:s.e=0):s.gb.1=l∧s.gb.2.xs=rest∧s.gb.2.e=0:=by
  have hz:(s.num 2)=(beN (s.xs.take 2),true,s.drop 2):=by
    obtain ⟨g1,g2⟩:=be_numI (z:=1) (k:=2) (v:=(l.length:Int)) (.inr (.inl ⟨rfl,rfl⟩)) (by omega) (by omega) (by omega) (by omega)
    have ht:s.xs.take 2=numI 1 l.length:=by rw [hs];rfl
    refine Rs.num_many he (by rw [hs,List.length_append,g2];omega) (by rw [ht,g1];omega)
  obtain ⟨a1,a2,a3⟩:=Rs.num_fwd (s:=s) (z:=1) (k:=2) (v:=(l.length:Int)) (.inr (.inl ⟨rfl,rfl⟩)) (by omega) (by omega) (by omega) (by omega) hs he
  have a0:(s.num 2).2.1=true:=by rw [hz]
  unfold Rs.gb
  rw [a0,a1,if_neg (by decide),if_neg (by omega),if_neg (by rw [a2,List.length_append];omega),Int.toNat_natCast]
  refine ⟨by rw [a2];exact List.take_left,?_,a3⟩
  show ((s.num 2).2.2.xs).drop l.length=rest
  rw [a2];exact List.drop_left
theorem prC_fwd {s:Rs} {c:Cl} (hr:c.right) (hs:s.xs=clI c) (he:s.e=0):prC s=(c,0):=by
  have hs':s.xs=clI c++[]:=by rw [hs,List.append_nil]
  have h1:=rdC_fwd hr hs' he
  obtain ⟨_,h2,h3⟩:=Rs.c4_fwd hr hs' he
  unfold prC
  rw [h1,if_neg (fun h=>h rfl)]
  have hf:s.c4.fin=0:=by unfold Rs.fin;rw [if_neg (fun h=>h h3),h2,if_neg (by decide)]
  rw [hf,if_neg (fun h=>h rfl)]
theorem parse_fwd {s:Rs} {k:Int} {c:Cl} {to a b:Int} {body t:List Int} (ht:t.length=32) (htb:Byt t) (hE:pckE k c to a b body.length t=0) (hs:s.xs=pkB k c to a b body t) (he:s.e=0) :
    s.pk=k∧s.pc=clI c∧s.pto=to∧s.pa=a∧s.pb=b∧s.pbd=body∧s.ptg=t∧s.s7.xs=[]∧s.s7.e=0:=by
  obtain ⟨g1,g2,g3,g4,g5,g6⟩:=pckE_zero hE
  unfold NR at g4
  simp only [pkB,pkH,nbI,List.nil_append,List.append_assoc] at hs
  obtain ⟨a1,a2,a3⟩:=Rs.num_fwd (s:=s) (z:=0) (k:=1) (.inl ⟨rfl,rfl⟩) (by omega) (by omega) (by omega) (by omega) hs he
  obtain ⟨b1,b2,b3⟩:=Rs.raws_fwd (s:=s.s1) (clI_byt c) a2 a3 9 (Nat.le_refl _)
  have b2':s.s2.xs=_:=b2
  rw [show (clI c).drop 9=[] from rfl,List.nil_append] at b2'
  obtain ⟨c1,c2,c3⟩:=Rs.num_fwd (s:=s.s2) (z:=1) (k:=2) (.inr (.inl ⟨rfl,rfl⟩)) (by omega) (by omega) (by omega) (by omega) b2' b3
  obtain ⟨d1,d2,d3⟩:=Rs.num_fwd (s:=s.s3) (z:=1) (k:=2) (.inr (.inl ⟨rfl,rfl⟩)) (by omega) (by omega) (by omega) (by omega) c2 c3
  obtain ⟨e1,e2,e3⟩:=Rs.num_fwd (s:=s.s4) (z:=2) (k:=4) (.inr (.inr ⟨rfl,rfl⟩)) (by omega) (by omega) (by omega) (by omega) d2 d3
  obtain ⟨f1,f2,f3⟩:=Rs.gb_fwd (s:=s.s5) (l:=body) g5 e2 e3
  have f2':s.s6.xs=t++[]:=by rw [List.append_nil];exact f2
  obtain ⟨h1,h2,h3⟩:=Rs.raws_fwd (s:=s.s6) htb f2' f3 32 (by omega)
  refine ⟨a1,?_,c1,d1,e1,f1,?_,?_,h3⟩
  · exact b1
  · show (s.s6.raws 32).1=t
    rw [h1,List.take_of_length_le (by omega)]
  · show (s.s6.raws 32).2.xs=[]
    rw [h2,List.drop_of_length_le (by omega)];rfl
theorem parse_wr (p:Option Addr) (n cap:Nat) (k:Int) (c:Cl) (to a b:Int) (body t:List Int) (ht:t.length=32) (htb:Byt t) (hbb:Byt body) (hE:pckE k c to a b body.length t=0) (hn:n=(pkB k c to a b body t).length) (w:World) (hp:RdSl w p u8V (pkB k c to a b body t)) :
    CallM Tryz.prog 11 [.slice p n cap] [] w fun v L=>∃ ov,OvOk 1 ov body.length (u8s body)∧v = .tuple #[.agg ⟨pkC k c to a b (ovp ov) body.length (ovc ov body.length) t⟩,.int .i64 0]∧L=blkL 5 ov (u8s body):=by
  have hz:=pckE_zero hE
  have hl:=pkB_len k c to a b body ht
  refine (pkparse_ok p n cap _ hn (by omega) (Byt.app (pkH_byt k c to a b hbb) htb) w hp).imp ?_
  rintro v L ⟨s,sc,h1,h2,h3,h4,h5⟩
  rw [if_pos (by omega)] at h1 h2
  obtain ⟨f1,f2,f3,f4,f5,f6,f7,f8,f9⟩:=parse_fwd ht htb hE h1 h2
  have hpr:=prC_fwd hz.2.1 (by rw [h3,f2]) h4
  have hPE:s.pE sc=0:=by
    unfold Rs.pE
    rw [if_neg (fun h=>h f9),f1,if_neg (fun h=>h hz.1),hpr,if_neg (fun h=>h rfl),f8,if_neg (by decide),f3,f4,f5,f6,f7,if_neg (fun h=>h hE)]
  rcases h5 with ⟨g,_⟩|⟨_,ov,hov,rfl,rfl⟩
  · exact absurd hPE g
  · rw [f6] at hov ⊢
    rw [f1,f3,f4,f5,f7,hpr]
    exact ⟨ov,hov,rfl,rfl⟩
theorem to_off (br:Nat) (c:Cl) (s:List Int) (hs:s.length=32) (m1 m2:Nat) (e:TypeId) (n:Int) (h:n < 1 ∨ n > 65535) (w:World) (hb:w.heap[br]? = some (.cells ⟨ringC c s m1 m2⟩ e (0,0))) :
    CallM Tryz.prog 296 [.pointer (some ⟨br,0,none⟩),.int .i64 n] [] w fun v L=>v = .tuple #[.pointer none,.int .i64 10]∧L=[]:=by
  refine enterK (tb:=tb) Tryz.func296 rfl Tryz.ntmps296 rfl ?_
  repeat' (first|(apply R.is1;first|(apply R.isBin;(apply R.pure;exact rfl;(apply Ok1.eqlP;(iterate 5 exact rfl))))|(apply R.isCall;first|(apply R.callE (vs:=[.agg ⟨tkC c s⟩]);(iterate 3 exact rfl);exact Ext.none _;intro w1 hw1;exact key_ok c s hs w1;rintro v Lo ⟨bk2,ov2,rfl,hov2,rfl⟩)|apply R.callP rfl rfl rfl (sender_off _ n h))|(apply R.pure;exact rfl;first|(apply Ok1.load;exact rfl;apply Ld.blkk;exact rfl;exact rfl;exact hb;exact List.not_mem_nil;exact ring_tk c hs m1 m2)|(apply Ok1.move;exact rfl)|(apply Ok1.fieldAddr;(iterate 5 exact rfl))|(apply Ok1.assign;exact rfl)|(apply Ok1.extract;exact rfl;exact rfl)|(apply Ok1.nilCheck;exact rfl)))|apply R.nil|(apply T.is;first|apply T.seq|apply T.region|apply T.skip|apply T.ret|(apply T.cond_f;exact rfl)))
  all_goals (apply RetOk.tt;exact rfl;exact rfl)
  all_goals exact ⟨_,by (focus ((repeat' (exact Keep.nil _));done)),rfl,rfl⟩
theorem rseed_off (br:Nat) (c:Cl) (s:List Int) (hs:s.length=32) (m1 m2:Nat) (e:TypeId) (n:Int) (h:n < 0 ∨ n > 3) (w:World) (hb:w.heap[br]? = some (.cells ⟨ringC c s m1 m2⟩ e (0,0))) :
    CallM Tryz.prog 175 [.pointer (some ⟨br,0,none⟩),.int .i64 n] [] w fun v L=>v = .tuple #[.pointer none,.int .i64 10]∧L=[]:=by
  refine enterK (tb:=tb) Tryz.func175 rfl Tryz.ntmps175 rfl ?_
  repeat' (first|(apply R.is1;first|(apply R.isBin;(apply R.pure;exact rfl;(apply Ok1.eqlP;(iterate 5 exact rfl))))|(apply R.isCall;first|(apply R.callE (vs:=[.agg ⟨tkC c s⟩]);(iterate 3 exact rfl);exact Ext.none _;intro w1 hw1;exact key_ok c s hs w1;rintro v Lo ⟨bk2,ov2,rfl,hov2,rfl⟩)|apply R.callP rfl rfl rfl (seed_off _ n h))|(apply R.pure;exact rfl;first|(apply Ok1.load;exact rfl;apply Ld.blkk;exact rfl;exact rfl;exact hb;exact List.not_mem_nil;exact ring_tk c hs m1 m2)|(apply Ok1.move;exact rfl)|(apply Ok1.fieldAddr;(iterate 5 exact rfl))|(apply Ok1.assign;exact rfl)|(apply Ok1.extract;exact rfl;exact rfl)|(apply Ok1.nilCheck;exact rfl)))|apply R.nil|(apply T.is;first|apply T.seq|apply T.region|apply T.skip|apply T.ret|(apply T.cond_f;exact rfl)))
  all_goals (apply RetOk.tt;exact rfl;exact rfl)
  all_goals exact ⟨_,by (focus ((repeat' (exact Keep.nil _));done)),rfl,rfl⟩
theorem rseed_ok (br:Nat) (c:Cl) (s:List Int) (hs:s.length=32) (hsb:Byt s) (m1 m2:Nat) (e:TypeId) (n:Int) (h1:0≤n) (h2:n≤3) (w:World) (hb:w.heap[br]? = some (.cells ⟨ringC c s m1 m2⟩ e (0,0))) :
    CallM Tryz.prog 175 [.pointer (some ⟨br,0,none⟩),.int .i64 n] [] w fun v L=>∃ bk' ov,v = .tuple #[.pointer (some ⟨bk',0,none⟩),.int .i64 0]∧OvOk 1 ov 32 (u8s (seedI s n))∧L=KL bk' ov (seedI s n):=by
  refine enterK (tb:=tb) Tryz.func175 rfl Tryz.ntmps175 rfl ?_
  repeat' (first|(apply R.is1;first|(apply R.isBin;(apply R.pure;exact rfl;(apply Ok1.eqlP;(iterate 5 exact rfl))))|(apply R.isCall;first|(apply R.callE (vs:=[.agg ⟨tkC c s⟩]);(iterate 3 exact rfl);exact Ext.none _;intro w1 hw1;exact key_ok c s hs w1;rintro v Lo ⟨bk2,ov2,rfl,hov2,rfl⟩)|(apply R.callE (vs:=[.pointer (some ⟨bk2,0,none⟩),.int .i64 n]);(iterate 3 exact rfl);exact Ext.none _;intro w1 hw1;exact seed_ok bk2 s (by rw [hs];decide) hsb n h1 h2 w1 (KeyR.of (by rw [hs];exact hov2) hw1 (Ext.mem (by (focus ((repeat' (exact Ext.here _ _));done)))));rintro v Lo ⟨bk3,ov3,rfl,hov3,rfl⟩))|(apply R.pure;exact rfl;first|(apply Ok1.load;exact rfl;apply Ld.blkk;exact rfl;exact rfl;exact hb;exact List.not_mem_nil;exact ring_tk c hs m1 m2)|(apply Ok1.move;exact rfl)|(apply Ok1.fieldAddr;(iterate 5 exact rfl))|(apply Ok1.assign;exact rfl)|(apply Ok1.extract;exact rfl;exact rfl)|(apply Ok1.nilCheck;exact rfl)))|apply R.nil|(apply T.is;first|apply T.seq|apply T.region|apply T.skip|apply T.ret|(apply T.cond_f;exact rfl)))
  all_goals (apply RetOk.tt;exact rfl;exact rfl)
  all_goals refine ⟨_,?_,bk3,ov3,rfl,hov3,rfl⟩
  all_goals (focus (repeat' first|exact Ext.one _ _|exact Ext.here _ _|apply Keep.cons|apply Keep.last);done)
/-- What is wrong with a kind and its place;the key for it. -/
def chE (k to:Int):Int:=if wayI k=1 then (if 0≤to∧to≤3 then 0 else 10) else if wayI k=3 then (if 1≤to∧to≤65535 then 0 else 10) else 13
def chK (s:List Int) (k to:Int):List Int:=if wayI k=1 then seedI s to else senderI s to
theorem chK_len (s:List Int) (k to:Int):(chK s k to).length=32:=by
  unfold chK
  split<;>exact derive_len _ _ _
theorem chK_byt (s:List Int) (k to:Int):Byt (chK s k to):=by
  unfold chK
  split<;>exact derive_byt _ _ _
def ChKey (s:List Int) (k to:Int) (v:Value) (L:Lst):Prop:=(chE k to≠0∧v = .tuple #[.pointer none,.int .i64 (chE k to)]∧L=[]) ∨ (chE k to=0∧∃ bk' ov,v = .tuple #[.pointer (some ⟨bk',0,none⟩),.int .i64 0]∧OvOk 1 ov 32 (u8s (chK s k to))∧L=KL bk' ov (chK s k to))
theorem chkeyG (bc bn br bb bd:Nat) (sd:List Value) (e1:TypeId) (f1:Nat × Nat) (c:Cl) (s:List Int) (hs:s.length=32) (hsb:Byt s) (m1 m2:Nat) (e:TypeId) (k to:Int) (w:World) (hc:w.heap[bc]? = some (.cells ⟨chC bn br bb bd sd⟩ e1 f1)) (hb:w.heap[br]? = some (.cells ⟨ringC c s m1 m2⟩ e (0,0))) :
    CallM Tryz.prog 197 [.pointer (some ⟨bc,0,none⟩),.int .i64 k,.int .i64 to] [] w (ChKey s k to):=by
  have hw:=way_ok k
  unfold chC at hc
  by_cases h1:wayI k=1
  · rw [h1] at hw
    by_cases ht:0≤to∧to≤3
    · have hE:chE k to=0:=by unfold chE;rw [if_pos h1,if_pos ht]
      have hK:chK s k to=seedI s to:=by unfold chK;rw [if_pos h1]
      unfold ChKey
      rw [hK]
      have hto:=fun w1 (h:Chg [] w w1)=>rseed_ok br c s hs hsb m1 m2 e to ht.1 ht.2 w1 (h.heap hb List.not_mem_nil)
      refine enterK (tb:=tb) Tryz.func197 rfl Tryz.ntmps197 rfl ?_
      repeat' (first|(apply R.is1;first|(apply R.isBin;(apply R.pure;exact rfl;(apply Ok1.eql_t;exact rfl;exact rfl;omega)))|(apply R.isCall;first|apply R.callP rfl rfl rfl hw|(apply R.callE (vs:=[.pointer (some ⟨br,0,none⟩),.int .i64 to]);(iterate 3 exact rfl);exact Ext.none _;intro w1 hw1;exact hto w1 hw1.chg;rintro x Lo ⟨bk,ov,rfl,hov,rfl⟩))|(apply R.pure;exact rfl;first|(apply Ok1.load;exact rfl;(apply Ld.blk1;exact rfl;exact rfl;exact hc;exact List.not_mem_nil;exact rfl))|(apply Ok1.move;exact rfl)|(apply Ok1.fieldAddr;(iterate 5 exact rfl))|(apply Ok1.assign;exact rfl)|(apply Ok1.extract;exact rfl;exact rfl)|(apply Ok1.nilCheck;exact rfl)))|apply R.nil|(apply T.is;first|apply T.seq|apply T.region|apply T.block|apply T.ret|(apply T.cond_t;exact rfl)))
      (apply RetOk.tt;exact rfl;exact rfl)
      exact ⟨_,by (focus (repeat' first|exact Ext.one _ _|exact Ext.here _ _|apply Keep.cons|apply Keep.last);done),.inr ⟨hE,bk,ov,rfl,hov,rfl⟩⟩
    · have hE:chE k to=10:=by unfold chE;rw [if_pos h1,if_neg ht]
      have hto:=fun w1 (h:Chg [] w w1)=>rseed_off br c s hs m1 m2 e to (by omega) w1 (h.heap hb List.not_mem_nil)
      refine enterK (tb:=tb) Tryz.func197 rfl Tryz.ntmps197 rfl ?_
      repeat' (first|(apply R.is1;first|(apply R.isBin;(apply R.pure;exact rfl;(apply Ok1.eql_t;exact rfl;exact rfl;omega)))|(apply R.isCall;first|apply R.callP rfl rfl rfl hw|(apply R.callE (vs:=[.pointer (some ⟨br,0,none⟩),.int .i64 to]);(iterate 3 exact rfl);exact Ext.none _;intro w1 hw1;exact hto w1 hw1.chg;rintro x Lo ⟨rfl,rfl⟩))|(apply R.pure;exact rfl;first|(apply Ok1.load;exact rfl;(apply Ld.blk1;exact rfl;exact rfl;exact hc;exact List.not_mem_nil;exact rfl))|(apply Ok1.move;exact rfl)|(apply Ok1.fieldAddr;(iterate 5 exact rfl))|(apply Ok1.assign;exact rfl)|(apply Ok1.extract;exact rfl;exact rfl)|(apply Ok1.nilCheck;exact rfl)))|apply R.nil|(apply T.is;first|apply T.seq|apply T.region|apply T.block|apply T.ret|(apply T.cond_t;exact rfl)))
      (apply RetOk.tt;exact rfl;exact rfl)
      exact ⟨_,by (focus ((repeat' (exact Keep.nil _));done)),.inl ⟨by rw [hE];decide,by rw [hE],rfl⟩⟩
  by_cases h3:wayI k=3
  · rw [h3] at hw
    by_cases ht:1≤to∧to≤65535
    · have hE:chE k to=0:=by unfold chE;rw [if_neg h1,if_pos h3,if_pos ht]
      have hK:chK s k to=senderI s to:=by unfold chK;rw [if_neg h1]
      unfold ChKey
      rw [hK]
      have hto:=fun w1 (h:Chg [] w w1)=>to_ok br c s hs hsb m1 m2 e to ht.1 ht.2 w1 (h.heap hb List.not_mem_nil)
      refine enterK (tb:=tb) Tryz.func197 rfl Tryz.ntmps197 rfl ?_
      repeat' (first|(apply R.is1;first|(apply R.isBin;(apply R.pure;exact rfl;first|(apply Ok1.eql_t;exact rfl;exact rfl;omega)|(apply Ok1.eql_f;exact rfl;exact rfl;omega)))|(apply R.isCall;first|apply R.callP rfl rfl rfl hw|(apply R.callE (vs:=[.pointer (some ⟨br,0,none⟩),.int .i64 to]);(iterate 3 exact rfl);exact Ext.none _;intro w1 hw1;exact hto w1 hw1.chg;rintro x Lo ⟨bk,ov,rfl,hov,rfl⟩))|(apply R.pure;exact rfl;first|(apply Ok1.load;exact rfl;(apply Ld.blk1;exact rfl;exact rfl;exact hc;exact List.not_mem_nil;exact rfl))|(apply Ok1.move;exact rfl)|(apply Ok1.fieldAddr;(iterate 5 exact rfl))|(apply Ok1.assign;exact rfl)|(apply Ok1.extract;exact rfl;exact rfl)|(apply Ok1.nilCheck;exact rfl)))|apply R.nil|(apply T.is;first|apply T.seq|apply T.region|apply T.block|apply T.ret|(apply T.cond_t;exact rfl)|(apply T.cond_f;exact rfl)))
      (apply RetOk.tt;exact rfl;exact rfl)
      exact ⟨_,by (focus (repeat' first|exact Ext.one _ _|exact Ext.here _ _|apply Keep.cons|apply Keep.last);done),.inr ⟨hE,bk,ov,rfl,hov,rfl⟩⟩
    · have hE:chE k to=10:=by unfold chE;rw [if_neg h1,if_pos h3,if_neg ht]
      have hto:=fun w1 (h:Chg [] w w1)=>to_off br c s hs m1 m2 e to (by omega) w1 (h.heap hb List.not_mem_nil)
      refine enterK (tb:=tb) Tryz.func197 rfl Tryz.ntmps197 rfl ?_
      repeat' (first|(apply R.is1;first|(apply R.isBin;(apply R.pure;exact rfl;first|(apply Ok1.eql_t;exact rfl;exact rfl;omega)|(apply Ok1.eql_f;exact rfl;exact rfl;omega)))|(apply R.isCall;first|apply R.callP rfl rfl rfl hw|(apply R.callE (vs:=[.pointer (some ⟨br,0,none⟩),.int .i64 to]);(iterate 3 exact rfl);exact Ext.none _;intro w1 hw1;exact hto w1 hw1.chg;rintro x Lo ⟨rfl,rfl⟩))|(apply R.pure;exact rfl;first|(apply Ok1.load;exact rfl;(apply Ld.blk1;exact rfl;exact rfl;exact hc;exact List.not_mem_nil;exact rfl))|(apply Ok1.move;exact rfl)|(apply Ok1.fieldAddr;(iterate 5 exact rfl))|(apply Ok1.assign;exact rfl)|(apply Ok1.extract;exact rfl;exact rfl)|(apply Ok1.nilCheck;exact rfl)))|apply R.nil|(apply T.is;first|apply T.seq|apply T.region|apply T.block|apply T.ret|(apply T.cond_t;exact rfl)|(apply T.cond_f;exact rfl)))
      (apply RetOk.tt;exact rfl;exact rfl)
      exact ⟨_,by (focus ((repeat' (exact Keep.nil _));done)),.inl ⟨by rw [hE];decide,by rw [hE],rfl⟩⟩
  · have hE:chE k to=13:=by unfold chE;rw [if_neg h1,if_neg h3]
    generalize wayI k=wk at *
    refine enterK (tb:=tb) Tryz.func197 rfl Tryz.ntmps197 rfl ?_
    repeat' (first|(apply R.is1;first|(apply R.isBin;(apply R.pure;exact rfl;(apply Ok1.eql_f;exact rfl;exact rfl;omega)))|(apply R.isCall;apply R.callP rfl rfl rfl hw)|(apply R.pure;exact rfl;first|(apply Ok1.move;exact rfl)|(apply Ok1.assign;exact rfl)))|apply R.nil|(apply T.is;first|apply T.seq|apply T.region|apply T.block|apply T.skip|apply T.ret|(apply T.cond_f;exact rfl)))
    all_goals (apply RetOk.tt;exact rfl;exact rfl)
    all_goals exact ⟨_,by (focus ((repeat' (exact Keep.nil _));done)),.inl ⟨by rw [hE];decide,by rw [hE],rfl⟩⟩
/-- What is wrong with what is to be written;its bytes. -/
def wrE (k to:Int) (n:Nat):Int:=if chE k to≠0 then chE k to else if 512 < n then 2 else 0
def wrT (s:List Int) (k:Int) (c:Cl) (to boot n:Int) (body:List Int):List Int:=if k=1 then zI 32 else pkT (chK s k to) k c to boot n body
def wrG (c:Cl) (s:List Int) (k to boot n:Int) (body:List Int):List Int:=pkB k c to boot n body (wrT s k c to boot n body)
theorem wrT_len (s:List Int) (k:Int) (c:Cl) (to boot n:Int) (body:List Int):(wrT s k c to boot n body).length=32:=by
  unfold wrT
  split
  · rfl
  · unfold pkT;exact hmac_len _ _
theorem way_kind {k:Int} (h:wayI k=1 ∨ wayI k=3):0 < k∧k < 15∧k≠2:=by
  unfold wayI at h
  (repeat' split at h)<;>omega
theorem chE_zero {k to:Int} (h:chE k to=0):(0 < k∧k < 15∧k≠2)∧0≤to∧to≤65535:=by
  unfold chE at h
  by_cases h1:wayI k=1
  · rw [if_pos h1] at h
    by_cases ht:0≤to∧to≤3
    · exact ⟨way_kind (.inl h1),by omega,by omega⟩
    · rw [if_neg ht] at h;exact absurd h (by decide)
  · rw [if_neg h1] at h
    by_cases h3:wayI k=3
    · rw [if_pos h3] at h
      by_cases ht:1≤to∧to≤65535
      · exact ⟨way_kind (.inr h3),by omega,by omega⟩
      · rw [if_neg ht] at h;exact absurd h (by decide)
    · rw [if_neg h3] at h;exact absurd h (by decide)
theorem wr_check {k to:Int} {n:Nat} (h:wrE k to n=0) {c:Cl} (hr:c.right) {boot cnt:Int} (hn:NR boot cnt) (s body:List Int):pckE k c to boot cnt n (wrT s k c to boot cnt body)=0:=by
  unfold wrE at h
  by_cases h0:chE k to=0
  · rw [if_neg (fun g=>g h0)] at h
    by_cases h5:512 < n
    · rw [if_pos h5] at h;exact absurd h (by decide)
    obtain ⟨hk,ht⟩:=chE_zero h0
    unfold pckE
    rw [if_neg (fun g=>g ⟨hk.1,hk.2.1⟩),if_neg (fun g=>g ⟨hr,ht.1,ht.2,hn⟩),if_neg h5]
    by_cases h1:k=1
    · have:wrT s k c to boot cnt body=zI 32:=by unfold wrT;rw [if_pos h1]
      rw [this,if_neg (fun g=>g.2 rfl)]
    · rw [if_neg (fun g=>by have:=g.1;omega)]
  · rw [if_pos h0] at h;exact absurd h h0
def ChWr (bn:Nat) (c:Cl) (s:List Int) (k to boot cnt:Int) (n:Nat) (body:List Int) (v:Value) (L:Lst):Prop:=(wrE k to n≠0∧v = .tuple #[.slice none 0 0,.int .i64 (wrE k to n)]∧L=[(bn,.cells ⟨[.int .i64 boot,.int .i64 cnt]⟩ 400 (0,0))]) ∨ (wrE k to n=0∧∃ ov,OvOk 1 ov (wrG c s k to boot (cnt+1) body).length (u8s (wrG c s k to boot (cnt+1) body))∧v = .tuple #[slV ov (wrG c s k to boot (cnt+1) body).length,.int .i64 0]∧L=(bn,.cells ⟨[.int .i64 boot,.int .i64 (cnt+1)]⟩ 400 (0,0))::blkL 5 ov (u8s (wrG c s k to boot (cnt+1) body)))
theorem chwriteG (bc bn br bb bd:Nat) (sd:List Value) (e1:TypeId) (f1:Nat × Nat) (c:Cl) (hr:c.right) (s:List Int) (hs:s.length=32) (hsb:Byt s) (m1 m2:Nat) (e:TypeId) (k to:Int) (boot cnt:Int) (hnr:NR boot (cnt+1)) (h0:0≤cnt) (p:Option Addr) (n cap:Nat) (body:List Int) (hn:n=body.length) (hbb:Byt body) (w:World) (hc:w.heap[bc]? = some (.cells ⟨chC bn br bb bd sd⟩ e1 f1)) (hb:w.heap[br]? = some (.cells ⟨ringC c s m1 m2⟩ e (0,0))) (hne1:bc≠bn) (hne2:br≠bn) (hbd:RdSl w p u8V body) (hq:body≠[]→Off p [bn]) :
    CallM Tryz.prog 104 [.pointer (some ⟨bc,0,none⟩),.int .i64 k,.int .i64 to,.slice p n cap] [(bn,.cells ⟨[.int .i64 boot,.int .i64 cnt]⟩ 400 (0,0))] w (ChWr bn c s k to boot cnt n body):=by
  have h3:cnt < 2147483647:=by unfold NR at hnr;omega
  have hm1:bc ∉ [bn]:=by simpa using hne1
  have hm2:br ∉ [bn]:=by simpa using hne2
  have hky:=fun w1 (h:Chg [bn] w w1)=>chkeyG bc bn br bb bd sd e1 f1 c s hs hsb m1 m2 e k to w1 (h.heap hc hm1) (h.heap hb hm2)
  by_cases hE0:chE k to=0
  case neg =>
    have hw:wrE k to n=chE k to:=by unfold wrE;rw [if_pos hE0]
    have hky2:=fun w1 h=>(hky w1 h).imp (R':=fun v L=>v = .tuple #[.pointer none,.int .i64 (chE k to)]∧L=[]) (by rintro v L (⟨_,g⟩|⟨g,_⟩);exact g;exact absurd g hE0)
    clear hky
    unfold ChWr
    rw [hw]
    generalize chE k to=E at *
    refine enterK (tb:=tb) Tryz.func104 rfl Tryz.ntmps104 rfl ?_
    repeat' (first|(apply R.is1;first|(apply R.isBin;(apply R.pure;exact rfl;first|(apply Ok1.eqlP;(iterate 5 exact rfl))|(apply Ok1.neq_t;exact rfl;exact rfl;omega)))|(apply R.isCall;(apply R.callE (vs:=[.pointer (some ⟨bc,0,none⟩),.int .i64 k,.int .i64 to]);(iterate 3 exact rfl);exact Ext.none _;intro w1 hw1;exact hky2 w1 hw1.chg;rintro x Lo ⟨rfl,rfl⟩))|(apply R.pure;exact rfl;first|(apply Ok1.move;exact rfl)|(apply Ok1.assign;exact rfl)|(apply Ok1.extract;exact rfl;exact rfl)))|apply R.nil|(apply T.is;first|apply T.seq|apply T.region|apply T.block|apply T.skip|apply T.ret|(apply T.cond_t;exact rfl)|(apply T.cond_f;exact rfl)))
    all_goals (apply RetOk.tt;exact rfl;exact rfl)
    all_goals exact ⟨_,by (focus (repeat' first|exact Keep.nil _|exact Ext.one _ _|apply Keep.cons);done),.inl ⟨hE0,rfl,rfl⟩⟩
  have hky2:=fun w1 h=>(hky w1 h).imp (R':=fun v L=>∃ bk' ov,v = .tuple #[.pointer (some ⟨bk',0,none⟩),.int .i64 0]∧OvOk 1 ov 32 (u8s (chK s k to))∧L=KL bk' ov (chK s k to)) (by rintro v L (⟨g,_⟩|⟨_,g⟩);exact absurd hE0 g;exact g)
  clear hky
  have hKl:=chK_len s k to
  have hKb:=chK_byt s k to
  by_cases h5:512 < n
  · have hw:wrE k to n=2:=by unfold wrE;rw [if_neg (fun g=>g hE0),if_pos h5]
    unfold ChWr
    rw [hw]
    generalize chK s k to=SD at *
    refine enterK (tb:=tb) Tryz.func104 rfl Tryz.ntmps104 rfl ?_
    repeat' (first|(apply R.is1;first|(apply R.isBin;(apply R.pure;exact rfl;first|(apply Ok1.eqlP;(iterate 5 exact rfl))|(apply Ok1.gtr_t;exact rfl;exact rfl;omega)|(apply Ok1.neq_f;exact rfl;exact rfl;omega)))|(apply R.isCall;first|(apply R.callE (vs:=[.pointer (some ⟨bc,0,none⟩),.int .i64 k,.int .i64 to]);(iterate 3 exact rfl);exact Ext.none _;intro w1 hw1;exact hky2 w1 hw1.chg;rintro x Lo ⟨bk,ovk,rfl,hovk,rfl⟩)|(apply R.pure;exact rfl;(apply Ok1.lenS;(iterate 3 exact rfl))))|(apply R.pure;exact rfl;first|(apply Ok1.move;exact rfl)|(apply Ok1.assign;exact rfl)|(apply Ok1.extract;exact rfl;exact rfl)))|apply R.nil|(apply T.is;first|apply T.seq|apply T.region|apply T.block|apply T.skip|apply T.ret|(apply T.cond_t;exact rfl)|(apply T.cond_f;exact rfl)))
    all_goals (apply RetOk.tt;exact rfl;exact rfl)
    all_goals exact ⟨_,by (focus (repeat' first|exact Keep.nil _|exact Ext.one _ _|apply Keep.cons|apply Ext.cons|apply Ext.app);done),.inl ⟨by decide,rfl,rfl⟩⟩
  have hw:wrE k to n=0:=by unfold wrE;rw [if_neg (fun g=>g hE0),if_neg h5]
  have hck:=wr_check hw hr hnr s body
  have hwl:=wrT_len s k c to boot (cnt+1) body
  obtain ⟨hkk,htt⟩:=chE_zero hE0
  have hz:(zI 32).length=32:=rfl
  have how:=fun w1 (h:Chg [bn] w w1)=>chown_ok bc bn br bb bd sd e1 f1 c s hs m1 m2 e w1 (h.heap hc hm1) (h.heap hb hm2)
  have hpl:=pplain_ok k
  unfold ChWr
  rw [hw]
  unfold wrG
  by_cases h1:k=1
  · have hT:wrT s k c to boot (cnt+1) body=zI 32:=by unfold wrT;rw [if_pos h1]
    rw [hT] at hck ⊢
    rw [decide_eq_true (.inl h1)] at hpl
    have hby:=fun w1 (h:Chg [bn] w w1)=>pbytes_ok k c to boot (cnt+1) p n cap (zI 32) body hz hck hn w1 (hbd.chg' h hq)
    have hl1:=pk_len k c to boot (cnt+1) p n cap hz
    have ho1:=pk_one k c to boot (cnt+1) p n cap (zI 32)
    generalize pkB k c to boot (cnt+1) body (zI 32)=PB at *
    generalize chK s k to=SD at *
    refine enterK (tb:=tb) Tryz.func104 rfl Tryz.ntmps104 rfl ?_
    simp only [pkC] at hl1 ho1 hby
    repeat' (first|(apply R.is1;first|(apply R.isBin;(apply R.pure;exact rfl;first|(apply Ok1.eqlP;(iterate 5 exact rfl))|(apply Ok1.gtr_f;exact rfl;exact rfl;omega)|(apply Ok1.neq_f;exact rfl;exact rfl;omega)))|(apply R.isCall;first|(apply R.callE (vs:=[.pointer (some ⟨bc,0,none⟩),.int .i64 k,.int .i64 to]);(iterate 3 exact rfl);exact Ext.none _;intro w1 hw1;exact hky2 w1 hw1.chg;rintro x Lo ⟨bk,ovk,rfl,hovk,rfl⟩)|(apply R.pure;exact rfl;(apply Ok1.lenS;(iterate 3 exact rfl))))|(apply R.pure;exact rfl;first|(apply Ok1.load;exact rfl;(apply Ld.blk1;exact rfl;exact rfl;exact hc;exact hm1;exact rfl))|(apply Ok1.move;exact rfl)|(apply Ok1.fieldAddr;(iterate 5 exact rfl))|(apply Ok1.assign;exact rfl)|(apply Ok1.extract;exact rfl;exact rfl)|(apply Ok1.nilCheck;exact rfl)))|apply R.nil|(apply T.is;first|apply T.seq|apply T.region|apply T.block|apply T.skip|(apply T.cond_f;exact rfl)))
    generalize KL bk ovk SD=KK at *
    repeat' (first|(apply R.is1;first|(apply R.isBin;(apply R.pure;exact rfl;(apply Ok1.neq_f;exact rfl;exact rfl;omega)))|(apply R.isCall;(apply R.callE (Li:=[(bn,.cells ⟨[.int .i64 boot,.int .i64 cnt]⟩ 400 (0,0))]) (vs:=[.pointer (some ⟨bn,0,none⟩)]);(iterate 3 exact rfl);(focus (repeat' first|exact Ext.one _ _|apply Ext.app);done);intro w1 hw1;exact wnext_ok bn boot cnt h0 h3 w1;rintro x Lo ⟨rfl,rfl⟩))|(apply R.pure;exact rfl;first|(apply Ok1.move;exact rfl)|(apply Ok1.assign;exact rfl)|(apply Ok1.extract;exact rfl;exact rfl))|(apply R.alloc;(iterate 3 exact rfl);intro))|(apply R.is0;(apply R.store;(iterate 6 exact rfl);exact Upd.head;exact rfl))|apply R.nil|(apply T.is;first|(apply T.drawC (id:=11) [0] (by decide);((apply A.tk 0;exact rfl;kernel_rfl;(apply Ok1.move;exact rfl))<;>(apply A.tk 1;exact rfl;kernel_rfl;(apply Ok1.move;exact rfl))<;>(apply A.tk 3;exact rfl;kernel_rfl;(apply Ok1.move;exact rfl))<;>(apply A.tk 4;exact rfl;kernel_rfl;(apply Ok1.load;exact rfl;(apply Ld.ownk;exact rfl;exact rfl;exact At.head;exact rfl)))<;>(apply A.tk 5;exact rfl;kernel_rfl;(apply Ok1.move;exact rfl))<;>(apply A.two 2 7;kernel_rfl;exact rfl;exact rfl;rotate_left 1;(focus (((((apply R.alloc;(iterate 3 exact rfl);intro)));apply R.nil;refine ⟨?_,?_⟩;(focus (repeat' first|exact trivial|exact At.head|apply At.tail|refine ⟨?_,?_⟩)))<;>(apply A.one 2;kernel_rfl;exact rfl;(((apply R.callE (vs:=[.pointer (some ⟨bc,0,none⟩)]);(iterate 3 exact rfl);exact Ext.none _;intro w1 hw1;exact how w1 hw1.chg;rintro x Lo ⟨rfl,rfl⟩)));apply R.nil;refine ⟨?_,?_⟩;(focus (repeat' first|exact trivial|exact At.head|apply At.tail|refine ⟨?_,?_⟩)))<;>(apply A.tk 6;exact rfl;kernel_rfl;(apply Ok1.build;(iterate 5 exact rfl)))<;>(apply A.one 8;kernel_rfl;exact rfl;(((apply R.store;(iterate 6 exact rfl);exact Upd.head;exact rfl)));apply R.nil;refine ⟨?_,?_⟩;(focus (repeat' first|exact trivial|exact At.head|apply At.tail|refine ⟨?_,?_⟩)))<;>(apply A.done;kernel_rfl)));rotate_right 1;(focus (((((apply R.callE (vs:=[.pointer (some ⟨bc,0,none⟩)]);(iterate 3 exact rfl);exact Ext.none _;intro w1 hw1;exact how w1 hw1.chg;rintro x Lo ⟨rfl,rfl⟩)));apply R.nil;refine ⟨?_,?_⟩;(focus ((repeat' (first|exact trivial|(refine ⟨?_,?_⟩;exact At.head))))))<;>(apply A.tk 6;exact rfl;kernel_rfl;(apply Ok1.build;(iterate 5 exact rfl)))<;>(apply A.one 7;kernel_rfl;exact rfl;(((apply R.alloc;(iterate 3 exact rfl);intro)));apply R.nil;refine ⟨?_,?_⟩;(focus (repeat' first|exact trivial|exact At.head|apply At.tail|refine ⟨?_,?_⟩)))<;>(apply A.one 8;kernel_rfl;exact rfl;(((apply R.store;(iterate 6 exact rfl);exact Upd.head;exact rfl)));apply R.nil;refine ⟨?_,?_⟩;(focus (repeat' first|exact trivial|exact At.head|apply At.tail|refine ⟨?_,?_⟩)))<;>(apply A.done;kernel_rfl))))))|apply T.seq|apply T.region|apply T.skip|(apply T.cond_f;exact rfl)))
    all_goals repeat' (first|(apply R.is1;first|(apply R.isCall;first|apply R.callP rfl rfl rfl hpl|(apply R.callE (vs:=[.agg _]);(iterate 3 exact rfl);exact Ext.none _;intro w1 hw1;exact hby w1 hw1.chg;rintro x Lo ⟨ovb,hovb,rfl,rfl⟩))|(apply R.pure;exact rfl;first|(apply Ok1.load;exact rfl;(apply Ld.ownk;exact rfl;exact rfl;exact At.head;exact rfl))|(apply Ok1.assign;exact rfl)|(apply Ok1.extract;exact rfl;exact rfl)|(apply Ok1.not_t;exact rfl)))|apply R.nil|(apply T.is;first|apply T.seq|apply T.region|apply T.skip|apply T.ret|(apply T.cond_f;exact rfl)))
    all_goals (apply RetOk.tt;exact rfl;exact rfl)
    all_goals exact ⟨_,by (focus (repeat' first|exact Ext.one _ _|exact Ext.here _ _|apply Keep.cons|apply Keep.last|apply Ext.cons|apply Ext.app);done),.inr ⟨rfl,ovb,hovb,rfl,rfl⟩⟩
  · have hT:wrT s k c to boot (cnt+1) body=pkT (chK s k to) k c to boot (cnt+1) body:=by unfold wrT;rw [if_neg h1]
    have hnp:¬ (k=1 ∨ k=2):=by omega
    have hE:pckE k c to boot (cnt+1) n (zI 32)=0:=by rw [pckE_np _ (wrT s k c to boot (cnt+1) body) hnp];exact hck
    rw [hT] at hck hwl ⊢
    rw [decide_eq_false hnp] at hpl
    have htg:=fun bk w1 (h:Chg [bn] w w1) hK=>ptagged_ok k c to boot (cnt+1) p n cap (zI 32) body hz hnp hE hn hbb bk (chK s k to) (by rw [hKl];decide) hKb w1 hK (hbd.chg' h hq)
    have hby:=fun p2 cap2 w1 h=>pbytes_ok k c to boot (cnt+1) p2 n cap2 (pkT (chK s k to) k c to boot (cnt+1) body) body hwl hck hn w1 h
    have hl1:=fun p2 cap2=>pk_len k c to boot (cnt+1) p2 n cap2 hwl
    have ho1:=fun p2 cap2=>pk_one k c to boot (cnt+1) p2 n cap2 (pkT (chK s k to) k c to boot (cnt+1) body)
    generalize pkT (chK s k to) k c to boot (cnt+1) body=TG at *
    generalize pkB k c to boot (cnt+1) body TG=PB at *
    generalize hSD:chK s k to=SD at *
    refine enterK (tb:=tb) Tryz.func104 rfl Tryz.ntmps104 rfl ?_
    simp only [pkC] at hl1 ho1 htg hby
    repeat' (first|(apply R.is1;first|(apply R.isBin;(apply R.pure;exact rfl;first|(apply Ok1.eqlP;(iterate 5 exact rfl))|(apply Ok1.gtr_f;exact rfl;exact rfl;omega)|(apply Ok1.neq_f;exact rfl;exact rfl;omega)))|(apply R.isCall;first|(apply R.callE (vs:=[.pointer (some ⟨bc,0,none⟩),.int .i64 k,.int .i64 to]);(iterate 3 exact rfl);exact Ext.none _;intro w1 hw1;exact hky2 w1 hw1.chg;rintro x Lo ⟨bk,ovk,rfl,hovk,rfl⟩)|(apply R.pure;exact rfl;(apply Ok1.lenS;(iterate 3 exact rfl))))|(apply R.pure;exact rfl;first|(apply Ok1.load;exact rfl;(apply Ld.blk1;exact rfl;exact rfl;exact hc;exact hm1;exact rfl))|(apply Ok1.move;exact rfl)|(apply Ok1.fieldAddr;(iterate 5 exact rfl))|(apply Ok1.assign;exact rfl)|(apply Ok1.extract;exact rfl;exact rfl)|(apply Ok1.nilCheck;exact rfl)))|apply R.nil|(apply T.is;first|apply T.seq|apply T.region|apply T.block|apply T.skip|(apply T.cond_f;exact rfl)))
    have hovk2:OvOk 1 ovk SD.length (u8s SD):=by rw [hKl];exact hovk
    have hkr:∀ L w1,Hp w [bn] L w1→(∀ z∈KL bk ovk SD,z∈L)→KeyR w1 bk SD:=fun L w1 h4 h5=>KeyR.of hovk2 h4 h5
    generalize KL bk ovk SD=KK at hkr ⊢
    repeat' (first|(apply R.is1;first|(apply R.isBin;(apply R.pure;exact rfl;(apply Ok1.neq_f;exact rfl;exact rfl;omega)))|(apply R.isCall;(apply R.callE (Li:=[(bn,.cells ⟨[.int .i64 boot,.int .i64 cnt]⟩ 400 (0,0))]) (vs:=[.pointer (some ⟨bn,0,none⟩)]);(iterate 3 exact rfl);(focus (repeat' first|exact Ext.one _ _|apply Ext.app);done);intro w1 hw1;exact wnext_ok bn boot cnt h0 h3 w1;rintro x Lo ⟨rfl,rfl⟩))|(apply R.pure;exact rfl;first|(apply Ok1.move;exact rfl)|(apply Ok1.assign;exact rfl)|(apply Ok1.extract;exact rfl;exact rfl))|(apply R.alloc;(iterate 3 exact rfl);intro))|(apply R.is0;(apply R.store;(iterate 6 exact rfl);exact Upd.head;exact rfl))|apply R.nil|(apply T.is;first|(apply T.drawC (id:=11) [0] (by decide);((apply A.tk 0;exact rfl;kernel_rfl;(apply Ok1.move;exact rfl))<;>(apply A.tk 1;exact rfl;kernel_rfl;(apply Ok1.move;exact rfl))<;>(apply A.tk 3;exact rfl;kernel_rfl;(apply Ok1.move;exact rfl))<;>(apply A.tk 4;exact rfl;kernel_rfl;(apply Ok1.load;exact rfl;(apply Ld.ownk;exact rfl;exact rfl;exact At.head;exact rfl)))<;>(apply A.tk 5;exact rfl;kernel_rfl;(apply Ok1.move;exact rfl))<;>(apply A.two 2 7;kernel_rfl;exact rfl;exact rfl;rotate_left 1;(focus (((((apply R.alloc;(iterate 3 exact rfl);intro)));apply R.nil;refine ⟨?_,?_⟩;(focus (repeat' first|exact trivial|exact At.head|apply At.tail|refine ⟨?_,?_⟩)))<;>(apply A.one 2;kernel_rfl;exact rfl;(((apply R.callE (vs:=[.pointer (some ⟨bc,0,none⟩)]);(iterate 3 exact rfl);exact Ext.none _;intro w1 hw1;exact how w1 hw1.chg;rintro x Lo ⟨rfl,rfl⟩)));apply R.nil;refine ⟨?_,?_⟩;(focus (repeat' first|exact trivial|exact At.head|apply At.tail|refine ⟨?_,?_⟩)))<;>(apply A.tk 6;exact rfl;kernel_rfl;(apply Ok1.build;(iterate 5 exact rfl)))<;>(apply A.one 8;kernel_rfl;exact rfl;(((apply R.store;(iterate 6 exact rfl);exact Upd.head;exact rfl)));apply R.nil;refine ⟨?_,?_⟩;(focus (repeat' first|exact trivial|exact At.head|apply At.tail|refine ⟨?_,?_⟩)))<;>(apply A.done;kernel_rfl)));rotate_right 1;(focus (((((apply R.callE (vs:=[.pointer (some ⟨bc,0,none⟩)]);(iterate 3 exact rfl);exact Ext.none _;intro w1 hw1;exact how w1 hw1.chg;rintro x Lo ⟨rfl,rfl⟩)));apply R.nil;refine ⟨?_,?_⟩;(focus ((repeat' (first|exact trivial|(refine ⟨?_,?_⟩;exact At.head))))))<;>(apply A.tk 6;exact rfl;kernel_rfl;(apply Ok1.build;(iterate 5 exact rfl)))<;>(apply A.one 7;kernel_rfl;exact rfl;(((apply R.alloc;(iterate 3 exact rfl);intro)));apply R.nil;refine ⟨?_,?_⟩;(focus (repeat' first|exact trivial|exact At.head|apply At.tail|refine ⟨?_,?_⟩)))<;>(apply A.one 8;kernel_rfl;exact rfl;(((apply R.store;(iterate 6 exact rfl);exact Upd.head;exact rfl)));apply R.nil;refine ⟨?_,?_⟩;(focus (repeat' first|exact trivial|exact At.head|apply At.tail|refine ⟨?_,?_⟩)))<;>(apply A.done;kernel_rfl))))))|apply T.seq|apply T.region|apply T.skip|(apply T.cond_f;exact rfl)))
    all_goals repeat' (first|(apply R.is1;first|(apply R.isBin;(apply R.pure;exact rfl;(apply Ok1.neq_f;exact rfl;exact rfl;omega)))|(apply R.isCall;first|apply R.callP rfl rfl rfl hpl|(apply R.callE (vs:=[.agg _,.pointer (some ⟨bk,0,none⟩)]);(iterate 3 exact rfl);exact Ext.none _;intro w1 hw1;exact htg bk w1 hw1.chg (hkr _ w1 hw1 (Ext.mem (by (focus (repeat' first|exact Ext.here _ _|apply Ext.cons|apply Ext.app);done))));rintro x Lo ⟨ovt,hovt,rfl,rfl⟩)|(apply R.callE (vs:=[.agg _]);(iterate 3 exact rfl);exact Ext.none _;intro w1 hw1;exact hby (ovp ovt) (ovc ovt n) w1 (RdSl.own' hw1 (Ext.mem (by rw [fl_u8];(focus ((repeat' (exact Ext.here _ _));done)))) (by rw [fl_u8,← hn];exact hovt) u8V_len);rintro x Lo ⟨ovb,hovb,rfl,rfl⟩))|(apply R.pure;exact rfl;first|(apply Ok1.load;exact rfl;first|(apply Ld.ownk;exact rfl;exact rfl;(focus (repeat' first|exact At.head|apply At.right);done);exact rfl)|(apply Ld.ownk;exact rfl;exact rfl;(focus (repeat' first|exact At.head|apply At.right);done);exact subE_all (hl1 _ _)))|(apply Ok1.move;exact rfl)|(apply Ok1.assign;exact rfl)|(apply Ok1.extract;exact rfl;exact rfl)|(apply Ok1.not_f;exact rfl)))|(apply R.is0;(apply R.store;(iterate 4 exact rfl);exact (hl1 _ _);exact (ho1 _ _);(focus (repeat' first|exact Upd.head|apply Upd.right);done);exact setE_all (hl1 _ _)))|apply R.nil|(apply T.is;first|apply T.seq|apply T.region|apply T.skip|apply T.ret|(apply T.cond_t;exact rfl)|(apply T.cond_f;exact rfl)))
    all_goals (apply RetOk.tt;exact rfl;exact rfl)
    all_goals exact ⟨_,by (focus (repeat' first|exact Ext.one _ _|exact Ext.here _ _|apply Keep.cons|apply Keep.last|apply Ext.cons|apply Ext.app);done),.inr ⟨rfl,ovb,hovb,rfl,rfl⟩⟩
/-- A joiner's cells. -/
def jnC (bc:Nat) (S st sd la:Int) (q:Option Addr) (m cap:Nat):List Value:=[.pointer (some ⟨bc,0,none⟩),.int .i64 S,.int .i64 st,.int .i64 sd,.int .i64 la,.slice q m cap]
def JN (bj bc:Nat) (S st sd la:Int) (q:Option Addr) (m cap:Nat):Nat × Obj:=(bj,.cells ⟨jnC bc S st sd la q m cap⟩ 184 (0,0))
/-- A counter's block. -/
def CN (bn:Nat) (boot cnt:Int):Nat × Obj:=(bn,.cells ⟨[.int .i64 boot,.int .i64 cnt]⟩ 400 (0,0))
theorem jnew_ok (bc:Nat) (S:Int) (h1:1≤S) (h2:S≤4) (w:World):CallM Tryz.prog 77 [.pointer (some ⟨bc,0,none⟩),.int .i64 S] [] w fun v L=>∃ bj,v = .tuple #[.pointer (some ⟨bj,0,none⟩),.int .i64 0]∧L=[JN bj bc S 0 0 0 none 0 0]:=by
  refine enterK (tb:=tb) Tryz.func77 rfl Tryz.ntmps77 rfl ?_
  repeat' (first|(apply R.is1;first|(apply R.isBin;(apply R.pure;exact rfl;first|(apply Ok1.eqlP;(iterate 5 exact rfl))|(apply Ok1.lss_f;exact rfl;exact rfl;omega)|(apply Ok1.gtr_f;exact rfl;exact rfl;omega)))|(apply R.pure;exact rfl;first|(apply Ok1.move;exact rfl)|(apply Ok1.assign;exact rfl)|(apply Ok1.build;(iterate 5 exact rfl))|(apply Ok1.pick_f;exact rfl;exact rfl))|(apply R.box;(iterate 3 exact rfl);intro))|(apply R.isG;(apply R.guard_run;exact rfl;exact rfl))|apply R.nil|(apply T.is;first|apply T.seq|apply T.region|apply T.skip|apply T.ret|(apply T.cond_f;exact rfl)))
  (apply RetOk.tt;exact rfl;exact rfl)
  exact ⟨_,by unfold JN jnC;(focus (repeat' first|exact Keep.nil _|exact Ext.one _ _|apply Keep.cons);done),_,rfl,rfl⟩
theorem jnew_bad (q:Option Addr) (S:Int) (h:S < 1 ∨ 4 < S):CallP Tryz.prog 77 [.pointer q,.int .i64 S] (.tuple #[.pointer none,.int .i64 1]):=by
  cases q
  all_goals
    refine enterP (tb:=tb) Tryz.func77 rfl Tryz.ntmps77 rfl fun w=>?_
    repeat' (first|(apply R.is1;first|(apply R.isBin;first|(apply R.pure;exact rfl;first|(apply Ok1.eqlP;(iterate 5 exact rfl))|(apply Ok1.gtr_t;exact rfl;exact rfl;omega))|(apply R.lss rfl rfl rfl<;>intro))|(apply R.pure;exact rfl;first|(apply Ok1.move;exact rfl)|(apply Ok1.assign;exact rfl)|(apply Ok1.pick_t;exact rfl;exact rfl)|(apply Ok1.pick_f;exact rfl;exact rfl)))|(apply R.isG;first|(apply R.guard_run;exact rfl;exact rfl)|(apply R.guard_not;(iterate 3 exact rfl)))|apply R.nil|(apply T.is;first|apply T.seq|apply T.region|apply T.ret|(apply T.cond_t;exact rfl)))
    all_goals (apply RetOk.tt;exact rfl;exact rfl)
    all_goals rfl
theorem jstate_ok (bj bc:Nat) (S st sd la:Int) (q:Option Addr) (m cap:Nat) (w:World) (h:∃ e f,w.heap[bj]? = some (.cells ⟨jnC bc S st sd la q m cap⟩ e f)):CallW Tryz.prog 34 [.pointer (some ⟨bj,0,none⟩)] w fun v _=>v = .int .i64 st:=by
  obtain ⟨e,f,h⟩:=h
  unfold jnC at h
  refine enterW (tb:=tb) Tryz.func34 rfl Tryz.ntmps34 rfl ?_
  repeat' (first|(apply R.is1;first|(apply R.isBin;(apply R.pure;exact rfl;(apply Ok1.eqlP;(iterate 5 exact rfl))))|(apply R.pure;exact rfl;first|(apply Ok1.load;exact rfl;(apply Ld.blk1;exact rfl;exact rfl;exact h;exact List.not_mem_nil;exact rfl))|(apply Ok1.move;exact rfl)|(apply Ok1.fieldAddr;(iterate 5 exact rfl))|(apply Ok1.assign;exact rfl)|(apply Ok1.nilCheck;exact rfl)))|apply R.nil|(apply T.is;first|apply T.seq|apply T.region|apply T.skip|apply T.ret|(apply T.cond_f;exact rfl)))
  (apply RetOk.t;exact rfl)
  rfl
theorem jseed_ok (bj bc:Nat) (S st sd la:Int) (q:Option Addr) (m cap:Nat) (w:World) (h:∃ e f,w.heap[bj]? = some (.cells ⟨jnC bc S st sd la q m cap⟩ e f)):CallW Tryz.prog 106 [.pointer (some ⟨bj,0,none⟩)] w fun v _=>v = .int .i64 sd:=by
  obtain ⟨e,f,h⟩:=h
  unfold jnC at h
  refine enterW (tb:=tb) Tryz.func106 rfl Tryz.ntmps106 rfl ?_
  repeat' (first|(apply R.is1;first|(apply R.isBin;(apply R.pure;exact rfl;(apply Ok1.eqlP;(iterate 5 exact rfl))))|(apply R.pure;exact rfl;first|(apply Ok1.load;exact rfl;(apply Ld.blk1;exact rfl;exact rfl;exact h;exact List.not_mem_nil;exact rfl))|(apply Ok1.move;exact rfl)|(apply Ok1.fieldAddr;(iterate 5 exact rfl))|(apply Ok1.assign;exact rfl)|(apply Ok1.nilCheck;exact rfl)))|apply R.nil|(apply T.is;first|apply T.seq|apply T.region|apply T.skip|apply T.ret|(apply T.cond_f;exact rfl)))
  (apply RetOk.t;exact rfl)
  rfl
/-- What is wrong with a start. -/
def jstE (S st seed:Int):Int:=if seed < 0 ∨ S≤seed then 10 else if st=3 then 11 else 0
/-- What a packet of a kind that is written holds. -/
def Wrote (c:Cl) (s:List Int) (k to boot cnt:Int) (body:List Int) (v:Value) (e:Value) (L:Lst):Prop:=∃ ov,OvOk 1 ov (wrG c s k to boot cnt body).length (u8s (wrG c s k to boot cnt body))∧v = .tuple #[slV ov (wrG c s k to boot cnt body).length,e]∧L=blkL 5 ov (u8s (wrG c s k to boot cnt body))
def JStart (bj bc bn:Nat) (c:Cl) (s:List Int) (S st sd la:Int) (q:Option Addr) (m cap:Nat) (boot cnt seed tick:Int) (v:Value) (L:Lst):Prop:=(jstE S st seed≠0∧v = .tuple #[.slice none 0 0,.int .i64 (jstE S st seed)]∧L=[JN bj bc S st sd la q m cap,CN bn boot cnt]) ∨ (jstE S st seed=0∧∃ Lo,Wrote c s 1 seed boot (cnt+1) [] v (.int .i64 0) Lo∧L=JN bj bc S 1 seed tick q m cap::CN bn boot (cnt+1)::Lo)
theorem jstart_ok (bj bc bn br bb bd:Nat) (sd0:List Value) (e1:TypeId) (f1:Nat × Nat) (c:Cl) (hr:c.right) (s:List Int) (hs:s.length=32) (hsb:Byt s) (m1 m2:Nat) (e:TypeId) (S st sd la:Int) (hS:S≤4) (q:Option Addr) (m cap:Nat) (boot cnt:Int) (hnr:NR boot (cnt+1)) (h0:0≤cnt) (seed tick:Int) (w:World) (hc:w.heap[bc]? = some (.cells ⟨chC bn br bb bd sd0⟩ e1 f1)) (hb:w.heap[br]? = some (.cells ⟨ringC c s m1 m2⟩ e (0,0))) (hne1:bc ∉ [bj,bn]) (hne2:br ∉ [bj,bn]) :
    CallM Tryz.prog 36 [.pointer (some ⟨bj,0,none⟩),.int .i64 seed,.int .i64 tick] [JN bj bc S st sd la q m cap,CN bn boot cnt] w (JStart bj bc bn c s S st sd la q m cap boot cnt seed tick):=by
  simp only [List.mem_cons,List.not_mem_nil,or_false,not_or] at hne1 hne2
  by_cases hE:seed < 0 ∨ S≤seed
  · have hj:jstE S st seed=10:=by unfold jstE;rw [if_pos hE]
    unfold JStart
    rw [hj]
    unfold JN jnC CN
    refine enterK (tb:=tb) Tryz.func36 rfl Tryz.ntmps36 rfl ?_
    repeat' (first|(apply R.is1;first|(apply R.isBin;first|(apply R.pure;exact rfl;first|(apply Ok1.eqlP;(iterate 5 exact rfl))|(apply Ok1.geq_t;exact rfl;exact rfl;omega))|(apply R.lss rfl rfl rfl<;>intro))|(apply R.pure;exact rfl;first|(apply Ok1.move;exact rfl)|(apply Ok1.fieldAddr;(iterate 5 exact rfl))|(apply Ok1.load;exact rfl;(apply Ld.own1;exact rfl;exact rfl;exact At.head;exact rfl))|(apply Ok1.assign;exact rfl)|(apply Ok1.pick_t;exact rfl;exact rfl)|(apply Ok1.pick_f;exact rfl;exact rfl)|(apply Ok1.nilCheck;exact rfl)))|(apply R.isG;first|(apply R.guard_run;exact rfl;exact rfl)|(apply R.guard_not;(iterate 3 exact rfl)))|apply R.nil|(apply T.is;first|apply T.seq|apply T.region|apply T.block|apply T.ret|(apply T.cond_t;exact rfl)|(apply T.cond_f;exact rfl)))
    all_goals (apply RetOk.tt;exact rfl;exact rfl)
    all_goals exact ⟨_,by (focus (repeat' first|exact Keep.nil _|exact Ext.one _ _|apply Keep.cons);done),.inl ⟨by decide,rfl,rfl⟩⟩
  by_cases h3:st=3
  · have hj:jstE S st seed=11:=by unfold jstE;rw [if_neg hE,if_pos h3]
    unfold JStart
    rw [hj]
    unfold JN jnC CN
    refine enterK (tb:=tb) Tryz.func36 rfl Tryz.ntmps36 rfl ?_
    repeat' (first|(apply R.is1;first|(apply R.isBin;(apply R.pure;exact rfl;first|(apply Ok1.eqlP;(iterate 5 exact rfl))|(apply Ok1.lss_f;exact rfl;exact rfl;omega)|(apply Ok1.geq_f;exact rfl;exact rfl;omega)|(apply Ok1.eql_t;exact rfl;exact rfl;omega)))|(apply R.pure;exact rfl;first|(apply Ok1.move;exact rfl)|(apply Ok1.fieldAddr;(iterate 5 exact rfl))|(apply Ok1.load;exact rfl;(apply Ld.own1;exact rfl;exact rfl;exact At.head;exact rfl))|(apply Ok1.assign;exact rfl)|(apply Ok1.pick_f;exact rfl;exact rfl)|(apply Ok1.nilCheck;exact rfl)))|(apply R.isG;(apply R.guard_run;exact rfl;exact rfl))|apply R.nil|(apply T.is;first|apply T.seq|apply T.region|apply T.block|apply T.ret|(apply T.cond_t;exact rfl)|(apply T.cond_f;exact rfl)))
    all_goals (apply RetOk.tt;exact rfl;exact rfl)
    all_goals exact ⟨_,by (focus (repeat' first|exact Keep.nil _|exact Ext.one _ _|apply Keep.cons);done),.inl ⟨by decide,rfl,rfl⟩⟩
  have hj:jstE S st seed=0:=by unfold jstE;rw [if_neg hE,if_neg h3]
  have hw0:wrE 1 seed 0=0:=by
    have:chE 1 seed=0:=by unfold chE;rw [if_pos (by decide),if_pos (by omega)]
    unfold wrE;rw [if_neg (fun g=>g this),if_neg (by decide)]
  have hwr:=fun w1 (h:Chg [bj,bn] w w1)=>(chwriteG bc bn br bb bd sd0 e1 f1 c hr s hs hsb m1 m2 e 1 seed boot cnt hnr h0 none 0 0 [] rfl byt_nil w1 (h.heap hc (by simpa using hne1)) (h.heap hb (by simpa using hne2)) hne1.2 hne2.2 (.inl rfl) (fun g=>absurd rfl g)).wk (R':=fun v L=>∃ Lo,Wrote c s 1 seed boot (cnt+1) [] v (.int .i64 0) Lo∧L=CN bn boot (cnt+1)::Lo) (by
    rintro v L (⟨g,_⟩|⟨_,ov,g1,g2,g3⟩)
    · exact absurd hw0 g
    · exact ⟨_,⟨ov,g1,g2,rfl⟩,g3⟩)
  unfold JStart
  rw [hj]
  unfold Wrote at hwr ⊢
  generalize wrG c s 1 seed boot (cnt+1) []=G at *
  unfold JN jnC CN at *
  refine enterK (tb:=tb) Tryz.func36 rfl Tryz.ntmps36 rfl ?_
  repeat' (first|(apply R.is1;first|(apply R.isBin;(apply R.pure;exact rfl;first|(apply Ok1.eqlP;(iterate 5 exact rfl))|(apply Ok1.lss_f;exact rfl;exact rfl;omega)|(apply Ok1.geq_f;exact rfl;exact rfl;omega)|(apply Ok1.eql_f;exact rfl;exact rfl;omega)|(apply Ok1.neq_f;exact rfl;exact rfl;omega)))|(apply R.isCall;(apply R.callE (Li:=[(bn,.cells ⟨[.int .i64 boot,.int .i64 cnt]⟩ 400 (0,0))]) (vs:=[.pointer (some ⟨bc,0,none⟩),.int .i64 1,.int .i64 seed,.slice none 0 0]);(iterate 3 exact rfl);(focus (repeat' first|exact Ext.one _ _|apply Ext.cons);done);intro w1 hw1;exact hwr w1 hw1.chg;rintro v Lo ⟨Lw,⟨ovw,hovw,rfl,rfl⟩,rfl⟩))|(apply R.pure;exact rfl;first|(apply Ok1.move;exact rfl)|(apply Ok1.fieldAddr;(iterate 5 exact rfl))|(apply Ok1.load;exact rfl;(apply Ld.own1;exact rfl;exact rfl;exact At.head;exact rfl))|(apply Ok1.assign;exact rfl)|(apply Ok1.extract;exact rfl;exact rfl)|(apply Ok1.pick_f;exact rfl;exact rfl)|(apply Ok1.nilCheck;exact rfl)))|(apply R.is0;(apply R.store;(iterate 6 exact rfl);(focus (repeat' first|exact Upd.head|apply Upd.tail|apply Upd.right);done);exact rfl))|(apply R.isG;(apply R.guard_run;exact rfl;exact rfl))|apply R.nil|(apply T.is;first|apply T.seq|apply T.region|apply T.block|apply T.skip|apply T.ret|(apply T.cond_f;exact rfl)))
  all_goals (apply RetOk.tt;exact rfl;exact rfl)
  all_goals exact ⟨_,by (focus (repeat' first|exact Ext.one _ _|exact Ext.here _ _|apply Keep.cons|apply Keep.last|apply Ext.cons|apply Ext.app);done),.inr ⟨rfl,_,⟨ovw,hovw,rfl,rfl⟩,rfl⟩⟩
def JDue (bj bc bn:Nat) (c:Cl) (s:List Int) (S st sd la:Int) (q:Option Addr) (m cap:Nat) (boot cnt tick:Int) (v:Value) (L:Lst):Prop:=((st=0 ∨ st=3 ∨ tick < la+16)∧v = .tuple #[.slice none 0 0,.bool false]∧L=[JN bj bc S st sd la q m cap,CN bn boot cnt]) ∨ (¬ (st=0 ∨ st=3 ∨ tick < la+16)∧∃ Lo,Wrote c s 1 ((sd+1) % S) boot (cnt+1) [] v (.bool true) Lo∧L=JN bj bc S 1 ((sd+1) % S) tick q m cap::CN bn boot (cnt+1)::Lo)
theorem jdue_ok (bj bc bn br bb bd:Nat) (sd0:List Value) (e1:TypeId) (f1:Nat × Nat) (c:Cl) (hr:c.right) (s:List Int) (hs:s.length=32) (hsb:Byt s) (m1 m2:Nat) (e:TypeId) (S st sd la:Int) (hS1:1≤S) (hS:S≤4) (hd1:0≤sd) (hd2:sd≤1000) (hl1:0≤la) (hl2:la≤2000000000) (q:Option Addr) (m cap:Nat) (boot cnt:Int) (hnr:NR boot (cnt+1)) (h0:0≤cnt) (tick:Int) (w:World) (hc:w.heap[bc]? = some (.cells ⟨chC bn br bb bd sd0⟩ e1 f1)) (hb:w.heap[br]? = some (.cells ⟨ringC c s m1 m2⟩ e (0,0))) (hne1:bc ∉ [bj,bn]) (hne2:br ∉ [bj,bn]) :
    CallM Tryz.prog 40 [.pointer (some ⟨bj,0,none⟩),.int .i64 tick] [JN bj bc S st sd la q m cap,CN bn boot cnt] w (JDue bj bc bn c s S st sd la q m cap boot cnt tick):=by
  by_cases hE:st=0 ∨ st=3 ∨ tick < la+16
  · unfold JDue
    unfold JN jnC CN
    refine enterK (tb:=tb) Tryz.func40 rfl Tryz.ntmps40 rfl ?_
    repeat' (first|(apply R.is1;first|(apply R.isBin;first|(apply R.pure;exact rfl;first|(apply Ok1.eqlP;(iterate 5 exact rfl))|(apply Ok1.add64;exact rfl;exact rfl;omega;omega)|(apply Ok1.lss_t;exact rfl;exact rfl;omega))|(apply R.eql rfl rfl rfl<;>intro))|(apply R.pure;exact rfl;first|(apply Ok1.move;exact rfl)|(apply Ok1.fieldAddr;(iterate 5 exact rfl))|(apply Ok1.load;exact rfl;(apply Ld.own1;exact rfl;exact rfl;exact At.head;exact rfl))|(apply Ok1.assign;exact rfl)|(apply Ok1.pick_t;exact rfl;exact rfl)|(apply Ok1.pick_f;exact rfl;exact rfl)|(apply Ok1.nilCheck;exact rfl)))|(apply R.isG;first|(apply R.guard_run;exact rfl;exact rfl)|(apply R.guard_not;(iterate 3 exact rfl)))|apply R.nil|(apply T.is;first|apply T.seq|apply T.region|apply T.ret|(apply T.cond_t;exact rfl)))
    all_goals (apply RetOk.tt;exact rfl;exact rfl)
    all_goals exact ⟨_,by (focus (repeat' first|exact Keep.nil _|exact Ext.one _ _|apply Keep.cons);done),.inl ⟨hE,rfl,rfl⟩⟩
  have hm:0≤(sd+1) % S∧(sd+1) % S < S:=⟨Int.emod_nonneg _ (by omega),Int.emod_lt_of_pos _ (by omega)⟩
  have hj:jstE S st ((sd+1) % S)=0:=by unfold jstE;rw [if_neg (by omega),if_neg (by omega)]
  have hst:=fun w1 (h:Chg [bj,bn] w w1)=>(jstart_ok bj bc bn br bb bd sd0 e1 f1 c hr s hs hsb m1 m2 e S st sd la hS q m cap boot cnt hnr h0 ((sd+1) % S) tick w1 (h.heap hc hne1) (h.heap hb hne2) hne1 hne2).wk (R':=fun v L=>∃ Lo,Wrote c s 1 ((sd+1) % S) boot (cnt+1) [] v (.int .i64 0) Lo∧L=JN bj bc S 1 ((sd+1) % S) tick q m cap::CN bn boot (cnt+1)::Lo) (by
    rintro v L (⟨g,_⟩|⟨_,g⟩)
    · exact absurd hj g
    · exact g)
  unfold JDue
  unfold Wrote at hst ⊢
  generalize hNS:(sd+1) % S=NS at *
  generalize wrG c s 1 NS boot (cnt+1) []=G at *
  unfold JN jnC CN at *
  refine enterK (tb:=tb) Tryz.func40 rfl Tryz.ntmps40 rfl ?_
  repeat' (first|(apply R.is1;first|(apply R.isBin;(apply R.pure;exact rfl;first|(apply Ok1.eqlP;(iterate 5 exact rfl))|(apply Ok1.add64;exact rfl;exact rfl;omega;omega)|(apply Ok1.lss_f;exact rfl;exact rfl;omega)|(apply Ok1.eql_f;exact rfl;exact rfl;omega)))|(apply R.pure;exact rfl;first|(apply Ok1.move;exact rfl)|(apply Ok1.fieldAddr;(iterate 5 exact rfl))|(apply Ok1.load;exact rfl;(apply Ld.own1;exact rfl;exact rfl;exact At.head;exact rfl))|(apply Ok1.assign;exact rfl)|(apply Ok1.pick_f;exact rfl;exact rfl)|(apply Ok1.nilCheck;exact rfl)))|(apply R.isG;(apply R.guard_run;exact rfl;exact rfl))|apply R.nil|(apply T.is;first|(apply T.stop1 3)|apply T.seq|apply T.region|apply T.skip|(apply T.cond_f;exact rfl)))
  all_goals refine ⟨?_⟩
  repeat' (first|(apply R.is1;first|(apply R.isBin;(apply R.pure;exact rfl;(apply Ok1.eql_t;exact rfl;exact rfl;omega)))|(apply R.pure;exact rfl;first|(apply Ok1.move;exact rfl)|(apply Ok1.assign;exact rfl)))|apply R.nil|(apply T.is;first|(apply T.drawC (id:=3) [] (by decide);((apply A.tk 0;exact rfl;kernel_rfl;(apply Ok1.move;exact rfl))<;>(apply A.tk 1;exact rfl;kernel_rfl;(apply Ok1.move;exact rfl))<;>(apply A.tk 2;exact rfl;kernel_rfl;(apply Ok1.nilCheck;exact rfl))<;>(apply A.tk 3;exact rfl;kernel_rfl;(apply Ok1.fieldAddr;(iterate 5 exact rfl)))<;>(apply A.tk 6;exact rfl;kernel_rfl;(apply Ok1.move;exact rfl))<;>(apply A.tk 7;exact rfl;kernel_rfl;(apply Ok1.nilCheck;exact rfl))<;>(apply A.tk 8;exact rfl;kernel_rfl;(apply Ok1.fieldAddr;(iterate 5 exact rfl)))<;>(apply A.tk 11;exact rfl;kernel_rfl;(apply Ok1.move;exact rfl))<;>(apply A.two 4 9;kernel_rfl;exact rfl;exact rfl;rotate_left 1;(focus (((((apply R.pure;exact rfl;(apply Ok1.load;exact rfl;(apply Ld.own1;exact rfl;exact rfl;exact At.head;exact rfl)))));apply R.nil;refine ⟨?_,?_⟩;(focus ((repeat' (exact trivial)))))<;>(apply A.one 4;kernel_rfl;exact rfl;(((apply R.pure;exact rfl;(apply Ok1.load;exact rfl;(apply Ld.own1;exact rfl;exact rfl;exact At.head;exact rfl)))));apply R.nil;refine ⟨?_,?_⟩;(focus ((repeat' (exact trivial)))))<;>(apply A.tk 5;exact rfl;kernel_rfl;(apply Ok1.add64;exact rfl;exact rfl;omega;omega))<;>(apply A.tk 10;exact rfl;kernel_rfl;(apply Ok1.remN;exact rfl;exact rfl;omega;omega))<;>(apply A.one 12;kernel_rfl;exact rfl;(((apply R.callE (Li:=[(bj,.cells ⟨[.pointer (some ⟨bc,0,none⟩),.int .i64 S,.int .i64 st,.int .i64 sd,.int .i64 la,.slice q m cap]⟩ 184 (0,0)),(bn,.cells ⟨[.int .i64 boot,.int .i64 cnt]⟩ 400 (0,0))]) (vs:=[.pointer (some ⟨bj,0,none⟩),.int .i64 NS,.int .i64 tick]);exact rfl;(rw [← hNS];exact rfl);exact rfl;(focus ((repeat' (exact Ext.all _));done));intro w1 hw1;exact hst w1 hw1.chg;rintro v Lo ⟨Lw,⟨ovw,hovw,rfl,rfl⟩,rfl⟩)));apply R.nil;refine ⟨?_,?_⟩;(focus ((repeat' (exact trivial)))))<;>(apply A.tk 13;exact rfl;kernel_rfl;(apply Ok1.move;exact rfl))<;>(apply A.tk 14;exact rfl;kernel_rfl;(apply Ok1.extract;exact rfl;exact rfl))<;>(apply A.tk 15;exact rfl;kernel_rfl;(apply Ok1.extract;exact rfl;exact rfl))<;>(apply A.tk 16;exact rfl;kernel_rfl;(apply Ok1.assign;exact rfl))<;>(apply A.tk 17;exact rfl;kernel_rfl;(apply Ok1.assign;exact rfl))<;>(apply A.done;kernel_rfl)));rotate_right 1;(focus (((((apply R.pure;exact rfl;(apply Ok1.load;exact rfl;(apply Ld.own1;exact rfl;exact rfl;exact At.head;exact rfl)))));apply R.nil;refine ⟨?_,?_⟩;(focus ((repeat' (exact trivial)))))<;>(apply A.tk 5;exact rfl;kernel_rfl;(apply Ok1.add64;exact rfl;exact rfl;omega;omega))<;>(apply A.one 9;kernel_rfl;exact rfl;(((apply R.pure;exact rfl;(apply Ok1.load;exact rfl;(apply Ld.own1;exact rfl;exact rfl;exact At.head;exact rfl)))));apply R.nil;refine ⟨?_,?_⟩;(focus ((repeat' (exact trivial)))))<;>(apply A.tk 10;exact rfl;kernel_rfl;(apply Ok1.remN;exact rfl;exact rfl;omega;omega))<;>(apply A.one 12;kernel_rfl;exact rfl;(((apply R.callE (Li:=[(bj,.cells ⟨[.pointer (some ⟨bc,0,none⟩),.int .i64 S,.int .i64 st,.int .i64 sd,.int .i64 la,.slice q m cap]⟩ 184 (0,0)),(bn,.cells ⟨[.int .i64 boot,.int .i64 cnt]⟩ 400 (0,0))]) (vs:=[.pointer (some ⟨bj,0,none⟩),.int .i64 NS,.int .i64 tick]);exact rfl;(rw [← hNS];exact rfl);exact rfl;(focus ((repeat' (exact Ext.all _));done));intro w1 hw1;exact hst w1 hw1.chg;rintro v Lo ⟨Lw,⟨ovw,hovw,rfl,rfl⟩,rfl⟩)));apply R.nil;refine ⟨?_,?_⟩;(focus ((repeat' (exact trivial)))))<;>(apply A.tk 13;exact rfl;kernel_rfl;(apply Ok1.move;exact rfl))<;>(apply A.tk 14;exact rfl;kernel_rfl;(apply Ok1.extract;exact rfl;exact rfl))<;>(apply A.tk 15;exact rfl;kernel_rfl;(apply Ok1.extract;exact rfl;exact rfl))<;>(apply A.tk 16;exact rfl;kernel_rfl;(apply Ok1.assign;exact rfl))<;>(apply A.tk 17;exact rfl;kernel_rfl;(apply Ok1.assign;exact rfl))<;>(apply A.done;kernel_rfl))))))|apply T.seq|apply T.region|apply T.ret))
  all_goals (apply RetOk.tt;exact rfl;exact rfl)
  all_goals exact ⟨_,by (focus (repeat' first|exact Ext.one _ _|exact Ext.here _ _|apply Keep.cons|apply Keep.last);done),.inr ⟨hE,_,⟨ovw,hovw,rfl,rfl⟩,rfl⟩⟩
theorem u64_modN (i:Int):IntKind.u64.wrap i=i % 18446744073709551616:=by simp [IntKind.wrap,IntKind.bits,IntKind.signed]
theorem xor64_range (a b:Int):0≤xorI .u64 a b∧xorI .u64 a b≤18446744073709551615:=by
  unfold xorI;rw [u64_modN];omega
/-- The draws' block. -/
def dwB (bd:Nat) (D:Int):Nat × Obj:=(bd,.cells ⟨[.int .u64 D]⟩ 298 (0,0))
theorem seeded_ok (D:Int) (w:World):CallM Tryz.prog 82 [.int .u64 D] [] w fun v L=>∃ bd,v = .pointer (some ⟨bd,0,none⟩)∧L=[dwB bd D]:=by
  refine enterK (tb:=tb) Tryz.func82 rfl Tryz.ntmps82 rfl ?_
  repeat' (first|(apply R.is1;first|(apply R.pure;exact rfl;first|(apply Ok1.move;exact rfl)|(apply Ok1.assign;exact rfl)|(apply Ok1.build;(iterate 5 exact rfl)))|(apply R.box;(iterate 3 exact rfl);intro))|apply R.nil|(apply T.is;first|apply T.seq|apply T.region|apply T.ret))
  (apply RetOk.t;exact rfl)
  exact ⟨_,by unfold dwB;(focus (repeat' first|exact Keep.nil _|exact Ext.one _ _|apply Keep.cons);done),_,rfl,rfl⟩
theorem dnext_ok (bd:Nat) (D:Int) (w:World):CallM Tryz.prog 103 [.pointer (some ⟨bd,0,none⟩)] [dwB bd D] w fun v L=>∃ r D2,0≤r∧r≤18446744073709551615∧v = .int .u64 r∧L=[dwB bd D2]:=by
  refine enterK (tb:=tb) Tryz.func103 rfl Tryz.ntmps103 rfl ?_
  unfold dwB
  repeat' (first|(apply R.is1;first|(apply R.isBin;(apply R.pure;exact rfl;first|(apply Ok1.eqlP;(iterate 5 exact rfl))|(apply Ok1.xorK;exact rfl;exact rfl)|(apply Ok1.add;exact rfl;exact rfl)|(apply Ok1.mul;exact rfl;exact rfl)|(apply Ok1.shr;exact rfl;exact rfl;decide;decide;exact rfl)))|(apply R.pure;exact rfl;first|(apply Ok1.move;exact rfl)|(apply Ok1.fieldAddr;(iterate 5 exact rfl))|(apply Ok1.load;exact rfl;(apply Ld.own1;exact rfl;exact rfl;exact At.head;exact rfl))|(apply Ok1.assign;exact rfl)|(apply Ok1.nilCheck;exact rfl)))|(apply R.is0;(apply R.store;(iterate 6 exact rfl);exact Upd.head;exact rfl))|apply R.nil|(apply T.is;first|apply T.seq|apply T.region|apply T.skip|apply T.ret|(apply T.cond_f;exact rfl)))
  (apply RetOk.t;exact rfl)
  exact ⟨_,by (focus (repeat' first|exact Keep.nil _|exact Ext.one _ _|apply Keep.cons);done),_,_,(xor64_range _ _).1,(xor64_range _ _).2,rfl,rfl⟩
theorem dbelow_ok (bd:Nat) (D n:Int) (h1:1≤n) (h2:n≤4) (w:World):CallM Tryz.prog 35 [.pointer (some ⟨bd,0,none⟩),.int .i64 n] [dwB bd D] w fun v L=>∃ r D2,0≤r∧r < n∧v = .int .i64 r∧L=[dwB bd D2]:=by
  have hn:=fun w1=>dnext_ok bd D w1
  have hc:n=1 ∨ n=2 ∨ n=3 ∨ n=4:=by omega
  refine enterK (tb:=tb) Tryz.func35 rfl Tryz.ntmps35 rfl ?_
  rcases hc with rfl|rfl|rfl|rfl
  all_goals
    repeat' (first|(apply R.is1;first|(apply R.isBin;(apply R.pure;exact rfl;first|(apply Ok1.lss_f;exact rfl;exact rfl;omega)|(apply Ok1.remN;exact rfl;exact rfl;omega;omega)))|(apply R.isCall;(apply R.callE (vs:=[.pointer (some ⟨bd,0,none⟩)]);(iterate 3 exact rfl);exact Ext.all _;intro w1 hw1;exact hn w1;rintro v Lo ⟨r,D2,hr0,hr1,rfl,rfl⟩))|(apply R.pure;exact rfl;first|(apply Ok1.move;exact rfl)|(apply Ok1.assign;exact rfl)|(apply Ok1.convI64;(iterate 5 exact rfl);omega;omega)|(apply Ok1.convU64;(iterate 5 exact rfl);omega;omega)))|apply R.nil|(apply T.is;first|apply T.seq|apply T.region|apply T.skip|apply T.ret|(apply T.cond_f;exact rfl)))
    all_goals skip
    (apply RetOk.t;exact rfl)
    exact ⟨_,by (focus (repeat' first|exact Keep.nil _|exact Ext.one _ _|apply Keep.cons);done),_,_,by omega,by omega,rfl,rfl⟩
theorem qnew_ok (w:World):CallM Tryz.prog 166 [.int .i64 4] [] w fun v L=>∃ bq,v = .tuple #[.pointer (some ⟨bq,0,none⟩),.int .i64 0]∧L=[]:=by
  refine enterK (tb:=tb) Tryz.func166 rfl Tryz.ntmps166 rfl ?_
  repeat' (first|(apply R.is1;first|(apply R.makeMap kvI vvE;exact rfl;intro bm)|(apply R.isBin;(apply R.pure;exact rfl;first|(apply Ok1.lss_f;exact rfl;exact rfl;omega)|(apply Ok1.gtr_f;exact rfl;exact rfl;omega)))|(apply R.pure;exact rfl;first|(apply Ok1.move;exact rfl)|(apply Ok1.assign;exact rfl)|(apply Ok1.build;(iterate 5 exact rfl))|(apply Ok1.pick_f;exact rfl;exact rfl))|(apply R.box;(iterate 3 exact rfl);intro))|(apply R.isG;(apply R.guard_run;exact rfl;exact rfl))|apply R.nil|(apply T.is;first|apply T.seq|apply T.region|apply T.skip|apply T.ret|(apply T.cond_f;exact rfl)))
  (apply RetOk.tt;exact rfl;exact rfl)
  exact ⟨_,by (focus ((repeat' (exact Keep.nil _));done)),_,rfl,rfl⟩
theorem hnew_ok (own:Cl) (hr:own.right) (w:World):CallM Tryz.prog 79 [kvC own,.int .i64 4] [] w fun v L=>∃ bh,v = .tuple #[.pointer (some ⟨bh,0,none⟩),.int .i64 0]∧L=[]:=by
  have hck:=check_ok own.id own.roles own.exp own.ser
  rw [if_pos hr] at hck
  have hq:=fun w1=>qnew_ok w1
  refine enterK (tb:=tb) Tryz.func79 rfl Tryz.ntmps79 rfl ?_
  simp only [kvC]
  repeat' (first|(apply R.is1;first|(apply R.isBin;(apply R.pure;exact rfl;(apply Ok1.neq_f;exact rfl;exact rfl;omega)))|(apply R.isCall;first|apply R.callP rfl rfl rfl hck|(apply R.callE (vs:=[.int .i64 4]);(iterate 3 exact rfl);exact Ext.none _;intro w1 hw1;exact hq w1;rintro v Lo ⟨bq,rfl,rfl⟩))|(apply R.pure;exact rfl;first|(apply Ok1.move;exact rfl)|(apply Ok1.load;exact rfl;(apply Ld.ownk;exact rfl;exact rfl;exact At.head;exact rfl))|(apply Ok1.assign;exact rfl)|(apply Ok1.build;(iterate 5 exact rfl))|(apply Ok1.extract;exact rfl;exact rfl))|(apply R.box;(iterate 3 exact rfl);intro))|apply R.nil|(apply T.is;first|apply T.seq|apply T.region|apply T.skip|apply T.ret|(apply T.cond_f;exact rfl)))
  (apply RetOk.tt;exact rfl;exact rfl)
  exact ⟨_,by (focus ((repeat' (exact Keep.nil _));done)),_,rfl,rfl⟩
theorem VSame.nil9:VSame [] 0 []:=⟨fun _=>rfl,rfl,.nil,.nil,by simp,by simp,.nil,by simp⟩
theorem evalues_ok (p:Option Addr) (n cap:Nat) (w:World):CallM Tryz.prog 293 [.slice p n cap] [] w fun v L=>∃ cb,v = .func (.func 356) #[] #[.pointer (some ⟨cb,0,none⟩)]∧L=[(cb,.cells ⟨[.slice p n cap]⟩ 76 (0,0))]:=by
  refine enterK (tb:=tb) Tryz.func293 rfl Tryz.ntmps293 rfl ?_
  repeat' (first|(apply R.is1;first|(apply R.pure;exact rfl;first|(apply Ok1.assign;exact rfl)|(apply Ok1.makeFunc;exact rfl;exact rfl))|(apply R.box;(iterate 3 exact rfl);intro))|apply R.nil|(apply T.is;first|apply T.seq|apply T.region|apply T.ret))
  (apply RetOk.t;exact rfl)
  exact ⟨_,by (focus (repeat' first|exact Keep.nil _|exact Ext.one _ _|apply Keep.cons);done),_,rfl,rfl⟩
theorem evalues1_nil (l:Nat) (o:Obj) (cb:Nat) (p:Option Addr) (cap:Nat) (w:World) :
    CallM Tryz.prog 356 [.func (.yield l) #[] #[],.pointer (some ⟨cb,0,none⟩)] [(l,o),(cb,.cells ⟨[.slice p 0 cap]⟩ 76 (0,0))] w fun v L=>L=[(l,o),(cb,.cells ⟨[.slice p 0 cap]⟩ 76 (0,0))]:=by
  refine enterK (tb:=tb) Tryz.func356 rfl Tryz.ntmps356 rfl ?_
  repeat' (first|(apply R.is1;first|(apply R.isBin;(apply R.pure;exact rfl;(apply Ok1.lss_f;exact rfl;exact rfl;omega)))|(apply R.isCall;(apply R.pure;exact rfl;(apply Ok1.lenS;(iterate 3 exact rfl))))|(apply R.pure;exact rfl;first|(apply Ok1.move;exact rfl)|(apply Ok1.load;exact rfl;(apply Ld.own1;exact rfl;exact rfl;(focus (repeat' first|exact At.head|apply At.tail);done);exact rfl))))|apply R.nil|(apply T.is;first|apply T.rounds 1|apply T.seq|apply T.region|apply T.block|apply T.exit|(apply T.cond_f;exact rfl)))
  (apply RetOk.n)
  exact ⟨_,by (focus (repeat' first|exact Keep.nil _|exact Ext.one _ _|apply Keep.cons);done),rfl⟩
theorem vsuch_nil (bv bm:Nat) (own:Cl) (ga:Fn) (gb gc:Array Value) (w:World):CallM Tryz.prog 186 [.pointer (some ⟨bv,0,none⟩),.func ga gb gc] (VL bv bm own [] 0) w fun v L=>v = .slice none 0 0∧L=VL bv bm own [] 0:=by
  have hal:=fun w1=>vall_ok bv bm own [] 0 [] VSame.nil9 w1
  refine enterF (tb:=tb) Tryz.func186 rfl Tryz.ntmps186 rfl ?_
  generalize VL bv bm own [] 0=VB at *
  repeat' (first|(apply TF.range (gf:=356);exact rfl;exact rfl)|apply TF.seq|(apply R.is1;first|(apply R.isCall;first|(apply R.callE (Li:=VB) (vs:=[.pointer (some ⟨bv,0,none⟩)]);(iterate 3 exact rfl);(focus (repeat' first|exact Ext.all _|apply Ext.cons);done);intro w1 hw1;exact hal w1;rintro v Lo ⟨o1,ho1,rfl,rfl⟩;rw [slV_eq ho1,List.append_assoc])|(apply R.callE (vs:=[.slice _ _ _]);(iterate 3 exact rfl);exact Ext.none _;intro w1 hw1;exact evalues_ok _ _ _ w1;rintro v Lo ⟨cb,rfl,rfl⟩))|(apply R.pure;exact rfl;first|(apply Ok1.move;exact rfl)|(apply Ok1.assign;exact rfl))|(apply R.box;(iterate 3 exact rfl);intro)|(apply R.alloc;(iterate 3 exact rfl);intro))|apply R.nil|(apply T.is;apply T.region))
  rename_i b3 b5
  refine ⟨⟨_,[(cb,.cells ⟨[.slice (ovp o1) 0 (ovc o1 0)]⟩ 76 (0,0))],(b5,.cells ⟨[.slice none 0 0]⟩ 119 (0,0))::VB,fun Lb=>Lb=[(cb,.cells ⟨[.slice (ovp o1) 0 (ovc o1 0)]⟩ 76 (0,0))],?_,rfl,?_,?_⟩⟩
  · simp only [List.cons_append,List.nil_append]
    (focus (repeat' first|exact Ext.one _ _|exact Ext.here _ _|apply Keep.cons|apply Keep.last|apply Ext.app);done)
  · rintro l rec w1 hok ⟨L2,hw1⟩
    exact (evalues1_nil l _ cb _ _ w1).to (fun v L h=>⟨_,rfl,h⟩)
  · rintro D Lb rfl
    simp only [List.cons_append,List.nil_append]
    repeat' (first|apply TD.seq|apply TD.region|apply TD.ret|(apply R.is1;(apply R.pure;exact rfl;first|(apply Ok1.load;exact rfl;(apply Ld.own1;exact rfl;exact rfl;(focus (repeat' first|exact At.head|apply At.tail);done);exact rfl))|(apply Ok1.assign;exact rfl)))|apply R.nil)
    refine ⟨rfl,_,_,rfl,?_,rfl,rfl⟩
    (focus (repeat' first|exact Ext.one _ _|exact Ext.all _|apply Keep.cons|apply Keep.last|apply Ext.cons);done)
theorem vsweep_nil (bv bm:Nat) (own:Cl) (tick:Int) (q:Option Addr) (w:World):CallM Tryz.prog 92 [.pointer (some ⟨bv,0,none⟩),.int .i64 tick,.pointer q] (VL bv bm own [] 0) w fun v L=>v = .slice none 0 0∧L=VL bv bm own [] 0:=by
  have hsu:=fun ga gb gc w1=>vsuch_nil bv bm own ga gb gc w1
  refine enterK (tb:=tb) Tryz.func92 rfl Tryz.ntmps92 rfl ?_
  generalize VL bv bm own [] 0=VB at *
  repeat' (first|(apply R.is1;first|(apply R.isBin;(apply R.pure;exact rfl;(apply Ok1.lss_f;exact rfl;exact rfl;omega)))|(apply R.isCall;first|(apply R.callE (Li:=VB) (vs:=[.pointer (some ⟨bv,0,none⟩),.func _ _ _]);(iterate 3 exact rfl);(focus (repeat' first|exact Ext.all _|apply Ext.cons);done);intro w1 hw1;exact hsu _ _ _ w1;rintro v Lo ⟨rfl,hq⟩;rw [hq];clear hq)|(apply R.pure;exact rfl;(apply Ok1.lenS;(iterate 3 exact rfl))))|(apply R.pure;exact rfl;first|(apply Ok1.move;exact rfl)|(apply Ok1.assign;exact rfl)|(apply Ok1.makeFunc;exact rfl;exact rfl))|(apply R.box;(iterate 3 exact rfl);intro))|apply R.nil|(apply T.is;first|apply T.rounds 1|apply T.seq|apply T.region|apply T.block|apply T.exit|apply T.ret|(apply T.cond_f;exact rfl)))
  all_goals skip
  (apply RetOk.t;exact rfl)
  exact ⟨_,by (focus (repeat' first|exact Ext.here _ _|apply Keep.last);done),rfl,rfl⟩
/-- Where a node's parts lie,and what never changes of them. -/
structure NI where
  bN:Nat
  bc:Nat
  bn:Nat
  br:Nat
  bb:Nat
  bdr:Nat
  bm:Nat
  m1:Nat
  m2:Nat
  bj:Nat
  bf:Nat
  bset:Nat
  bv:Nat
  bvm:Nat
  bst:Nat
  bsm:Nat
  bd:Nat
  bh:Nat
  bp:Nat
  bq:Nat
  c:Cl
  s:List Int
  boot:Int
  S:Int
  sd:List Value
  dr:List Value
  gs:List Lg
/-- What changes. -/
structure NST where
  st:Int
  sdd:Int
  la:Int
  cnt:Int
  now:Int
  D:Int
def NI.cs (x:NI) (o:Value) (now:Int):List Value:=[.pointer (some ⟨x.bc,0,none⟩),o,.pointer (some ⟨x.bj,0,none⟩),.pointer (some ⟨x.bf,0,none⟩),.pointer (some ⟨x.bv,0,none⟩),.map none,.slice none 0 0,.int .i64 0,.map none,.pointer (some ⟨x.bh,0,none⟩),.pointer (some ⟨x.bst,0,none⟩),.slice none 0 0,.int .i64 0,.pointer (some ⟨x.bd,0,none⟩),.map (some x.bp),.map (some x.bq),.int .i64 0,.int .i64 now,.int .i64 (-16),.int .i64 0,.int .i64 0,.int .i64 0,.int .i64 0,.bool false,.int .i64 x.S]
def NI.N (x:NI) (o:Value) (now:Int):Nat × Obj:=(x.bN,.cells ⟨x.cs o now⟩ 111 (0,0))
def NI.C (x:NI):Nat × Obj:=(x.bc,.cells ⟨chC x.bn x.br x.bb x.bdr x.sd⟩ 173 (0,0))
def NI.R (x:NI):Nat × Obj:=(x.br,.cells ⟨ringC x.c x.s x.m1 x.m2⟩ 177 (0,0))
/-- What stays. -/
def NI.K (x:NI):Lst:=x.C::x.R::(x.m2,mobj kvR vvE [] 0)::(x.m1,mobj kvC vvE [] 0)::(BL x.bb x.bm [] 0++(FL x.bf x.bset x.gs none [] 0 false++(VL x.bv x.bvm x.c [] 0++SL x.bst x.bsm [] 0)))
def NI.L (x:NI) (t:NST):Lst:=x.N (.slice none 0 0) t.now::JN x.bj x.bc x.S t.st t.sdd t.la none 0 0::CN x.bn x.boot t.cnt::dwB x.bd t.D::x.K
structure NI.ok (x:NI):Prop where
  c:x.c.right
  s:x.s.length=32
  b:Byt x.s
  S:1≤x.S∧x.S≤4
  g:GOk x.gs
  l:lgs x.gs=[[],[],[],[]]
  boot:1≤x.boot∧x.boot≤65535
section
variable (bc:Nat) {bn br bb bd:Nat} {sd:List Value} {e1:TypeId} {f1:Nat × Nat} (w:World) (hc:w.heap[bc]? = some (.cells ⟨chC bn br bb bd sd⟩ e1 f1))
include hc
theorem chbook9_ok:CallW Tryz.prog 44 [.pointer (some ⟨bc,0,none⟩)] w fun v _=>v = .pointer (some ⟨bb,0,none⟩):=by
  unfold chC at hc
  refine enterW (tb:=tb) Tryz.func44 rfl Tryz.ntmps44 rfl ?_
  repeat' (first|(apply R.is1;first|(apply R.isBin;(apply R.pure;exact rfl;(apply Ok1.eqlP;(iterate 5 exact rfl))))|(apply R.pure;exact rfl;first|(apply Ok1.load;exact rfl;(apply Ld.blk1;exact rfl;exact rfl;exact hc;exact List.not_mem_nil;exact rfl))|(apply Ok1.move;exact rfl)|(apply Ok1.fieldAddr;(iterate 5 exact rfl))|(apply Ok1.assign;exact rfl)|(apply Ok1.nilCheck;exact rfl)))|apply R.nil|(apply T.is;first|apply T.seq|apply T.region|apply T.skip|apply T.ret|(apply T.cond_f;exact rfl)))
  (apply RetOk.t;exact rfl)
  rfl
end
theorem nnew_ok (c:Cl) (hr:c.right) (s:List Int) (hs:s.length=32) (hb:Byt s) (boot S:Int) (hnr:1≤boot∧boot≤65535) (hS:1≤S∧S≤4) (D:Int) (w:World) :
    CallM Tryz.prog 21 [.agg ⟨tkC c s⟩,.int .i64 boot,.int .i64 S,.int .u64 D] [] w fun v L=>∃ x:NI,x.ok∧x.c=c∧x.s=s∧x.boot=boot∧x.S=S∧v = .tuple #[.pointer (some ⟨x.bN,0,none⟩),.int .i64 0]∧L=x.L ⟨0,0,0,0,0,D⟩:=by
  have htl:=tk_len (c:=c) hs
  have htc:subE (tkC c s) 0 4=some [.int .i64 c.id,.int .i64 c.roles,.int .i64 c.exp,.int .i64 c.ser]:=tk_cl c s
  have hcn:=fun w1=>chnew_ok c hr s hs boot (show NR boot 1 by unfold NR;omega) w1
  have hjn:=fun bc w1=>jnew_ok bc S hS.1 hS.2 w1
  have hvn:=fun w1=>vnew_ok c hr w1
  have hhn:=fun w1=>hnew_ok c hr w1
  have hfn:=fun w1=>fnew_ok w1
  have hsn:=fun w1=>stnew_ok w1
  have hdn:=fun w1=>seeded_ok D w1
  simp only [kvC] at hvn hhn
  refine enterK (tb:=tb) Tryz.func21 rfl Tryz.ntmps21 rfl ?_
  repeat' (first|(apply R.is1;first|(apply R.makeMap kvI vvE;exact rfl;intro bmp)|(apply R.isBin;(apply R.pure;exact rfl;(apply Ok1.neq_f;exact rfl;exact rfl;omega)))|(apply R.isCall;first|(apply R.callE (vs:=[.agg ⟨tkC c s⟩,.int .i64 boot]);(iterate 3 exact rfl);exact Ext.none _;intro w1 hw1;exact hcn w1;rintro v Lo ⟨bc,bn,br,bb,bdr,bm,m1,m2,sd,dr,rfl,rfl⟩;(obtain ⟨CB,hCB⟩:∃ CB,CB=ChL bc bn br bb bdr bm m1 m2 c s boot sd dr:=⟨_,rfl⟩);rw [← hCB])|(apply R.callE (vs:=[.pointer (some ⟨bc,0,none⟩),.int .i64 S]);(iterate 3 exact rfl);exact Ext.none _;intro w1 hw1;exact hjn bc w1;rintro v Lo ⟨bj,rfl,rfl⟩)|(apply R.callE (vs:=[.agg ⟨[.int .i64 c.id,.int .i64 c.roles,.int .i64 c.exp,.int .i64 c.ser]⟩]);(iterate 3 exact rfl);exact Ext.none _;intro w1 hw1;exact hvn w1;rintro v Lo ⟨bv,bvm,rfl,hVB⟩)|(apply R.callE (vs:=[.agg ⟨[.int .i64 c.id,.int .i64 c.roles,.int .i64 c.exp,.int .i64 c.ser]⟩,.int .i64 4]);(iterate 3 exact rfl);exact Ext.none _;intro w1 hw1;exact hhn w1;rintro v Lo ⟨bh,rfl,rfl⟩)|(apply R.callE (vs:=[.pointer none]);(iterate 3 exact rfl);exact Ext.none _;intro w1 hw1;exact hfn w1;rintro v Lo ⟨bf,bset,gs,rfl,hgl,hgo,hFB⟩)|(apply R.callE (vs:=[]);(iterate 3 exact rfl);exact Ext.none _;intro w1 hw1;exact hsn w1;rintro v Lo ⟨bst,bsm,rfl,hSB⟩)|(apply R.callE (vs:=[.int .u64 D]);(iterate 3 exact rfl);exact Ext.none _;intro w1 hw1;exact hdn w1;rintro v Lo ⟨bd,rfl,rfl⟩))|(apply R.pure;exact rfl;first|(apply Ok1.load;exact rfl;first|(apply Ld.ownk;exact rfl;exact rfl;(focus (repeat' first|exact At.head|apply At.tail|apply At.right);done);exact subE_all htl)|(apply Ld.ownk;exact rfl;exact rfl;(focus (repeat' first|exact At.head|apply At.tail|apply At.right);done);exact htc))|(apply Ok1.move;exact rfl)|(apply Ok1.fieldAddr;(iterate 5 exact rfl))|(apply Ok1.assign;exact rfl)|(apply Ok1.build;(iterate 5 exact rfl))|(apply Ok1.extract;exact rfl;exact rfl))|(apply R.box;(iterate 3 exact rfl);intro))|apply R.nil|(apply T.is;first|apply T.seq|apply T.region|apply T.skip|apply T.ret|(apply T.cond_f;exact rfl)))
  rename_i b4 VB FB bp bN
  (apply RetOk.tt;exact rfl;exact rfl)
  refine ⟨_,?_,⟨bN,bc,bn,br,bb,bdr,bm,m1,m2,bj,bf,bset,bv,bvm,bst,bsm,bd,bh,bp,bmp,c,s,boot,S,sd,dr,gs⟩,⟨hr,hs,hb,hS,hgo.g,hgl,hnr⟩,rfl,rfl,rfl,rfl,rfl,rfl⟩
  unfold NI.L NI.N NI.cs NI.K NI.C NI.R
  simp only
  rw [← hVB,← hFB,← hSB,hCB]
  unfold ChL RL0 CN
  generalize BL bb bm [] 0=QB
  simp only [List.cons_append,List.nil_append,List.append_assoc]
  (focus (repeat' first|exact Ext.one _ _|exact Ext.here _ _|apply Keep.cons|apply Keep.app|apply Keep.last|apply Ext.cons|apply Ext.app);done)
theorem empty9_ok (x:NI) (o:Value) (ho:o.oneCell'=true) (now:Int) (w:World):CallM Tryz.prog 39 [.pointer (some ⟨x.bN,1,none⟩)] [x.N o now] w fun v L=>v=o∧L=[x.N (.slice none 0 0) now]:=by
  refine enterK (tb:=tb) Tryz.func39 rfl Tryz.ntmps39 rfl ?_
  unfold NI.N NI.cs
  repeat' (first|(apply R.is1;(apply R.pure;exact rfl;first|(apply Ok1.move;exact rfl)|(apply Ok1.fieldAddr;(iterate 5 exact rfl))|(apply Ok1.load;exact rfl;(apply Ld.own1;exact rfl;exact rfl;exact At.head;exact rfl))|(apply Ok1.assign;exact rfl)|(apply Ok1.nilCheck;exact rfl)))|(apply R.is0;(apply R.store;(iterate 6 exact rfl);exact Upd.head;exact rfl))|apply R.nil|(apply T.is;first|apply T.seq|apply T.region|apply T.ret))
  (apply RetOk.t;exact rfl)
  exact ⟨_,by (focus (repeat' first|exact Keep.nil _|exact Ext.one _ _|apply Keep.cons);done),rfl,rfl⟩
theorem post9_ok (x:NI) (now:Int) (p:Option Addr) (n cap:Nat) (xs:List Int) (hn:n=xs.length) (hbig:n≤1000) (q:Option Addr) (a:Int) (w:World) (hp:RdSl w p u8V xs) (hpo:xs≠[]→Off p [x.bN]) (hq:RdSl w q iV [a]) (hqo:Off q [x.bN]) :
    CallM Tryz.prog 37 [.pointer (some ⟨x.bN,1,none⟩),.slice p n cap,.slice q 1 1] [x.N (.slice none 0 0) now] w fun v L=>∃ ov ob j junk,OvOk 1 ov n (u8s xs)∧junk.length=j * 2∧L=x.N (.slice (some ⟨ob,0,none⟩) 1 (1+j)) now::(ob,.cells ⟨[.int .i64 a,.slice (ovp ov) n (ovc ov n)]++junk⟩ 53 (0,0))::blkL 5 ov (u8s xs):=by
  subst hn
  obtain ⟨bq,oq,hqe,H⟩:=hq.at (i:=0) rfl
  replace H:=H 1 iV_len
  have hS:bq ∉ blks [x.N (.slice none 0 0) now]:=hqo _ hqe
  have hcl:=fun w1 (h:Chg (blks [x.N (.slice none 0 0) now]) w w1)=>bclone_ok p xs.length cap xs rfl (by omega) w1 (hp.chg' h hpo)
  refine enterK (tb:=tb) Tryz.func37 rfl Tryz.ntmps37 rfl ?_
  unfold NI.N NI.cs at *
  repeat' (first|(apply R.is1;first|(apply R.isBin;(apply R.pure;exact rfl;first|(apply Ok1.add64;exact rfl;exact rfl;omega;omega)|(apply Ok1.lss_t;exact rfl;exact rfl;omega)|(apply Ok1.lss_f;exact rfl;exact rfl;omega)))|(apply R.isCall;(apply R.pure;exact rfl;(apply Ok1.lenS;(iterate 3 exact rfl))))|(apply R.pure;exact rfl;first|(apply Ok1.indexAddrP;(iterate 4 exact rfl);exact hqe;exact rfl;omega;omega)|(apply Ok1.load;exact rfl;(apply Ld.row0 H;exact rfl;exact hS;(iterate 3 exact rfl)))|(apply Ok1.move;exact rfl)|(apply Ok1.assign;exact rfl)))|apply R.nil|(apply T.is;first|apply T.rounds 2|(apply T.drawC (id:=3) [] (by decide);((apply A.tk 0;exact rfl;kernel_rfl;(apply Ok1.move;exact rfl))<;>(apply A.tk 1;exact rfl;kernel_rfl;(apply Ok1.move;exact rfl))<;>(apply A.tk 2;exact rfl;kernel_rfl;(apply Ok1.nilCheck;exact rfl))<;>(apply A.tk 3;exact rfl;kernel_rfl;(apply Ok1.fieldAddr;(iterate 5 exact rfl)))<;>(apply A.tk 5;exact rfl;kernel_rfl;(apply Ok1.move;exact rfl))<;>(apply A.tk 6;exact rfl;kernel_rfl;(apply Ok1.move;exact rfl))<;>(apply A.two 4 7;kernel_rfl;exact rfl;exact rfl;rotate_left 1;(focus (((((apply R.callE (vs:=[.slice p xs.length cap]);(iterate 3 exact rfl);exact Ext.none _;intro w1 hw1;exact hcl w1 hw1.chg;rintro v Lo ⟨ov,hov,rfl,hUB⟩;rw [slV_eq hov])));apply R.nil;refine ⟨?_,?_⟩;(focus ((repeat' (exact trivial)))))<;>(apply A.tk 8;exact rfl;kernel_rfl;(apply Ok1.build;(iterate 5 exact rfl)))<;>(apply A.two 4 9;kernel_rfl;exact rfl;exact rfl;rotate_left 1;(focus (((((apply R.buildSlice;(iterate 12 exact rfl);intro)));apply R.nil;refine ⟨?_,?_⟩;(focus ((repeat' (exact trivial)))))<;>(apply A.one 4;kernel_rfl;exact rfl;(((apply R.pure;exact rfl;(apply Ok1.load;exact rfl;(apply Ld.own1;exact rfl;exact rfl;(focus (repeat' first|exact At.head|apply At.tail|apply At.right);done);exact rfl)))));apply R.nil;refine ⟨?_,?_⟩;(focus ((repeat' (exact trivial)))))<;>(apply A.one 10;kernel_rfl;exact rfl;(((apply R.append1;(iterate 12 exact rfl);(focus ((repeat' (exact OwnAt.nil _));done));exact At.head;exact rfl;exact rfl;omega;omega;intro b2 j2 k2 hj2)));apply R.nil;refine ⟨?_,?_⟩;(focus ((repeat' (exact trivial)))))<;>(apply A.tk 11;exact rfl;kernel_rfl;(apply Ok1.nilCheck;exact rfl))<;>(apply A.tk 12;exact rfl;kernel_rfl;(apply Ok1.fieldAddr;(iterate 5 exact rfl)))<;>(apply A.one 13;kernel_rfl;exact rfl;(((apply R.store;(iterate 6 exact rfl);(focus (repeat' first|exact Upd.head|apply Upd.tail|apply Upd.right);done);exact rfl)));apply R.nil;refine ⟨?_,?_⟩;(focus ((repeat' (exact trivial)))))<;>(apply A.done;kernel_rfl)));rotate_right 1;(focus (((((apply R.pure;exact rfl;(apply Ok1.load;exact rfl;(apply Ld.own1;exact rfl;exact rfl;(focus (repeat' first|exact At.head|apply At.right);done);exact rfl)))));apply R.nil;refine ⟨?_,?_⟩;(focus ((repeat' (exact trivial)))))<;>(apply A.one 9;kernel_rfl;exact rfl;(((apply R.buildSlice;(iterate 12 exact rfl);intro)));apply R.nil;refine ⟨?_,?_⟩;(focus ((repeat' (exact trivial)))))<;>(apply A.one 10;kernel_rfl;exact rfl;(((apply R.append1;(iterate 12 exact rfl);(focus ((repeat' (exact OwnAt.nil _));done));exact At.head;exact rfl;exact rfl;omega;omega;intro b2 j2 k2 hj2)));apply R.nil;refine ⟨?_,?_⟩;(focus ((repeat' (exact trivial)))))<;>(apply A.tk 11;exact rfl;kernel_rfl;(apply Ok1.nilCheck;exact rfl))<;>(apply A.tk 12;exact rfl;kernel_rfl;(apply Ok1.fieldAddr;(iterate 5 exact rfl)))<;>(apply A.one 13;kernel_rfl;exact rfl;(((apply R.store;(iterate 6 exact rfl);(focus (repeat' first|exact Upd.head|apply Upd.tail|apply Upd.right);done);exact rfl)));apply R.nil;refine ⟨?_,?_⟩;(focus ((repeat' (exact trivial)))))<;>(apply A.done;kernel_rfl))))));rotate_right 1;(focus (((((apply R.pure;exact rfl;(apply Ok1.load;exact rfl;(apply Ld.own1;exact rfl;exact rfl;exact At.head;exact rfl)))));apply R.nil;refine ⟨?_,?_⟩;(focus ((repeat' (exact trivial)))))<;>(apply A.one 7;kernel_rfl;exact rfl;(((apply R.callE (vs:=[.slice p xs.length cap]);(iterate 3 exact rfl);exact Ext.none _;intro w1 hw1;exact hcl w1 hw1.chg;rintro v Lo ⟨ov,hov,rfl,hUB⟩;rw [slV_eq hov])));apply R.nil;refine ⟨?_,?_⟩;(focus ((repeat' (exact trivial)))))<;>(apply A.tk 8;exact rfl;kernel_rfl;(apply Ok1.build;(iterate 5 exact rfl)))<;>(apply A.one 9;kernel_rfl;exact rfl;(((apply R.buildSlice;(iterate 12 exact rfl);intro)));apply R.nil;refine ⟨?_,?_⟩;(focus ((repeat' (exact trivial)))))<;>(apply A.one 10;kernel_rfl;exact rfl;(((apply R.append1;(iterate 12 exact rfl);(focus ((repeat' (exact OwnAt.nil _));done));exact At.head;exact rfl;exact rfl;omega;omega;intro b2 j2 k2 hj2)));apply R.nil;refine ⟨?_,?_⟩;(focus ((repeat' (exact trivial)))))<;>(apply A.tk 11;exact rfl;kernel_rfl;(apply Ok1.nilCheck;exact rfl))<;>(apply A.tk 12;exact rfl;kernel_rfl;(apply Ok1.fieldAddr;(iterate 5 exact rfl)))<;>(apply A.one 13;kernel_rfl;exact rfl;(((apply R.store;(iterate 6 exact rfl);(focus (repeat' first|exact Upd.head|apply Upd.tail|apply Upd.right);done);exact rfl)));apply R.nil;refine ⟨?_,?_⟩;(focus ((repeat' (exact trivial)))))<;>(apply A.done;kernel_rfl))))))|apply T.seq|apply T.region|apply T.block|apply T.skip|apply T.exit|(apply T.cond_t;exact rfl)|(apply T.cond_f;exact rfl)))
  all_goals (apply RetOk.n)
  all_goals exact ⟨_,by rw [hUB];simp only [List.nil_append,List.cons_append];(focus (repeat' first|exact Ext.one _ _|exact Ext.here _ _|apply Keep.cons|apply Keep.last|apply Ext.cons|apply Ext.app);done),ov,b2,j2,k2,hov,hj2,rfl⟩
section
variable (x:NI) (o:Value) (now:Int) (w:World) {e0:TypeId} {f0:Nat × Nat} (hN:w.heap[x.bN]? = some (.cells ⟨x.cs o now⟩ e0 f0))
include hN
section
variable (bj bc:Nat) (t:NST) (hj:x.bj=bj)
theorem nin_ok (st sd la:Int) (hst:st≠3) (hJ:w.heap[x.bj]? = some (JN x.bj x.bc x.S st sd la none 0 0).2):CallW Tryz.prog 41 [.pointer (some ⟨x.bN,0,none⟩)] w fun v _=>v = .bool false:=by
  have hst9:=fun w1 (h:Chg [] w w1)=>jstate_ok x.bj x.bc x.S st sd la none 0 0 w1 ⟨_,_,h.heap hJ List.not_mem_nil⟩
  unfold NI.cs at hN
  refine enterW (tb:=tb) Tryz.func41 rfl Tryz.ntmps41 rfl ?_
  repeat' (first|(apply R.is1;first|(apply R.isBin;(apply R.pure;exact rfl;(apply Ok1.eql_f;exact rfl;exact rfl;omega)))|(apply R.isCall;(apply R.callV (vs:=[.pointer (some ⟨x.bj,0,none⟩)]);(iterate 3 exact rfl);intro w1 hw1;exact hst9 w1 hw1.chg))|(apply R.pure;exact rfl;first|(apply Ok1.load;exact rfl;(apply Ld.blk1;exact rfl;exact rfl;exact hN;exact List.not_mem_nil;exact rfl))|(apply Ok1.move;exact rfl)|(apply Ok1.fieldAddr;(iterate 5 exact rfl))|(apply Ok1.assign;exact rfl)|(apply Ok1.nilCheck;exact rfl)))|apply R.nil|(apply T.is;first|apply T.seq|apply T.region|apply T.ret))
  all_goals skip
  (apply RetOk.t;exact rfl)
  rfl
theorem nseat_ok (st sd la:Int) (h0:0≤sd) (h1:sd≤3) (hJ:w.heap[x.bj]? = some (JN x.bj x.bc x.S st sd la none 0 0).2):CallW Tryz.prog 38 [.pointer (some ⟨x.bN,0,none⟩)] w fun v _=>v = .int .i64 (65536+sd):=by
  have hst9:=fun w1 (h:Chg [] w w1)=>jseed_ok x.bj x.bc x.S st sd la none 0 0 w1 ⟨_,_,h.heap hJ List.not_mem_nil⟩
  unfold NI.cs at hN
  refine enterW (tb:=tb) Tryz.func38 rfl Tryz.ntmps38 rfl ?_
  repeat' (first|(apply R.is1;first|(apply R.isBin;(apply R.pure;exact rfl;(apply Ok1.add64;exact rfl;exact rfl;omega;omega)))|(apply R.isCall;(apply R.callV (vs:=[.pointer (some ⟨x.bj,0,none⟩)]);(iterate 3 exact rfl);intro w1 hw1;exact hst9 w1 hw1.chg))|(apply R.pure;exact rfl;first|(apply Ok1.load;exact rfl;(apply Ld.blk1;exact rfl;exact rfl;exact hN;exact List.not_mem_nil;exact rfl))|(apply Ok1.move;exact rfl)|(apply Ok1.fieldAddr;(iterate 5 exact rfl))|(apply Ok1.assign;exact rfl)|(apply Ok1.nilCheck;exact rfl)))|apply R.nil|(apply T.is;first|apply T.seq|apply T.region|apply T.ret))
  (apply RetOk.t;exact rfl)
  rfl
end
end
end Go.Proofs.YtcfdgnajepilbaaGreat
set_option linter.unusedSimpArgs false
set_option linter.unusedVariables false
namespace Go.Proofs.YtcfdgnajepilbaaGreat
open Go.RowKit Go.Shelf Go.Sort
set_option maxRecDepth 100000
theorem nsweep_ok (x:NI) (hx:x.ok) (now:Int) (w:World):CallM Tryz.prog 33 [.pointer (some ⟨x.bN,0,none⟩)] (x.N (.slice none 0 0) now::x.K) w fun v L=>L=x.N (.slice none 0 0) now::x.K:=by
  have hsw:=fun q w1=>vsweep_nil x.bv x.bvm x.c now q w1
  have hkn:=fun w1=>knownB_ok x.bb x.bm [] 0 MWf.nil (by simp) w1
  have hwn:=fun w1=>wantedB_ok x.bb x.bm [] 0 MWf.nil (by simp) w1
  have hon:=fun w1=>onlyB_ok x.bb x.bm [] 0 MWf.nil (by simp) none 0 [] (by simp) w1 (.inl rfl) (fun h=>absurd rfl h)
  have hkn:∀ w1,CallM Tryz.prog 98 [.pointer (some ⟨x.bb,0,none⟩)] (BL x.bb x.bm [] 0) w1 fun v L=>∃ ov,OvOk 4 ov 0 (fl Cl.v [])∧v=slV ov 0∧L=blkL 31 ov (fl Cl.v [])++BL x.bb x.bm [] 0:=fun w1=>(hkn w1).imp fun v L ⟨ov,cs,h1,h2,h3,h4,h5⟩=>by
    have:cs=[]:=List.perm_nil.1 h1
    subst this
    exact ⟨ov,h3,h4,h5⟩
  have hwn:∀ w1,CallM Tryz.prog 99 [.pointer (some ⟨x.bb,0,none⟩)] (BL x.bb x.bm [] 0) w1 fun v L=>∃ ov,OvOk 4 ov 0 (fl Cl.v [])∧v=slV ov 0∧L=blkL 31 ov (fl Cl.v [])++BL x.bb x.bm [] 0:=fun w1=>(hwn w1).imp fun v L ⟨ov,cs,h1,h2,h3,h4,h5⟩=>by
    have:cs=[]:=List.perm_nil.1 h1
    subst this
    exact ⟨ov,h3,h4,h5⟩
  have hon:∀ w1,CallM Tryz.prog 75 [.pointer (some ⟨x.bb,0,none⟩),.slice none 0 0] (BL x.bb x.bm [] 0) w1 fun v L=>∃ ov,OvOk 4 ov 0 (fl Cl.v [])∧v=slV ov 0∧L=blkL 31 ov (fl Cl.v [])++BL x.bb x.bm [] 0:=fun w1=>(hon w1).imp fun v L ⟨ov,cs,h1,h2,h3,h4,h5⟩=>by
    have:cs=[]:=List.perm_nil.1 h1
    subst this
    exact ⟨ov,h3,h4,h5⟩
  have hfs:=fun {w1:World} {S:List Nat} {L:Lst} (hw:Hp w S L w1) (hm:∀ z∈FL x.bf x.bset x.gs none [] 0 false,z∈L)=>fset_ok x.bf x.bset x.gs hx.g none 0 0 false w1 (hw.get _ _ (hm _ (by unfold FL;exact List.mem_cons_self))) (SetR.of hx.g hw fun z hz=>hm z (by unfold FL;exact List.mem_cons_of_mem _ (List.mem_append_right _ hz)))
  have hbk:=fun {w1:World} {S:List Nat} {L:Lst} (hw:Hp w S L w1) (hm:x.C∈L)=>chbook9_ok x.bc w1 (hw.get _ _ hm)
  refine enterK (tb:=tb) Tryz.func33 rfl Tryz.ntmps33 rfl ?_
  unfold NI.K
  generalize BL x.bb x.bm [] 0=QB at *
  generalize VL x.bv x.bvm x.c [] 0=VB at *
  generalize FL x.bf x.bset x.gs none [] 0 false=FB at *
  generalize SL x.bst x.bsm [] 0=SB at *
  unfold NI.N NI.cs NI.C NI.R
  repeat' (first|(apply R.is1;first|(apply R.isBin;(apply R.pure;exact rfl;(apply Ok1.lss_f;exact rfl;exact rfl;omega)))|(apply R.pure;exact rfl;(apply Ok1.assign;exact rfl)))|apply R.nil|(apply T.is;first|apply T.rounds 1|(apply T.drawC (id:=0) [0] (by decide);((apply A.tk 0;exact rfl;kernel_rfl;(apply Ok1.move;exact rfl))<;>(apply A.tk 1;exact rfl;kernel_rfl;(apply Ok1.nilCheck;exact rfl))<;>(apply A.tk 2;exact rfl;kernel_rfl;(apply Ok1.fieldAddr;(iterate 5 exact rfl)))<;>(apply A.tk 3;exact rfl;kernel_rfl;(apply Ok1.load;exact rfl;(apply Ld.own1;exact rfl;exact rfl;exact At.head;exact rfl)))<;>(apply A.tk 4;exact rfl;kernel_rfl;(apply Ok1.move;exact rfl))<;>(apply A.tk 5;exact rfl;kernel_rfl;(apply Ok1.nilCheck;exact rfl))<;>(apply A.tk 6;exact rfl;kernel_rfl;(apply Ok1.fieldAddr;(iterate 5 exact rfl)))<;>(apply A.tk 7;exact rfl;kernel_rfl;(apply Ok1.load;exact rfl;(apply Ld.own1;exact rfl;exact rfl;exact At.head;exact rfl)))<;>(apply A.tk 8;exact rfl;kernel_rfl;(apply Ok1.move;exact rfl))<;>(apply A.tk 9;exact rfl;kernel_rfl;(apply Ok1.nilCheck;exact rfl))<;>(apply A.tk 10;exact rfl;kernel_rfl;(apply Ok1.fieldAddr;(iterate 5 exact rfl)))<;>(apply A.tk 11;exact rfl;kernel_rfl;(apply Ok1.load;exact rfl;(apply Ld.own1;exact rfl;exact rfl;exact At.head;exact rfl)))<;>(apply A.tk 15;exact rfl;kernel_rfl;(apply Ok1.move;exact rfl))<;>(apply A.one 12;kernel_rfl;exact rfl;(((apply R.callE (vs:=[.pointer (some ⟨x.bf,0,none⟩)]);(iterate 3 exact rfl);exact Ext.none _;intro w1 hw1;exact hfs hw1 (Ext.mem (by (focus (repeat' first|exact Ext.here _ _|apply Ext.cons|apply Ext.app);done)));rintro v Lo ⟨bz,gz,rfl,_,_,hLZ⟩)));apply R.nil;refine ⟨?_,?_⟩;(focus (repeat' first|exact trivial|exact At.head|apply At.right|refine ⟨?_,?_⟩)))<;>(apply A.one 13;kernel_rfl;exact rfl;(((apply R.callE (Li:=VB) (vs:=[.pointer (some ⟨x.bv,0,none⟩),.int .i64 now,.pointer _]);(iterate 3 exact rfl);(focus (repeat' first|exact Ext.here _ _|apply Ext.cons|apply Ext.app);done);intro w1 hw1;exact hsw _ w1;rintro v Lo ⟨rfl,hq⟩;rw [hq];clear hq)));apply R.nil;refine ⟨?_,?_⟩;(focus (repeat' first|exact trivial|exact At.head|apply At.right|refine ⟨?_,?_⟩)))<;>(apply A.tk 14;exact rfl;kernel_rfl;(apply Ok1.lenS;(iterate 3 exact rfl)))<;>(apply A.done;kernel_rfl)))|apply T.seq|apply T.region|apply T.block|apply T.exit|(apply T.cond_f;exact rfl)))
  refine T.weakK (σ':=[(0,.pointer (some ⟨x.bN,0,none⟩)),(4,.slice none 0 0)]) (L':=(x.bN,.cells ⟨x.cs (.slice none 0 0) now⟩ 111 (0,0))::(x.bc,.cells ⟨chC x.bn x.br x.bb x.bdr x.sd⟩ 173 (0,0))::(x.br,.cells ⟨ringC x.c x.s x.m1 x.m2⟩ 177 (0,0))::(x.m2,mobj kvR vvE [] 0)::(x.m1,mobj kvC vvE [] 0)::(QB++(FB++(VB++SB)))) ?_ (by unfold NI.cs;(focus (repeat' first|exact Ext.one _ _|exact Ext.here _ _|exact Ext.all _|apply Keep.cons|apply Keep.app|apply Keep.last|apply Ext.app);done)) ⟨rfl,rfl,trivial⟩
  unfold NI.cs
  repeat' (first|(apply R.is1;first|(apply R.isBin;(apply R.pure;exact rfl;(apply Ok1.lss_f;exact rfl;exact rfl;omega)))|(apply R.isCall;first|(apply R.callV (vs:=[.pointer (some ⟨x.bc,0,none⟩)]);(iterate 3 exact rfl);intro w1 hw1;exact hbk hw1 (At.mem (by (focus (repeat' first|exact At.head|apply At.tail|apply At.right);done))))|(apply R.callE (Li:=QB) (vs:=[.pointer (some ⟨x.bb,0,none⟩),.slice none 0 0]);(iterate 3 exact rfl);(focus (repeat' first|exact Ext.here _ _|apply Ext.app);done);intro w1 hw1;exact hon w1;rintro v Lo ⟨o4,ho4,rfl,rfl⟩;rw [slV_eq ho4,List.append_assoc])|(apply R.pure;exact rfl;(apply Ok1.lenS;(iterate 3 exact rfl))))|(apply R.pure;exact rfl;first|(apply Ok1.load;exact rfl;(apply Ld.own1;exact rfl;exact rfl;(focus (repeat' first|exact At.head|apply At.right);done);exact rfl))|(apply Ok1.move;exact rfl)|(apply Ok1.fieldAddr;(iterate 5 exact rfl))|(apply Ok1.nilCheck;exact rfl)))|apply R.nil|(apply T.is;first|apply T.rounds 1|(apply T.drawC (id:=11) [0] (by decide);((apply A.tk 0;exact rfl;kernel_rfl;(apply Ok1.move;exact rfl))<;>(apply A.tk 1;exact rfl;kernel_rfl;(apply Ok1.nilCheck;exact rfl))<;>(apply A.tk 2;exact rfl;kernel_rfl;(apply Ok1.fieldAddr;(iterate 5 exact rfl)))<;>(apply A.tk 3;exact rfl;kernel_rfl;(apply Ok1.load;exact rfl;(apply Ld.own1;exact rfl;exact rfl;exact At.head;exact rfl)))<;>(apply A.tk 6;exact rfl;kernel_rfl;(apply Ok1.move;exact rfl))<;>(apply A.tk 7;exact rfl;kernel_rfl;(apply Ok1.nilCheck;exact rfl))<;>(apply A.tk 8;exact rfl;kernel_rfl;(apply Ok1.fieldAddr;(iterate 5 exact rfl)))<;>(apply A.tk 9;exact rfl;kernel_rfl;(apply Ok1.load;exact rfl;(apply Ld.own1;exact rfl;exact rfl;exact At.head;exact rfl)))<;>(apply A.tk 14;exact rfl;kernel_rfl;(apply Ok1.move;exact rfl))<;>(apply A.one 4;kernel_rfl;exact rfl;(((apply R.callV (vs:=[.pointer (some ⟨x.bc,0,none⟩)]);(iterate 3 exact rfl);intro w1 hw1;exact hbk hw1 (At.mem (by (focus (repeat' first|exact At.head|apply At.tail);done))))));apply R.nil;refine ⟨?_,?_⟩;(focus ((repeat' (first|exact trivial|(refine ⟨?_,?_⟩;exact At.head))))))<;>(apply A.one 5;kernel_rfl;exact rfl;(((apply R.callE (Li:=QB) (vs:=[.pointer (some ⟨x.bb,0,none⟩)]);(iterate 3 exact rfl);(focus (repeat' first|exact Ext.here _ _|apply Ext.cons);done);intro w1 hw1;exact hkn w1;rintro v Lo ⟨o1,ho1,rfl,rfl⟩;rw [List.append_assoc])));apply R.nil;refine ⟨?_,?_⟩;(focus (repeat' first|exact trivial|exact At.head|apply At.right|refine ⟨?_,?_⟩)))<;>(apply A.one 10;kernel_rfl;exact rfl;(((apply R.callV (vs:=[.pointer (some ⟨x.bc,0,none⟩)]);(iterate 3 exact rfl);intro w1 hw1;exact hbk hw1 (At.mem (by (focus (repeat' first|exact At.head|apply At.tail|apply At.right);done))))));apply R.nil;refine ⟨?_,?_⟩;(focus (repeat' first|exact trivial|exact At.head|apply At.right|refine ⟨?_,?_⟩)))<;>(apply A.one 11;kernel_rfl;exact rfl;(((apply R.callE (Li:=QB) (vs:=[.pointer (some ⟨x.bb,0,none⟩)]);(iterate 3 exact rfl);(focus (repeat' first|exact Ext.here _ _|apply Ext.app);done);intro w1 hw1;exact hwn w1;rintro v Lo ⟨o2,ho2,rfl,rfl⟩;rw [slV_eq ho2,List.append_assoc])));apply R.nil;refine ⟨?_,?_⟩;(focus (repeat' first|exact trivial|exact At.head|apply At.right|refine ⟨?_,?_⟩)))<;>(apply A.one 12;kernel_rfl;exact rfl;(((apply R.appendRd (xs:=([]:List Cl)) (v:=Cl.v) (sz:=4) (ov:=o1) (n:=0) (m:=0) (old:=fl Cl.v []);(iterate 12 exact rfl);exact ho1;(focus (repeat' first|exact Ext.here _ _|apply Ext.app);done);exact rfl;exact Cl.v_len;exact rfl;(intro w1 hw1;exact .inl rfl);exact rfl;omega;intro ov3 hov3 _)));apply R.nil;refine ⟨?_,?_⟩;(focus (repeat' first|exact trivial|exact At.head|apply At.right|refine ⟨?_,?_⟩)))<;>(apply A.tk 13;exact rfl;kernel_rfl;(apply Ok1.lenOv;(iterate 3 exact rfl);exact hov3))<;>(apply A.done;kernel_rfl)))|apply T.seq|apply T.region|apply T.block|apply T.exit|(apply T.cond_f;exact rfl)))
  all_goals (apply RetOk.n)
  all_goals exact ⟨_,by (focus (repeat' first|exact Ext.one _ _|exact Ext.here _ _|exact Ext.all _|apply Keep.cons|apply Keep.app|apply Keep.last|apply Ext.app);done),rfl⟩
end Go.Proofs.YtcfdgnajepilbaaGreat
