/- Texts of the proof: Dg6, Dg7, Eng28, Mc1, Mc2, Wi2, Mc3, Mc4, C1, C2, C3a, D0, Eng17, Eng16, M1, Se1, Sc1, Sc3, Sc5, Sc7, Sp2, Eng29, Cl1. -/
import Derived.Test.YtcfdgnajepilbaaGreatL28nb2
import Derived.Lib.ConvBytes
import Derived.Sort.Statements
import Derived.Shelf.SlSortCmp.Insertion
import Derived.Shelf.SlSortCmp.WholeK
import Derived.Test.YtcfdgnajepilbaaGreatShelf
set_option linter.unusedSimpArgs false
set_option linter.unusedVariables false
namespace Go.Proofs.YtcfdgnajepilbaaGreat
open Go.RowKit Go.Shelf
set_option maxRecDepth 100000
/-- A running digest: on,its words;what is left of it lies in a slice of one's own,from k on. -/
structure RS where
  on:Bool
  s:H8
  ov:Ov
  xs:List Int
  p:Option Addr
  cap:Nat
  k:Nat
  lf:List Int
  n:Nat
def rnC (st:RS):List Value:=[.bool st.on,.slice st.p st.lf.length st.cap,.int .i64 st.n]
def RL (r:Nat) (st:RS):Lst:=(r,.cells ⟨st.s.v++rnC st⟩ 450 (0,0))::blkL 5 st.ov (u8s st.xs)
structure RuI (st:RS) (b:List Int):Prop where
  ov:OvOk 1 st.ov st.xs.length (u8s st.xs)
  sfx:Sfx (ovp st.ov) st.p st.xs.length st.k
  lf:st.lf=st.xs.drop st.k
  cap:st.lf.length≤st.cap
  n:st.n=b.length
  left:st.lf=leftI b
  byt:Byt b
  words:st.on=true→st.s=wordsI b
  off:st.on=false→b=[]
theorem CallM.imp {P:Program} {f:FuncId} {vs:List Value} {L:Lst} {w:World} {R R':Value→Lst→Prop} (h:CallM P f vs L w R) (hr:∀ v L,R v L→R' v L):CallM P f vs L w R' :=
  ⟨fun hw=>(h.run hw).mono fun e w' ⟨v,L',h1,h2,h3⟩=>⟨v,L',h1,hr _ _ h2,h3⟩⟩
theorem all_own (r:Nat) (s:H8) (rest:List Value) (e e2:TypeId) {ov:Ov} (b:List Int) {n:Nat} (hov:OvOk 1 ov n (u8s b)) (hbig:n≤1073741824) (hb:Byt b) {w0 w:World} {S:List Nat} {L Lr:Lst} (hw:Hp w0 S L w) (he:Ext L [(r,.cells ⟨s.v++rest⟩ e (0,0))] Lr) (hin:∀ x∈blkL e2 ov (u8s b),x∈Lr) :
    CallM Tryz.prog 376 [.pointer (some ⟨r,0,none⟩),slV ov n] [(r,.cells ⟨s.v++rest⟩ e (0,0))] w fun v L=>∃ s2 p' cap',s2=allI kI (n / 64) b s∧v = .slice p' (n - 64 * (n / 64)) cap' ∧ n - 64 * (n / 64)≤cap' ∧ Sfx (ovp ov) p' n (64 * (n / 64))∧L=[(r,.cells ⟨s2.v++rest⟩ e (0,0))]:=by
  have hl:n=b.length:=by have:=hov.1;rw [u8s_len] at this;omega
  have hov':=hov
  rw [slV_eq hov]
  rw [← fl_u8] at hov' hin
  subst hl
  refine CallM.imp (all_ok r s rest e (ovp ov) b.length _ b rfl ?_ hbig hb w (RdSl.own' hw (fun x hx=>he.perm.subset (List.mem_append_right _ (hin x hx))) hov' u8V_len) ?_) fun v L ⟨p',cap',h1,h2,h3,h4⟩=>⟨_,p',cap',rfl,h1,h2,h3,h4⟩
  · cases ov with
    | none=>have:b.length=0:=hov.2;simp [ovc,this]
    | some z=>simp [ovc]
  · cases ov with
    | none=>intro a ha;cases ha
    | some z=>obtain ⟨b0,j,junk⟩:=z;intro a ha;cases ha;exact RdSl.off hw he (hin _ List.mem_cons_self)
theorem rAdd_ok (r:Nat) (st:RS) (b:List Int) (hI:RuI st b) (pp:Option Addr) (m cap:Nat) (ps:List Pt) (hm:m=ps.length) (hbyt:Byt (cat ps)) (hbig:(b++cat ps).length≤1000000000) (hm2:m≤1000000000) (w:World) (hp:RdSl w pp Pt.v ps) (hoff:ps≠[]→Off pp (blks (RL r st))) (hall:∀ x∈ps,RdSl w x.p u8V x.xs∧(x.xs≠[]→Off x.p (blks (RL r st)))) :
    CallM Tryz.prog 317 [.pointer (some ⟨r,0,none⟩),.slice pp m cap] (RL r st) w fun v L=>∃ st',v = .pointer (some ⟨r,0,none⟩)∧L=RL r st' ∧ RuI st' (b++cat ps)∧st'.on=true:=by
  subst hm
  refine enterK (tb:=tb) Tryz.func317 rfl Tryz.ntmps317 rfl ?_
  obtain ⟨S,hS⟩:∃ S,S=blks (RL r st):=⟨_,rfl⟩
  rw [← hS] at hoff hall ⊢
  rw [List.length_append] at hbig
  repeat' (first|(apply R.is1;first|(apply R.isBin;(apply R.pure;exact rfl;(apply Ok1.eqlP;(iterate 5 exact rfl))))|(apply R.pure;exact rfl;first|(apply Ok1.move;exact rfl)|(apply Ok1.fieldAddr;(iterate 5 exact rfl))|(apply Ok1.load;exact rfl;(apply Ld.own1;exact rfl;exact rfl;exact At.head;exact rfl))|(apply Ok1.assign;exact rfl)|(apply Ok1.not;exact rfl)|(apply Ok1.nilCheck;exact rfl)))|apply R.nil|(apply T.is;first|(refine T.meetK (x:=.seq (.region 3 _ _) _) (α:=RS) (I:=fun x=>RuI x b∧x.on=true) (σi:=fun x=>[(0,.pointer (some ⟨r,0,none⟩)),(1,.slice pp ps.length cap)]) (Li:=fun x=>RL r x) ?_ ?_)|apply T.seq|apply T.region|apply T.skip|(apply T.cond_f;exact rfl)|(apply T.cond rfl<;>intro)))
  · have hof:st.on=false:=by simpa using ‹(!st.on)=true›
    simp only [RL,rnC,H8.v,H8.l,u32s,List.map_cons,List.map_nil,List.cons_append,List.nil_append]
    repeat' (first|(apply R.is1;first|(apply R.isCall;apply R.callP rfl rfl rfl begun_ok)|(apply R.pure;exact rfl;first|(apply Ok1.fieldAddr;(iterate 5 exact rfl))|(apply Ok1.nilCheck;exact rfl)))|(apply R.is0;(apply R.store;(iterate 6 exact rfl);exact Upd.head;exact rfl))|apply R.nil)
    refine ⟨⟨true,h0I,st.ov,st.xs,st.p,st.cap,st.k,st.lf,st.n⟩,⟨⟨hI.ov,hI.sfx,hI.lf,hI.cap,hI.n,hI.left,hI.byt,fun _=>by rw [hI.off hof];rfl,fun h=>by cases h⟩,rfl⟩,⟨rfl,rfl,trivial⟩,?_⟩
    (focus (repeat' first|exact Ext.one _ _|exact Ext.all _|apply Keep.cons|apply Keep.last);done)
  · have hof:st.on=true:=by simpa using ‹(!st.on)=false›
    exact ⟨st,⟨hI,hof⟩,⟨rfl,rfl,trivial⟩,by (focus (repeat' first|exact Ext.one _ _|exact Ext.all _|apply Keep.cons|apply Keep.last);done)⟩
  · clear hI hS
    rintro st0 ⟨hI0,hon0⟩
    repeat' (first|(apply R.is1;first|(apply R.isCall;(apply R.pure;exact rfl;(apply Ok1.lenS;(iterate 3 exact rfl))))|(apply R.pure;exact rfl;(apply Ok1.move;exact rfl)))|apply R.nil|(apply T.is;first|apply T.seq|apply T.region|apply T.block))
    apply T.loopK (α:=Nat × RS) (I:=fun y=>y.1≤ps.length∧RuI y.2 (b++cat (ps.take y.1))∧y.2.on=true) (σi:=fun y=>[(0,.pointer (some ⟨r,0,none⟩)),(21,.slice pp ps.length cap),(22,.int .i64 ps.length),(23,.int .i64 y.1)]) (Li:=fun y=>RL r y.2) (μ:=fun y=>ps.length - y.1) (i0:=(0,st0))
    · exact ⟨Nat.zero_le _,by simpa [cat_nil] using hI0,hon0⟩
    · exact ⟨rfl,rfl,rfl,rfl,trivial⟩
    · (focus (repeat' first|exact Ext.one _ _|exact Ext.all _|apply Keep.cons|apply Keep.last);done)
    · rintro ⟨i,s1⟩ ⟨hi,hI1,hon1⟩
      simp only at hi hI1 hon1 ⊢
      rcases Nat.lt_or_ge i ps.length with hlt|hge
      · obtain ⟨x,hx⟩:∃ x,ps[i]? = some x:=⟨_,List.getElem?_eq_getElem (by omega)⟩
        obtain ⟨hrd,hxo⟩:=hall x (List.mem_of_getElem? hx)
        obtain ⟨b',o',hpe,H⟩:=hp.at hx
        replace H:=H 1 Pt.v_len
        have hbS:=hoff (by intro h;rw [h] at hlt;simp at hlt) _ hpe
        have hs:=cat_snoc hx
        have hl:=congrArg List.length hs
        rw [List.length_append] at hl
        have hle2:=cat_le ps (i+1)
        have hbx:Byt x.xs:=fun y hy=>hbyt y (List.mem_flatMap.2 ⟨x,List.mem_of_getElem? hx,hy⟩)
        have hB:b++cat (ps.take (i+1))=(b++cat (ps.take i))++x.xs:=by rw [hs,List.append_assoc]
        have hBl:(b++cat (ps.take (i+1))).length=(b++cat (ps.take i)).length+x.xs.length:=by rw [hB,List.length_append]
        have hBle:(b++cat (ps.take (i+1))).length≤1000000000:=by rw [List.length_append];omega
        generalize b++cat (ps.take i)=B at *
        obtain ⟨on,s,ov,xs,p1,cap1,k,lf,n⟩:=s1
        obtain ⟨hov,hsfx,hlf,hcap1,hn,hleft,hbB,hw',_⟩:=hI1
        simp only at hov hsfx hlf hcap1 hn hleft hw' hon1
        subst hon1
        have hfeed:=feed B x.xs
        rw [← hleft,← hw' rfl] at hfeed
        have hll:=left_len B
        rw [← hleft] at hll
        have hbl:Byt (lf++x.xs):=(by rw [hleft];exact hbB.drop _:Byt lf).app hbx
        have hrl:∀ {w0 w1:World} {S:List Nat} {L:Lst},Hp w0 S L w1→(∀ x∈blkL 5 ov (u8s xs),x∈L)→RdSl w1 p1 u8V lf:=fun hw1 hin=>by
          rw [hlf]
          refine hsfx.rd _ xs rfl ?_
          rw [← fl_u8] at hin hov
          exact RdSl.own' hw1 hin hov u8V_len
        have hcat:cat [⟨p1,cap1,lf⟩,x]=lf++x.xs:=by simp [cat]
        have hln:(lf++x.xs).length=lf.length+x.xs.length:=List.length_append
        simp only [RL,rnC,H8.v,H8.l,u32s,List.map_cons,List.map_nil,List.cons_append,List.nil_append]
        repeat' (first|(apply R.is1;first|(apply R.isBin;(apply R.pure;exact rfl;first|(apply Ok1.add64;exact rfl;exact rfl;omega;omega)|(apply Ok1.lss_t;exact rfl;exact rfl;omega)))|(apply R.isCall;(apply R.pure;exact rfl;(apply Ok1.lenS;(iterate 3 exact rfl))))|(apply R.pure;exact rfl;first|(apply Ok1.indexAddrP;(iterate 4 exact rfl);exact hpe;exact rfl;omega;omega)|(apply Ok1.load;exact rfl;apply Ld.row0 H;exact rfl;exact hbS;(iterate 3 exact rfl))|(apply Ok1.move;exact rfl)|(apply Ok1.fieldAddr;(iterate 5 exact rfl))|(apply Ok1.load;exact rfl;(apply Ld.own1;exact rfl;exact rfl;exact At.head;exact rfl))|(apply Ok1.assign;exact rfl)|(apply Ok1.nilCheck;exact rfl)))|(apply R.is0;(apply R.store;(iterate 6 exact rfl);exact Upd.head;exact rfl))|apply R.nil|(apply T.is;first|(apply T.drawC (id:=9) [] (by decide);((apply A.tk 0;exact rfl;kernel_rfl;(apply Ok1.move;exact rfl))<;>(apply A.tk 1;exact rfl;kernel_rfl;(apply Ok1.move;exact rfl))<;>(apply A.tk 2;exact rfl;kernel_rfl;(apply Ok1.nilCheck;exact rfl))<;>(apply A.tk 3;exact rfl;kernel_rfl;(apply Ok1.fieldAddr;(iterate 5 exact rfl)))<;>(apply A.tk 4;exact rfl;kernel_rfl;(apply Ok1.move;exact rfl))<;>(apply A.tk 5;exact rfl;kernel_rfl;(apply Ok1.nilCheck;exact rfl))<;>(apply A.tk 6;exact rfl;kernel_rfl;(apply Ok1.fieldAddr;(iterate 5 exact rfl)))<;>(apply A.tk 8;exact rfl;kernel_rfl;(apply Ok1.move;exact rfl))<;>(apply A.one 7;kernel_rfl;exact rfl;(((apply R.pure;exact rfl;(apply Ok1.load;exact rfl;(apply Ld.own1;exact rfl;exact rfl;exact At.head;exact rfl)))));apply R.nil;refine ⟨?_,?_⟩;(focus ((repeat' (exact trivial)))))<;>(apply A.one 9;kernel_rfl;exact rfl;(((apply R.buildSlice;(iterate 12 exact rfl);intro)));apply R.nil;refine ⟨?_,?_⟩;(focus ((repeat' (exact trivial)))))<;>(apply A.one 10;kernel_rfl;exact rfl;(((apply R.callE;(iterate 3 exact rfl);exact Ext.none _;intro w1 hw1;have h9:=concat_ok (some ⟨_,0,none⟩) 2 2 [⟨p1,cap1,lf⟩,x] rfl (by rw [hcat];omega) (by omega) w1 (RdSl.of (v:=Pt.v) (rs:=[⟨p1,cap1,lf⟩,x]) (junk:=[]) hw1 (by exact At.head) rfl) (by intro y hy;rcases List.mem_cons.1 hy with rfl|hy;exact hrl hw1 (Ext.mem (by (focus (repeat' first|exact Ext.all _|apply Ext.cons);done)));rw [List.mem_singleton.1 hy];exact hrd.chg' hw1.chg hxo);rw [hcat] at h9;exact h9;rintro v Lo ⟨ovc,hovc,rfl,rfl⟩)));apply R.nil;refine ⟨?_,?_⟩;(focus ((repeat' (exact trivial)))))<;>(apply A.one 11;kernel_rfl;exact rfl;(((apply R.callE (Li:=[(r,.cells ⟨s.v++[.bool true,.slice p1 lf.length cap1,.int .i64 (n+x.xs.length)]⟩ 450 (0,0))]);(iterate 3 exact rfl);(focus (repeat' first|exact Ext.one _ _|apply Ext.cons|apply Ext.app);done);intro w1 hw1;exact all_own r s _ _ _ (lf++x.xs) hovc (by omega) hbl hw1 (by (focus (repeat' first|exact Ext.one _ _|apply Ext.cons|apply Ext.app);done)) (Ext.mem (by (focus ((repeat' (exact Ext.here _ _));done))));rintro v Lo ⟨s2,p',cap',hs2,rfl,hc2,hsf2,rfl⟩;simp only [H8.v,H8.l,u32s,List.map_cons,List.map_nil,List.cons_append,List.nil_append])));apply R.nil;refine ⟨?_,?_⟩;(focus ((repeat' (exact trivial)))))<;>(apply A.tk 12;exact rfl;kernel_rfl;(apply Ok1.nilCheck;exact rfl))<;>(apply A.tk 13;exact rfl;kernel_rfl;(apply Ok1.fieldAddr;(iterate 5 exact rfl)))<;>(apply A.one 14;kernel_rfl;exact rfl;(((apply R.store;(iterate 6 exact rfl);exact Upd.head;exact rfl)));apply R.nil;refine ⟨?_,?_⟩;(focus ((repeat' (exact trivial)))))<;>(apply A.done;kernel_rfl)))|apply T.seq|apply T.region|apply T.block|apply T.skip|(apply T.cond_t;exact rfl)))
        rw [← hs2] at hfeed
        refine ⟨(i+1,⟨true,s2,ovc,lf++x.xs,p',cap',64 * ((lf++x.xs).length / 64),(lf++x.xs).drop (64 * ((lf++x.xs).length / 64)),n+x.xs.length⟩),⟨by simp only;omega,?_,rfl⟩,by simp only;omega,⟨rfl,rfl,rfl,rfl,trivial⟩,?_⟩
        · rw [hB]
          exact ⟨hovc,hsf2,rfl,by simp only [List.length_drop];exact hc2,by simp only [List.length_append];omega,hfeed.2,hbB.app hbx,fun _=>hfeed.1,fun h=>by cases h⟩
        · simp only [RL,rnC,H8.v,H8.l,u32s,List.map_cons,List.map_nil,List.cons_append,List.nil_append,List.length_drop,Int.natCast_add]
          (focus (repeat' first|exact Ext.one _ _|exact Ext.here _ _|apply Keep.cons|apply Keep.last);done)
      · have him:i=ps.length:=by omega
        subst him
        rw [List.take_length] at hI1
        repeat' (first|(apply R.is1;first|(apply R.isBin;(apply R.pure;exact rfl;(apply Ok1.lss_f;exact rfl;exact rfl;omega)))|(apply R.pure;exact rfl;first|(apply Ok1.move;exact rfl)|(apply Ok1.assign;exact rfl)))|apply R.nil|(apply T.is;first|apply T.seq|apply T.region|apply T.exit|apply T.ret|(apply T.cond_f;exact rfl)))
        (apply RetOk.t;exact rfl)
        exact ⟨_,by (focus (repeat' first|exact Ext.one _ _|exact Ext.all _|apply Keep.cons|apply Keep.last);done),s1,rfl,rfl,hI1,hon1⟩
theorem rCopy_ok (r:Nat) (st:RS) (b:List Int) (hI:RuI st b) (hbig:b.length≤1000000000) (w:World) (hb:w.heap[r]? = some (.cells ⟨st.s.v++rnC st⟩ 450 (0,0))) (hl:RdSl w st.p u8V st.lf) :
    CallM Tryz.prog 377 [.pointer (some ⟨r,0,none⟩)] [] w fun v L=>∃ r' st',v = .pointer (some ⟨r',0,none⟩)∧L=RL r' st' ∧ RuI st' b:=by
  refine enterK (tb:=tb) Tryz.func377 rfl Tryz.ntmps377 rfl ?_
  have hll:=left_len b
  rw [← hI.left] at hll
  obtain ⟨on,s,ov,xs,p1,cap1,k,lf,n⟩:=st
  simp only [RL,rnC,H8.v,H8.l,u32s,List.map_cons,List.map_nil,List.cons_append,List.nil_append] at hb hl hll ⊢
  have hcl:=fun w1 (hc:Chg [] w w1)=>clone_ok p1 lf.length cap1 lf rfl (by omega) w1 (hl.chg hc (Off.nil _))
  repeat' (first|(apply R.is1;first|(apply R.isBin;(apply R.pure;exact rfl;(apply Ok1.eqlP;(iterate 5 exact rfl))))|(apply R.isCall;(apply R.callE;(iterate 3 exact rfl);exact Ext.none _;intro w1 hw1;exact hcl w1 hw1.chg;rintro v Lo ⟨ov2,hov2,hsome,rfl,rfl⟩;rw [slV_eq hov2]))|(apply R.pure;exact rfl;first|(apply Ok1.move;exact rfl)|(apply Ok1.fieldAddr;(iterate 5 exact rfl))|(apply Ok1.load;exact rfl;first|(apply Ld.blk1;exact rfl;exact rfl;assumption;(exact List.not_mem_nil);exact rfl)|(apply Ld.blkk;exact rfl;exact rfl;assumption;(exact List.not_mem_nil);exact rfl))|(apply Ok1.assign;exact rfl)|(apply Ok1.nilCheck;exact rfl))|(apply R.alloc;(iterate 3 exact rfl);intro))|(apply R.is0;(apply R.store;(iterate 6 exact rfl);(focus (repeat' first|exact Upd.head|apply Upd.right);done);exact rfl))|apply R.nil|(apply T.is;first|apply T.seq|apply T.region|apply T.skip|apply T.ret|(apply T.cond_f;exact rfl)))
  rename_i br
  (apply RetOk.t;exact rfl)
  refine ⟨_,?_,br,⟨on,s,ov2,lf,ovp ov2,ovc ov2 lf.length,0,lf,n⟩,rfl,rfl,⟨hov2,Sfx.refl _ _,rfl,?_,hI.n,hI.left,hI.byt,hI.words,hI.off⟩⟩
  · simp only [RL,rnC,H8.v,H8.l,u32s,List.map_cons,List.map_nil,List.cons_append,List.nil_append]
    (focus (repeat' first|exact Ext.one _ _|exact Ext.here _ _|apply Keep.cons|apply Keep.last|apply Ext.app);done)
  · simp only
    cases ov2 with
    | none=>have:lf.length=0:=hov2.2;simp [ovc,this]
    | some z=>simp [ovc]
theorem rdown {ov:Ov} {xs:List Int} {e:Nat} (hov:OvOk 1 ov xs.length (u8s xs)) {w0 w:World} {S:List Nat} {L:Lst} (hw:Hp w0 S L w) (hin:∀ x∈blkL e ov (u8s xs),x∈L):RdSl w (ovp ov) u8V xs:=by
  rw [← fl_u8] at hov hin
  exact RdSl.own' hw hin hov u8V_len
theorem RuI.rd {st:RS} {b:List Int} (hI:RuI st b) {w0 w:World} {S:List Nat} {L:Lst} (hw:Hp w0 S L w) (hin:∀ x∈blkL 5 st.ov (u8s st.xs),x∈L):RdSl w st.p u8V st.lf:=by
  rw [hI.lf]
  exact hI.sfx.rd _ _ rfl (rdown hI.ov hw hin)
theorem rSum_ok (r:Nat) (st:RS) (b:List Int) (hI:RuI st b) (hbig:b.length≤999999000) (w:World) (hb:w.heap[r]? = some (.cells ⟨st.s.v++rnC st⟩ 450 (0,0))) (hl:RdSl w st.p u8V st.lf) :
    CallW Tryz.prog 319 [.pointer (some ⟨r,0,none⟩)] w fun v _=>v = .agg ⟨u8s (shaI b)⟩:=by
  refine enterW (tb:=tb) Tryz.func319 rfl Tryz.ntmps319 rfl ?_
  have hcopy:=fun w1 (hc:Chg [] w w1)=>rCopy_ok r st b hI (by omega) w1 (hc.heap hb List.not_mem_nil) (hl.chg hc (Off.nil _))
  repeat' (first|(apply R.is1;first|(apply R.isBin;(apply R.pure;exact rfl;(apply Ok1.eqlP;(iterate 5 exact rfl))))|(apply R.isCall;(apply R.callE;(iterate 3 exact rfl);exact Ext.none _;intro w1 hw1;exact hcopy w1 hw1.chg;rintro v Lo ⟨r',st',rfl,rfl,hI'⟩))|(apply R.pure;exact rfl;(apply Ok1.move;exact rfl))|(apply R.alloc;(iterate 3 exact rfl);intro))|apply R.nil|(apply T.is;first|apply T.seq|apply T.region|apply T.skip|(apply T.cond_f;exact rfl)))
  repeat' (first|(apply R.is1;first|(apply R.isCall;(apply R.callE (Li:=RL r' st');(iterate 3 exact rfl);(focus ((repeat' (exact Ext.here _ _));done));intro w1 hw1;exact rAdd_ok r' st' b hI' none 0 0 [] rfl (by intro y hy;cases hy) (by rw [cat_nil,List.append_nil];omega) (by decide) w1 (.inl rfl) (fun h=>absurd rfl h) (by intro y hy;cases hy);rintro v Lo ⟨st2,rfl,rfl,hI2,hon2⟩;rw [cat_nil,List.append_nil] at hI2))|(apply R.pure;exact rfl;(apply Ok1.assign;exact rfl))|(apply R.buildSlice;(iterate 12 exact rfl);intro))|apply R.nil|(apply T.is;first|apply T.seq|apply T.region|apply T.block))
  rename_i bt b4
  have hl2:=left_len b
  rw [← hI2.left] at hl2
  have hIw:=hI2.words hon2
  have hn0:=hI.n
  obtain ⟨on2,s2,ov2,xs2,p2,cap2,k2,lf2,n2⟩:=st2
  obtain ⟨on0,s0,ov0,xs0,p0,cap0,k0,lf0,n0⟩:=st
  simp only at hl2 hIw hn0 hon2
  obtain ⟨Z,hZ⟩:∃ Z,Z=(119 - b.length % 64) % 64:=⟨_,rfl⟩
  simp only [rnC,H8.v,H8.l,u32s,List.map_cons,List.map_nil,List.cons_append,List.nil_append] at hb
  simp only [RL,rnC,H8.v,H8.l,u32s,List.map_cons,List.map_nil,List.cons_append,List.nil_append]
  apply T.loopK (α:=Nat × Ov) (I:=fun x=>x.1≤Z∧OvOk 1 x.2 (1+x.1) (u8s (128::List.replicate x.1 0))) (σi:=fun x=>[(0,.pointer (some ⟨r,0,none⟩)),(2,.pointer (some ⟨bt,0,none⟩)),(3,.pointer (some ⟨r',0,none⟩)),(4,slV x.2 (1+x.1))])
    (Li:=fun x=>(r',.cells ⟨[.int .u32 s2.a,.int .u32 s2.b,.int .u32 s2.c,.int .u32 s2.d,.int .u32 s2.e,.int .u32 s2.f,.int .u32 s2.g,.int .u32 s2.h,.bool on2,.slice p2 lf2.length cap2,.int .i64 n2]⟩ 450 (0,0))::(bt,.cells ⟨List.replicate 32 (.int .u8 0)⟩ 33 (0,0))::(blkL 5 x.2 (u8s (128::List.replicate x.1 0))++blkL 5 ov2 (u8s xs2))) (μ:=fun x=>Z - x.1) (i0:=(0,some (b4,0,[])))
  · exact ⟨Nat.zero_le _,rfl,rfl⟩
  · exact ⟨rfl,rfl,rfl,rfl,trivial⟩
  · (focus (repeat' first|exact Ext.one _ _|exact Ext.here _ _|exact Ext.all _|apply Keep.cons|apply Keep.app|apply Keep.last|apply Ext.cons|apply Ext.app);done)
  · rintro ⟨j,ov⟩ ⟨hj,hov⟩
    simp only at hj hov ⊢
    rcases Nat.lt_or_ge j Z with hlt|hge
    · have hne:((lf2.length:Int)+((1+j:Nat):Int)+8) % 64≠0:=by omega
      repeat' (first|(apply R.is1;first|(apply R.isBin;(apply R.pure;exact rfl;first|(apply Ok1.add64;exact rfl;exact rfl;omega;omega)|(apply Ok1.neq_t;exact rfl;exact rfl;omega)|(apply Ok1.remN;exact rfl;exact rfl;omega;omega)))|(apply R.isCall;first|(apply R.pure;exact rfl;apply Ok1.lenOv;(iterate 3 exact rfl);exact hov)|(apply R.append1;(iterate 12 exact rfl);(focus (repeat' first|exact OwnAt.mid hov|apply OwnAt.tail);done);exact At.head;exact rfl;exact rfl;omega;omega;intro b2 j2 k2 hj2)|(apply R.pure;exact rfl;(apply Ok1.lenS;(iterate 3 exact rfl))))|(apply R.pure;exact rfl;first|(apply Ok1.move;exact rfl)|(apply Ok1.fieldAddr;(iterate 5 exact rfl))|(apply Ok1.load;exact rfl;(apply Ld.own1;exact rfl;exact rfl;exact At.head;exact rfl))|(apply Ok1.assign;exact rfl)|(apply Ok1.nilCheck;exact rfl))|(apply R.buildSlice;(iterate 12 exact rfl);intro))|apply R.nil|(apply T.is;first|apply T.seq|apply T.region|apply T.block|apply T.skip|(apply T.cond_t;exact rfl)))
      have hov':=hov.some (b:=b2) (ys:=[.int .u8 0]) (m:=1) rfl hj2
      have hu:u8s (128::List.replicate (j+1) 0)=u8s (128::List.replicate j 0)++[.int .u8 0]:=by rw [List.replicate_succ'];simp [u8s]
      refine ⟨(j+1,some (b2,j2,k2)),⟨by simp only;omega,by simp only [hu];exact hov'⟩,by simp only;omega,⟨rfl,rfl,rfl,rfl,trivial⟩,?_⟩
      simp only [hu,blkL,List.cons_append,List.nil_append]
      (focus (repeat' first|exact Ext.one _ _|exact Ext.all _|apply Keep.cons|apply Keep.last|apply Ext.cons);done)
    · have hjZ:j=Z:=by omega
      subst j
      have hne:((lf2.length:Int)+((1+Z:Nat):Int)+8) % 64=0:=by omega
      repeat' (first|(apply R.is1;first|(apply R.isBin;(apply R.pure;exact rfl;first|(apply Ok1.add64;exact rfl;exact rfl;omega;omega)|(apply Ok1.neq_f;exact rfl;exact rfl;omega)|(apply Ok1.remN;exact rfl;exact rfl;omega;omega)))|(apply R.isCall;first|(apply R.pure;exact rfl;apply Ok1.lenOv;(iterate 3 exact rfl);exact hov)|(apply R.pure;exact rfl;(apply Ok1.lenS;(iterate 3 exact rfl))))|(apply R.pure;exact rfl;first|(apply Ok1.move;exact rfl)|(apply Ok1.fieldAddr;(iterate 5 exact rfl))|(apply Ok1.load;exact rfl;(apply Ld.own1;exact rfl;exact rfl;exact At.head;exact rfl))|(apply Ok1.assign;exact rfl)|(apply Ok1.nilCheck;exact rfl)))|apply R.nil|(apply T.is;first|apply T.seq|apply T.region|apply T.block|apply T.exit|(apply T.cond_f;exact rfl)))
      apply T.loopK (α:=Nat × Ov) (I:=fun x=>x.1≤8∧OvOk 1 x.2 (1+Z+x.1) (u8s (128::(List.replicate Z 0++(lenI (8 * (n0:Int))).take x.1)))) (σi:=fun x=>[(0,.pointer (some ⟨r,0,none⟩)),(2,.pointer (some ⟨bt,0,none⟩)),(3,.pointer (some ⟨r',0,none⟩)),(4,slV x.2 (1+Z+x.1)),(5,.int .i64 (7 - (x.1:Int)))])
        (Li:=fun x=>(r',.cells ⟨[.int .u32 s2.a,.int .u32 s2.b,.int .u32 s2.c,.int .u32 s2.d,.int .u32 s2.e,.int .u32 s2.f,.int .u32 s2.g,.int .u32 s2.h,.bool on2,.slice p2 lf2.length cap2,.int .i64 n2]⟩ 450 (0,0))::(bt,.cells ⟨List.replicate 32 (.int .u8 0)⟩ 33 (0,0))::(blkL 5 x.2 (u8s (128::(List.replicate Z 0++(lenI (8 * (n0:Int))).take x.1)))++blkL 5 ov2 (u8s xs2))) (μ:=fun x=>8 - x.1) (i0:=(0,ov))
      · exact ⟨Nat.zero_le _,by simpa using hov⟩
      · exact ⟨rfl,rfl,rfl,rfl,rfl,trivial⟩
      · simp only [List.take_zero,List.append_nil]
        (focus (repeat' first|exact Ext.one _ _|exact Ext.here _ _|exact Ext.all _|apply Keep.cons|apply Keep.app|apply Keep.last);done)
      · clear hov hcopy hl
        rintro ⟨m,ov⟩ ⟨hm,hov⟩
        simp only at hm hov ⊢
        rcases Nat.lt_or_ge m 8 with hlt|hge
        · have hmz:m=0 ∨ m=1 ∨ m=2 ∨ m=3 ∨ m=4 ∨ m=5 ∨ m=6 ∨ m=7:=by omega
          have hu:u8s (128::(List.replicate Z 0++(lenI (8 * (n0:Int))).take (m+1)))=u8s (128::(List.replicate Z 0++(lenI (8 * (n0:Int))).take m))++[.int .u8 ((lenI (8 * (n0:Int))).getD m 0)]:=by
            rcases hmz with rfl|rfl|rfl|rfl|rfl|rfl|rfl|rfl<;>simp [lenI,u8s]
          have hpos:(0:Int)≤n0:=by omega
          have hbg:(n0:Int)≤1000000000:=by omega
          obtain ⟨sh,hsh⟩:∃ sh:Int,sh=pw (8 * (7 - m)):=⟨_,rfl⟩
          have hval:IntKind.u8.wrap ((n0:Int) * 8 / sh)=(lenI (8 * (n0:Int))).getD m 0:=by
            rw [u8_mod,Int.mul_comm]
            subst hsh
            rcases hmz with rfl|rfl|rfl|rfl|rfl|rfl|rfl|rfl<;>first|rfl|(simp [lenI,pw])
          have hj8:(8 * (7 - (m:Int))).toNat=8 * (7 - m):=by omega
          have hsh2:pw (8 * (7 - (m:Int))).toNat=sh:=by rw [hj8];exact hsh.symm
          have hb64:(8 * (7 - (m:Int))).toNat≤IntKind.u64.bits:=by rw [hj8];show 8 * (7 - m)≤64;omega
          clear hsh
          repeat' (first|(apply R.is1;first|(apply R.isBin;(apply R.pure;exact rfl;first|(apply Ok1.mulU;exact rfl;exact rfl;omega;omega)|(apply Ok1.shr;exact rfl;exact rfl;omega;exact hb64;exact hsh2)|(apply Ok1.sub64;exact rfl;exact rfl;omega;omega)|(apply Ok1.geq_t;exact rfl;exact rfl;omega)|(apply Ok1.mul64;exact rfl;exact rfl;omega;omega)))|(apply R.isCall;(apply R.append1;(iterate 12 exact rfl);(focus (repeat' first|exact OwnAt.mid hov|apply OwnAt.tail);done);exact At.head;exact rfl;exact rfl;omega;omega;intro b2 j2 k2 hj2))|(apply R.pure;exact rfl;first|(apply Ok1.convU64;(iterate 5 exact rfl);omega;omega)|(apply Ok1.move;exact rfl)|(apply Ok1.fieldAddr;(iterate 5 exact rfl))|(apply Ok1.load;exact rfl;(apply Ld.blk1;exact rfl;exact rfl;assumption;(exact List.not_mem_nil);exact rfl))|(apply Ok1.assign;exact rfl)|(apply Ok1.nilCheck;exact rfl)|(apply Ok1.conv;(iterate 5 exact rfl)))|(apply R.buildSlice;(iterate 12 exact rfl);intro))|apply R.nil|(apply T.is;first|apply T.seq|apply T.region|apply T.block|apply T.skip|(apply T.cond_t;exact rfl)))
          have hov':=hov.some (b:=b2) (ys:=[.int .u8 (IntKind.u8.wrap ((n0:Int) * 8 / sh))]) (m:=1) rfl hj2
          rw [hval,← hu] at hov'
          rw [hval,← hu]
          refine ⟨(m+1,some (b2,j2,k2)),⟨by simp only;omega,hov'⟩,by simp only;omega,⟨rfl,rfl,rfl,rfl,?_,trivial⟩,?_⟩
          · rw [show (7:Int) - ((m+1:Nat):Int)=7 - (m:Int) - 1 by omega]
            rfl
          · simp only [blkL,List.cons_append,List.nil_append]
            (focus (repeat' first|exact Ext.one _ _|exact Ext.all _|apply Keep.cons|apply Keep.last|apply Ext.cons);done)
        · have hm8:m=8:=by omega
          subst hm8
          have hpad:(128::(List.replicate Z 0++(lenI (8 * (n0:Int))).take 8))=padI b.length:=by subst hZ;subst hn0;rfl
          rw [hpad] at hov ⊢
          have hpl:1+Z+8=(padI b.length).length:=by have:=hov.1;rw [u8s_len] at this;omega
          have hbp:Byt (padI b.length):=by
            intro y hy
            rcases List.mem_cons.1 hy with rfl|hy
            · omega
            · rcases List.mem_append.1 hy with hy|hy
              · rw [List.eq_of_mem_replicate hy];omega
              · simp only [lenI,List.mem_cons,List.not_mem_nil,or_false] at hy
                rcases hy with rfl|rfl|rfl|rfl|rfl|rfl|rfl|rfl<;>omega
          have hpb:(padI b.length).length≤80:=by omega
          rw [hpl] at hov ⊢
          cases ov with
          | none=>exact absurd hov.2 (by omega)
          | some z =>
          obtain ⟨be,je,ke⟩:=z
          have hcat:cat [⟨some ⟨be,0,none⟩,(padI b.length).length+je,padI b.length⟩]=padI b.length:=by simp [cat]
          have hsl:=sha_len b
          have hls:(u8s (shaI b)).length=32:=by rw [u8s_len,hsl]
          have hone:=u8s_one (shaI b)
          have hset:∀ cs:List Value,cs.length=32→setE cs 0 (u8s (shaI b))=some (u8s (shaI b)):=fun cs h=>setE_all (by rw [hls,h])
          have hsub:=subE_all hls
          have hsw:=sha_words b
          generalize padI b.length=pd at *
          simp only [slV,blkL,List.cons_append,List.nil_append]
          repeat' (first|(apply R.is1;first|(apply R.isBin;(apply R.pure;exact rfl;(apply Ok1.geq_f;exact rfl;exact rfl;omega)))|(apply R.isCall;(apply R.callE (Li:=RL r' ⟨on2,s2,ov2,xs2,p2,cap2,k2,lf2,n2⟩);(iterate 3 exact rfl);(focus (exact Ext.cons _ (Ext.two _ (Ext.one _ _) (Ext.cons _ (Ext.cons _ (Ext.all _))))));intro w1 hw1;have h9:=rAdd_ok r' ⟨on2,s2,ov2,xs2,p2,cap2,k2,lf2,n2⟩ b hI2 (some ⟨_,0,none⟩) 1 1 [⟨some ⟨be,0,none⟩,pd.length+je,pd⟩] rfl (by rw [hcat];exact hbp) (by rw [hcat,List.length_append];omega) (by decide) w1 (RdSl.of (v:=Pt.v) (rs:=[⟨some ⟨be,0,none⟩,pd.length+je,pd⟩]) (junk:=[]) hw1 (by exact At.head) rfl) (fun _=>Off.of (k:=0) hw1 (Ext.cons _ (Ext.two _ (Ext.one _ _) (Ext.cons _ (Ext.cons _ (Ext.all _))))) (by exact At.head)) (fun y hy=>by rw [List.mem_singleton.1 hy];exact ⟨RdSl.of (v:=u8V) (rs:=pd) (junk:=ke) hw1 (by (focus (repeat' first|exact At.head|apply At.tail);done)) (by rw [fl_u8]),fun _=>Off.of (k:=0) hw1 (Ext.cons _ (Ext.two _ (Ext.one _ _) (Ext.cons _ (Ext.cons _ (Ext.all _))))) (by (focus (repeat' first|exact At.head|apply At.tail);done))⟩);exact h9;rintro v Lo ⟨st3,rfl,rfl,hI3,hon3⟩))|(apply R.pure;exact rfl;first|(apply Ok1.move;exact rfl)|(apply Ok1.fieldAddr;(iterate 5 exact rfl))|(apply Ok1.nilCheck;exact rfl))|(apply R.buildSlice;(iterate 12 exact rfl);intro))|apply R.nil|(apply T.is;first|apply T.seq|apply T.region|apply T.exit|(apply T.cond_f;exact rfl)))
          rw [hcat] at hI3
          have hw3:=hI3.words hon3
          rw [← hw3] at hsw
          simp only [RL,List.cons_append]
          repeat' (first|(apply R.is1;(apply R.isCall;(apply R.callV;(iterate 3 exact rfl);intro w1 hw1;have h9:=out_ok r' st3.s (rnC st3) _ _ w1 (hw1.get _ _ (At.mem (by exact At.head)));rw [← hsw] at h9;exact h9)))|(apply R.is0;(apply R.store;(iterate 4 exact rfl);exact hls;exact hone;(focus (repeat' first|exact Upd.head|apply Upd.tail|apply Upd.right);done);exact hset _ rfl))|apply R.nil|(apply T.is;apply T.ret))
          apply RetOk.c
          exact rfl
          apply Ld.ownk
          exact rfl
          exact rfl
          (focus (repeat' first|exact At.head|apply At.tail|apply At.right);done)
          exact hsub
          rfl
theorem dSum_ok (pp:Option Addr) (m cap:Nat) (ps:List Pt) (hm:m=ps.length) (hbyt:Byt (cat ps)) (hbig:(cat ps).length≤999999000) (hm2:m≤1000000000) (w:World) (hp:RdSl w pp Pt.v ps) (hall:∀ x∈ps,RdSl w x.p u8V x.xs) :
    CallW Tryz.prog 320 [.slice pp m cap] w fun v _=>v = .agg ⟨u8s (shaI (cat ps))⟩:=by
  refine enterW (tb:=tb) Tryz.func320 rfl Tryz.ntmps320 rfl ?_
  obtain ⟨st0,hst0⟩:∃ st0:RS,st0=⟨false,⟨0,0,0,0,0,0,0,0⟩,none,[],none,0,0,[],0⟩:=⟨_,rfl⟩
  have hI0:RuI st0 []:=by subst hst0;exact ⟨OvOk.start 1,Sfx.refl _ _,rfl,Nat.le_refl _,rfl,rfl,(fun x hx=>by cases hx),(fun h=>by cases h),fun _=>rfl⟩
  have hsl:=sha_len (cat ps)
  have hls:(u8s (shaI (cat ps))).length=32:=by rw [u8s_len,hsl]
  have hone:=u8s_one (shaI (cat ps))
  have hset:∀ cs:List Value,cs.length=32→setE cs 0 (u8s (shaI (cat ps)))=some (u8s (shaI (cat ps))):=fun cs h=>setE_all (by rw [hls,h])
  have hsub:=subE_all hls
  repeat' (first|(apply R.is1;first|(apply R.pure;exact rfl;first|(apply Ok1.move;exact rfl)|(apply Ok1.build;(iterate 5 exact rfl)))|(apply R.box;(iterate 3 exact rfl);intro)|(apply R.alloc;(iterate 3 exact rfl);intro))|apply R.nil|(apply T.is;first|apply T.seq|apply T.region))
  rename_i bt br
  repeat' ((apply R.is1;(apply R.isCall;(apply R.callE (Li:=RL br st0);(iterate 3 exact rfl);(focus (subst hst0;exact Ext.one _ _));intro w1 hw1;exact rAdd_ok br st0 [] hI0 pp m cap ps hm hbyt (by simpa using by omega) hm2 w1 (hp.chg' hw1.chg (fun _=>Off.nil _)) (hp.old Pt.v_len (by decide) (fun _=>Off.nil _) hw1 (by subst hst0;exact Ext.one _ _)) (fun y hy=>⟨(hall y hy).chg' hw1.chg (fun _=>Off.nil _),(hall y hy).old u8V_len (by decide) (fun _=>Off.nil _) hw1 (by subst hst0;exact Ext.one _ _)⟩);rintro v Lo ⟨st1,rfl,rfl,hI1,hon1⟩;rw [List.nil_append] at hI1))))
  have hsum:=fun w1 hb hl=>rSum_ok br st1 (cat ps) hI1 hbig w1 hb hl
  simp only [RL,List.cons_append]
  repeat' (first|(apply R.is1;(apply R.isCall;(apply R.callV;(iterate 3 exact rfl);intro w1 hw1;exact hsum w1 (hw1.get _ _ (At.mem (by exact At.head))) (hI1.rd hw1 (Ext.mem (by (focus (repeat' first|exact Ext.here _ _|apply Ext.cons);done)))))))|(apply R.is0;(apply R.store;(iterate 4 exact rfl);exact hls;exact hone;(focus (repeat' first|exact Upd.head|apply Upd.tail|apply Upd.right);done);exact hset _ rfl))|apply R.nil|(apply T.is;apply T.ret))
  apply RetOk.c
  exact rfl
  apply Ld.ownk
  exact rfl
  exact rfl
  (focus (repeat' first|exact At.head|apply At.tail|apply At.right);done)
  exact hsub
  rfl
set_option linter.unusedSectionVars false
theorem Hp.new {w0 w w':World} {S:List Nat} {L:Lst} {o:Obj} (h:Hp w0 S L w) (hc:Chg [] w w') (ho:w'.heap[w.heap.size]? = some o):Hp w0 S ((w.heap.size,o)::L) w':=by
  have h1:=h.step hc
  refine ⟨h1.chg,?_,?_,?_⟩
  · intro b o' hm
    rcases List.mem_cons.1 hm with e|hm
    · cases e;exact ho
    · exact h1.get b o' hm
  · simp only [List.map_cons,List.nodup_cons]
    refine ⟨fun hm=>?_,h.nod⟩
    obtain ⟨⟨b,o'⟩,hm,e⟩:=List.mem_map.1 hm
    have:=h.lt hm
    simp at e;omega
  · intro b o' hm
    rcases List.mem_cons.1 hm with e|hm
    · cases e;exact .inl h.chg.size
    · exact h.own b o' hm
section
variable {X:Cx} {σ:Env} {L L' Li Lr:Lst} {d:Option Nat} {dd c:Nat} {ty:TypeId} {pos:String} {af:Array Edge} {g:Option (Nat × Bool)} {x y:Operand} {t t2 e:TypeId} {r r2 re:TRow}
variable {all:Array Oper} {rest:List Oper} {K:Env→Lst→Prop} {p:Option Addr} {n m cap i b:Nat}
/-- An array's variable,cut to a slice of all of it. -/
theorem Ok1.sliceArr {o:Nat} (ht:X.tb.row t=some r) (hk:r.k = .arr n e) (he:X.tb.row e=some re) (hx:ev σ x=some (.pointer (some ⟨b,o,none⟩))) :
    Ok1 X ⟨d,.slice t x none none none,ty,pos,af,g⟩ σ L (.slice (some ⟨b,o,none⟩) n n):=.mk fun a w ha hw=>by
  have h2:=(X.tb.get ht).is
  rw [hk] at h2
  simp only [TK.is] at h2
  simp [execOp,Instr.sliceAt,run_underlying h2,ha.ev hx,Instr.sureAddr,Instr.sliceBounds,(X.tb.get he).size,Addr.add_none]
theorem copy_run {α:Type} {v:α→List Value} {xs:List α} {P:Program} (tb:Tb P) (ht:tb.row t=some r) (hk:r.k = .slice e) (he:tb.row e=some re) (hs:re.size=1) (hv:∀ a,(v a).length=1) {w:World} {dn dcap:Nat} {cs cs':List Value} {te:TypeId}
    (hp:RdSl w p v xs) (h1:(fl v xs).all Value.oneCell'=true) (hb:w.heap[b]? = some (.cells ⟨cs⟩ te (0,0))) (hc:setE cs 0 (fl v (xs.take dn))=some cs') :
    ∃ w',(Builtin.copy_ #[t,t2] ty #[.slice (some ⟨b,0,none⟩) dn dcap,.slice p xs.length cap]).run P w = .ok (.int .i64 (min xs.length dn:Nat)) w' ∧ w'.heap[b]? = some (.cells ⟨cs'⟩ te (0,0))∧Chg [b] w w':=by
  have hu:P.underlying t=some (.slice e):=by have:=(tb.get ht).is;rw [hk] at this;exact this
  have hone:(fl v (xs.take dn)).all Value.oneCell'=true:=by
    rw [List.all_eq_true] at h1 ⊢
    intro z hz
    rw [← fl_takeG hv] at hz
    exact h1 z (List.mem_of_mem_take hz)
  obtain ⟨w',g1,g2,g3⟩:=run_stores P ⟨b,0,none⟩ rfl te (fl v (xs.take dn)) 0 w cs cs' hone hb hc
  have hf:(Builtin.firstCells 1 (min xs.length dn) (.slice p xs.length cap)).run P w = .ok ⟨fl v (xs.take dn)⟩ w:=by
    by_cases hx:xs.take dn=[]
    · have h9:(xs.take dn).length=0:=by rw [hx];rfl
      have h0:min xs.length dn=0:=by
        rw [List.length_take] at h9
        omega
      rw [hx,h0]
      cases p<;>simp [Builtin.firstCells,loadCells,loadCellsFrom,fl]
    · refine first_run ((hp.pre hv dn).holds hx) ?_
      rw [fl_len hv,List.length_take,Nat.min_comm]
  refine ⟨w',?_,g2,g3⟩
  unfold Builtin.copy_
  simp only [List.getElem?_toArray,List.getElem?_cons_zero,List.getElem?_cons_succ,Sem.run_bind,run_underlying hu,Result.andThen_ok,(tb.get he).size,hs,Sem.run_pure,Builtin.lenOf,show Nat.min xs.length dn=min xs.length dn from rfl,hf,g1,goInt]
theorem R.copyRd {α:Type} {v:α→List Value} {xs:List α} {dn dcap:Nat} {cs cs':List Value} {te:TypeId} (hn:Nat.blt dd X.n=true) (ht:X.tb.row t=some r) (hk:r.k = .slice e) (he:X.tb.row e=some re) (hs:re.size=1)
    (hx:ev σ x=some (.slice (some ⟨b,0,none⟩) dn dcap)) (hy:ev σ y=some (.slice p m cap)) (hm:m=xs.length) (hv:∀ a,(v a).length=1) (hh:∀ w,Hp X.w0 X.S L w→RdSl w p v xs) (h1:(fl v xs).all Value.oneCell'=true)
    (hu:Upd L b (.cells ⟨cs⟩ te (0,0)) (.cells ⟨cs'⟩ te (0,0)) L') (hc:setE cs 0 (fl v (xs.take dn))=some cs') (h:R X all rest K ((dd,.int .i64 (min m dn:Nat))::σ) L') :
    R X all (⟨some dd,.call { callee:=.builtin .copy,args:=#[x,y],argTypes:=#[t,t2] },ty,pos,af,none⟩::rest) K σ L :=
  R.value rfl rfl hn fun a w ha hw=>by
    subst hm
    obtain ⟨w',g1,g2,g3⟩:=copy_run (ty:=ty) (t2:=t2) (dcap:=dcap) (cap:=cap) X.tb ht hk he hs hv (hh w hw) h1 (hw.get _ _ hu.mem) hc
    refine ⟨_,w',L',?_,hw.upd hu g3 g2,h⟩
    simp [execOp,resolve,ha.ev hx,ha.ev hy,invoke,builtin,g1]
/-- A string's bytes. -/
def strI (s:ByteArray):List Int:=s.data.toList.map fun b=>(b.toNat:Int)
theorem R.convBytes {rs:TRow} {src:TypeId} {s:ByteArray} (hn:Nat.blt dd X.n=true) (hs:X.tb.row src=some rs) (hks:rs.k = .string) (ht:X.tb.row t=some r) (hk:r.k = .slice e) (he:X.tb.row e=some re) (hke:re.k = .int .u8) (hx:ev σ x=some (.string s))
    (h:∀ b j junk,R X all rest K ((dd,.slice (some ⟨b,0,none⟩) s.size (s.size+j))::σ) ((b,.cells ⟨(strI s).map (.int .u8)++junk⟩ e (s.size+j,s.size+j+1))::L)) :
    R X all (⟨some dd,.convert src t x,ty,pos,af,none⟩::rest) K σ L :=
  R.value rfl rfl hn fun a w ha hw=>by
    have h1:X.P.underlying src=some .string:=by have:=(X.tb.get hs).is;rw [hks] at this;exact this
    have h2:X.P.underlying t=some (.slice e):=by have:=(X.tb.get ht).is;rw [hk] at this;exact this
    have h3:X.P.underlying e=some (.int .u8):=by have:=(X.tb.get he).is;rw [hke] at this;exact this
    have hrun:=Lib.run_convert_string_bytes w src t e s h1 h2 h3
    obtain ⟨q,hq⟩:∃ q,grownCap w s.size 0 e=s.size+q:=⟨_,rfl⟩
    have hcells:Lib.bytesCells w e s=⟨(strI s).map (.int .u8)++List.replicate q (.int .u8 0)⟩:=by
      apply Array.toList_inj.1
      simp [Lib.bytesCells,hq,strI]
    have hsz:(Lib.bytesCells w e s).size=s.size+q:=by
      rw [hcells]
      simp [strI]
    have hchg:Chg [] w (Lib.bytesWorld w e s):=by
      have hc0:=(Chg.drew [] w).trans (Chg.alloc [] w.drew (.cells (Lib.bytesCells w e s) e))
      have hd:=hc0.drawn
      refine ⟨?_,?_,?_,by rw [Lib.bytesWorld_size];omega,?_,fun k hk _=>Lib.bytesWorld_at_old w e s k hk⟩<;>simp only [Lib.bytesWorld,World.freeze,show ¬ (1:Nat)=0 by decide,if_false]
      · exact hc0.os
      · exact hc0.tape
      · exact hc0.output
      · exact hc0.drawn
    have hnew:=Lib.bytesWorld_at_new w e s
    rw [hsz,hcells] at hnew
    refine ⟨_,Lib.bytesWorld w e s,(w.heap.size,.cells ⟨(strI s).map (.int .u8)++List.replicate q (.int .u8 0)⟩ e (s.size+q,s.size+q+1))::L,?_,?_,h w.heap.size q _⟩
    · rw [← hq]
      simp [execOp,ha.ev hx,hrun]
    · exact hw.new hchg hnew
/-- A function value that may write what it has caught. -/
theorem R.callFE {f:FuncId} {fa vs cb:List Value} {xs:List Operand} {ats:Array TypeId} {R1:Value→Lst→Prop} (hcv:ev σ x=some (.func (.func f) fa.toArray cb.toArray)) (he:X.tb.fns.contains f=true) (hx:evs σ xs=some vs) (hn:Nat.blt dd X.n=true) (hp:Ext L Li Lr) (hc:∀ w,Hp X.w0 X.S L w→CallM X.P f (fa++vs++cb) Li w R1) (h:∀ v Lo,R1 v Lo→R X all rest K ((dd,v)::σ) (Lo++Lr)) :
    R X all ({ dst:=some dd,op:=.call { callee:=.value x,args:=xs.toArray,argTypes:=ats },type:=ty,pos:=pos,after:=af,guard:=none }::rest) K σ L :=
  R.callF (α:=Value × Lst) (v:=fun v=>v.1) (L':=fun v=>v.2++Lr) (I:=fun v=>R1 v.1 v.2) hcv he hx hn (fun w hw=>by
    have hw2:=hw.perm hp.perm
    have hin:Hp w (blks Li) Li w:=⟨.refl _ _,fun b o hm=>hw2.get b o (List.mem_append_left _ hm),(List.nodup_append.1 (by have:=hw2.nod;rwa [List.map_append] at this)).1,fun b o hm=>.inr (List.mem_map.2 ⟨(b,o),hm,rfl⟩)⟩
    exact ((hc w hw).run hin).mono fun e w' ⟨v,Lo,h1,h2,h3⟩=>⟨(v,Lo),h1,hw2.callM h3,h2⟩) fun v hv=>h v.1 v.2 hv
end
section
variable {X:Cx} {all:Array Oper} {C L L':Lst} {fuel fuel':Nat} {listed listed':Array Bool} {K:Env→Lst→Prop} {σ σ':Env}
theorem A.weak (h:A X all C fuel listed K σ' L') (hs:Sub σ' σ) (hk:Keep L L'):A X all C fuel listed K σ L:=⟨fun a w ha hw hC=>h.run a w (ha.sub hs) (hw.keep hk) hC⟩
theorem A.merge (P:Env→Lst→Prop) (fuel':Nat) (listed':Array Bool) (h1:∀ σ L,P σ L→A X all C fuel' listed' K σ L) (h2:(∀ σ L,P σ L→A X all C fuel' listed' K σ L)→A X all C fuel listed K σ L):A X all C fuel listed K σ L:=h2 h1
/-- Those of a list,one by one. -/
def AllOf (X:Cx) (all:Array Oper) (C:Lst) (fuel:Nat) (listed:Array Bool) (K:Env→Lst→Prop) (σ:Env) (L:Lst):List Nat→Prop
  | []=>True
  | i::is=>(∃ o,all[i]? = some o∧R X all [o] (fun σ' L'=>SubL C L' ∧ A X all C fuel (listed.setIfInBounds i true) K σ' L') σ L)∧AllOf X all C fuel listed K σ L is
theorem AllOf.get:∀ {rs:List Nat},AllOf X all C fuel listed K σ L rs→∀ i∈rs,∃ o,all[i]? = some o∧R X all [o] (fun σ' L'=>SubL C L' ∧ A X all C fuel (listed.setIfInBounds i true) K σ' L') σ L
  | [],_,i,hi=>by cases hi
  | j::js,h,i,hi=>by
    rcases List.mem_cons.1 hi with rfl|hi
    · exact h.1
    · exact AllOf.get h.2 i hi
theorem A.multi (rs:List Nat) (hr:Region.ready .any all listed=rs) (hne:rs≠[]) (h:AllOf X all C fuel listed K σ L rs):A X all C (fuel+1) listed K σ L :=
  ⟨fun a w ha hw hC=>wpAnyC_all hr hne fun w' hc i hi=>by
    obtain ⟨o,ho,h2⟩:=h.get i hi
    exact A.step ho h2 ha (hw.step hc) (hC.step hc)⟩
end
section
variable {X:Cx} {σ:Env} {L L':Lst} {d:Option Nat} {dd b:Nat} {ty:TypeId} {pos:String} {af:Array Edge} {g:Option (Nat × Bool)} {x:Operand} {t e:TypeId} {r re:TRow}
variable {all:Array Oper} {rest:List Oper} {K:Env→Lst→Prop}
theorem mark_run {P:Program} (tb:Tb P) (ht:tb.row t=some r) (hk:r.k = .slice e) (he:tb.row e=some re) (hke:re.k = .int .u8) {w:World} {n c:Nat} {cs:List Value} (hb:w.heap[b]? = some (.cells ⟨cs⟩ e (0,0))) :
    ∃ w',(convert t t (.slice (some ⟨b,0,none⟩) n c)).run P w = .ok (.slice (some ⟨b,0,none⟩) n c) w' ∧ w'.heap[b]? = some (.cells ⟨cs⟩ e (cs.length,cs.length+1))∧Chg [b] w w':=by
  have h2:P.underlying t=some (.slice e):=by have:=(tb.get ht).is;rw [hk] at this;exact this
  have h3:P.underlying e=some (.int .u8):=by have:=(tb.get he).is;rw [hke] at this;exact this
  have hsh:w.shape? b=some (e,cs.length):=by simp [World.shape?,hb]
  refine ⟨w.freeze ⟨b,cs.length,none⟩ 1,?_,?_,?_⟩
  · simp [convert,run_underlying h2,run_underlying h3,markStringish,hsh]
  · simp [World.freeze,Array.getElem?_modify,hb]
  · refine ⟨rfl,rfl,rfl,?_,Nat.le_refl _,?_⟩
    · simp [World.freeze]
    · intro k hk hkb
      have hne:b≠k:=fun h=>hkb (by simp [h])
      simp [World.freeze,Array.getElem?_modify,hne]
/-- A constant's bytes get their mark. -/
theorem R.convSame {n c:Nat} {cs:List Value} (hn:Nat.blt dd X.n=true) (ht:X.tb.row t=some r) (hk:r.k = .slice e) (he:X.tb.row e=some re) (hke:re.k = .int .u8) (hx:ev σ x=some (.slice (some ⟨b,0,none⟩) n c))
    (hu:Upd L b (.cells ⟨cs⟩ e (0,0)) (.cells ⟨cs⟩ e (cs.length,cs.length+1)) L') (h:R X all rest K ((dd,.slice (some ⟨b,0,none⟩) n c)::σ) L') :
    R X all (⟨some dd,.convert t t x,ty,pos,af,none⟩::rest) K σ L :=
  R.value rfl rfl hn fun a w ha hw=>by
    obtain ⟨w',g1,g2,g3⟩:=mark_run (n:=n) (c:=c) X.tb ht hk he hke (hw.get _ _ hu.mem)
    refine ⟨_,w',L',?_,hw.upd hu g3 g2,h⟩
    simp [execOp,ha.ev hx,g1]
/-- A slice's first ones as an array. -/
theorem Ok1.arrPtr {p:Option Addr} {n m c:Nat} (ht:X.tb.row t=some r) (hk:r.k = .arr n e) (hx:ev σ x=some (.slice p m c)) (hm:n≤m):Ok1 X ⟨d,.sliceToArrayPointer t x,ty,pos,af,g⟩ σ L (.pointer p):=.mk fun a w ha hw=>by
  have h2:=(X.tb.get ht).is
  rw [hk] at h2
  simp only [TK.is] at h2
  simp [execOp,Instr.arrayAt,run_underlying h2,ha.ev hx,Nat.not_lt.2 hm]
theorem ovsome {sz n:Nat} {ov:Ov} {xs:List Value} (h:OvOk sz ov n xs) (hn:0 < n):∃ b j k,ov=some (b,j,k):=by
  cases ov with
  | none=>have:=h.2;omega
  | some z=>obtain ⟨b,j,k⟩:=z;exact ⟨b,j,k,rfl⟩
end
theorem mapL_get {f:Int→Int} {l:List Int} {i:Nat} {x:Int} (h:l[i]? = some x):(u8s ((l.take i).map f++l.drop i))[0+i * 1]? = some (.int .u8 x):=by
  obtain ⟨hi,rfl⟩:=List.getElem?_eq_some_iff.1 h
  have hl:((l.take i).map f).length=i:=by rw [List.length_map,List.length_take];omega
  rw [Nat.zero_add,Nat.mul_one,u8s,List.getElem?_map,List.getElem?_append_right (by omega),hl,Nat.sub_self,List.drop_eq_getElem_cons hi]
  rfl
theorem mapL_set {f:Int→Int} {l:List Int} {i:Nat} {x:Int} (h:l[i]? = some x):setE (u8s ((l.take i).map f++l.drop i)) (0+i * 1) [.int .u8 (f x)]=some (u8s ((l.take (i+1)).map f++l.drop (i+1))):=by
  obtain ⟨hi,rfl⟩:=List.getElem?_eq_some_iff.1 h
  have hl:(u8s ((l.take i).map f)).length=0+i * 1:=by rw [u8s_len,List.length_map,List.length_take];omega
  rw [u8s_app,← hl,setE_mid _ (by rw [u8s_len,List.length_drop];simp;omega)]
  congr 1
  rw [List.take_add_one,h,List.map_append,u8s_app,u8s_app]
  congr 1
  rw [List.length_singleton,u8s,← List.map_drop,List.drop_drop]
  rfl
def padKey (k:List Int):List Int:=if 64 < k.length then shaI k else k
theorem padKey_len (k:List Int):(padKey k).length≤64:=by unfold padKey;split;rw [sha_len];omega;omega
def filledI (k:List Int) (x:Int):List Int:=(padKey k++List.replicate (64 - (padKey k).length) 0).map fun y=>xorI .u8 y x
theorem filled_len (k:List Int) (x:Int):(filledI k x).length=64:=by
  have:=padKey_len k
  simp [filledI];omega
theorem xor8_range (a b:Int):0≤xorI .u8 a b∧xorI .u8 a b≤255:=by
  unfold xorI;rw [u8_mod];omega
theorem filled_byt (k:List Int) (x:Int):Byt (filledI k x):=by
  intro y hy
  obtain ⟨z,_,rfl⟩:=List.mem_map.1 hy
  exact xor8_range _ _
theorem out_byt (s:H8):Byt (outI s):=by
  intro y hy
  simp only [outI,H8.l,List.mem_flatMap,List.mem_cons,List.not_mem_nil,or_false] at hy
  obtain ⟨x,_,h⟩:=hy
  rcases h with rfl|rfl|rfl|rfl<;>omega
theorem sha_byt (b:List Int):Byt (shaI b):=out_byt _
theorem filled_ok (p:Option Addr) (n cap:Nat) (k:List Int) (x:Int) (hn:n=k.length) (hbig:n≤999999000) (hb:Byt k) (w:World) (hp:RdSl w p u8V k) :
    CallM Tryz.prog 318 [.slice p n cap,.int .u8 x] [] w fun v L=>∃ b0,v = .slice (some ⟨b0,0,none⟩) 64 64∧L=[(b0,.cells ⟨u8s (filledI k x)⟩ 5 (0,0))]:=by
  subst hn
  refine enterK (tb:=tb) Tryz.func318 rfl Tryz.ntmps318 rfl ?_
  have hkl:=padKey_len k
  repeat' (first|(apply R.is1;first|(apply R.make1 (n:=64);(iterate 9 exact rfl);omega;intro b5)|(apply R.isBin;(apply R.gtr rfl rfl rfl<;>intro))|(apply R.isCall;(apply R.pure;exact rfl;(apply Ok1.lenS;(iterate 3 exact rfl))))|(apply R.pure;exact rfl;first|(apply Ok1.move;exact rfl)|(apply Ok1.assign;exact rfl))|(apply R.buildSlice;(iterate 12 exact rfl);intro))|apply R.nil|(apply T.is;first|(refine T.meetK (x:=.seq (.region 3 _ _) _) (α:=Option Addr × Nat × Lst) (I:=fun y=>∀ w1 L1,Hp w [] L1 w1→(∀ z∈y.2.2,z∈L1)→RdSl w1 y.1 u8V (padKey k)) (σi:=fun y=>[(1,.int .u8 x),(5,.slice (some ⟨b5,0,none⟩) 64 64),(6,.slice y.1 (padKey k).length y.2.1)]) (Li:=fun y=>(b5,.cells ⟨List.replicate 64 (.int .u8 0)⟩ 5 (0,0))::y.2.2) ?_ ?_)|apply T.seq|apply T.region|apply T.skip|(apply T.cond_t;exact rfl)|(apply T.cond_f;exact rfl)))
  · have hk:64 < k.length:=by omega
    have hpk:padKey k=shaI k:=if_pos hk
    have hsl:=sha_len k
    have hls:(u8s (shaI k)).length=32:=by rw [u8s_len,hsl]
    have hone:=u8s_one (shaI k)
    have hset:∀ cs:List Value,cs.length=32→setE cs 0 (u8s (shaI k))=some (u8s (shaI k)):=fun cs h=>setE_all (by rw [hls,h])
    have hcat:cat [⟨p,cap,k⟩]=k:=by simp [cat]
    repeat' (first|(apply R.is1;first|(apply R.isCall;(apply R.callV;(iterate 3 exact rfl);intro w1 hw1;have h9:=dSum_ok (some ⟨_,0,none⟩) 1 1 [⟨p,cap,k⟩] rfl (by rw [hcat];exact hb) (by rw [hcat];exact hbig) (by decide) w1 (RdSl.of (v:=Pt.v) (rs:=[⟨p,cap,k⟩]) (junk:=[]) hw1 (by exact At.head) rfl) (fun y hy=>by rw [List.mem_singleton.1 hy];exact hp.chg' hw1.chg (fun _=>Off.nil _));rw [hcat] at h9;exact h9))|(apply R.pure;exact rfl;first|(apply Ok1.sliceArr;(iterate 4 exact rfl))|(apply Ok1.assign;exact rfl))|(apply R.alloc;(iterate 3 exact rfl);intro))|(apply R.is0;(apply R.store;(iterate 4 exact rfl);exact hls;exact hone;exact Upd.head;exact hset _ rfl))|apply R.nil|(apply T.is;apply T.region))
    rename_i bq b7
    refine ⟨(some ⟨b7,0,none⟩,32,[(b7,.cells ⟨u8s (shaI k)⟩ 33 (0,0))]),?_,⟨rfl,rfl,?_,trivial⟩,?_⟩
    · intro w1 L1 hw1 hin
      rw [hpk]
      exact RdSl.ofMem (junk:=[]) hw1 (hin _ List.mem_cons_self) (by rw [fl_u8,List.append_nil])
    · rw [hpk,hsl];rfl
    · (focus (repeat' first|exact Keep.nil _|exact Ext.one _ _|apply Keep.cons|apply Ext.cons);done)
  · have hk:¬ 64 < k.length:=by omega
    have hpk:padKey k=k:=if_neg hk
    refine ⟨(p,cap,[]),?_,⟨rfl,rfl,?_,trivial⟩,?_⟩
    · intro w1 L1 hw1 hin
      rw [hpk]
      exact hp.chg' hw1.chg (fun _=>Off.nil _)
    · rw [hpk];rfl
    · (focus (repeat' first|exact Keep.nil _|exact Ext.one _ _|apply Keep.cons);done)
  · rintro ⟨p1,c1,ex⟩ hrd
    simp only at hrd ⊢
    have hcp:setE (List.replicate 64 (.int .u8 0)) 0 (fl u8V ((padKey k).take 64))=some (u8s (padKey k++List.replicate (64 - (padKey k).length) 0)):=by
      rw [List.take_of_length_le hkl,fl_u8]
      have:=setE_mid [] (vs:=u8s (padKey k)) (junk:=List.replicate 64 (.int .u8 0)) (by rw [u8s_len,List.length_replicate];exact hkl)
      rw [List.nil_append,List.length_nil] at this
      rw [this,u8s_app,u8s_len,List.drop_replicate]
      simp [u8s]
    have hfi:filledI k x=(padKey k++List.replicate (64 - (padKey k).length) 0).map fun y=>xorI .u8 y x:=rfl
    have hcl:(padKey k++List.replicate (64 - (padKey k).length) 0).length=64:=by rw [List.length_append,List.length_replicate];omega
    repeat' (first|(apply R.is1;first|(apply R.isCall;first|(apply R.copyRd (xs:=padKey k) (v:=u8V);(iterate 8 exact rfl);exact u8V_len;(intro w1 hw1;exact hrd w1 _ hw1 (fun z hz=>List.mem_cons_of_mem _ hz));(rw [fl_u8];exact u8s_one _);exact Upd.head;exact hcp)|(apply R.pure;exact rfl;(apply Ok1.lenS;(iterate 3 exact rfl))))|(apply R.pure;exact rfl;(apply Ok1.move;exact rfl)))|apply R.nil|(apply T.is;first|apply T.seq|apply T.region|apply T.block))
    generalize padKey k++List.replicate (64 - (padKey k).length) 0=c0 at *
    apply T.loopK (α:=Nat) (I:=fun i=>i≤64) (σi:=fun i=>[(1,.int .u8 x),(5,.slice (some ⟨b5,0,none⟩) 64 64),(22,.int .i64 64),(23,.int .i64 i)]) (Li:=fun i=>[(b5,.cells ⟨u8s ((c0.take i).map (fun y=>xorI .u8 y x)++c0.drop i)⟩ 5 (0,0))]) (μ:=fun i=>64 - i) (i0:=0)
    · exact Nat.zero_le _
    · exact ⟨rfl,rfl,rfl,rfl,trivial⟩
    · simp only [List.take_zero,List.map_nil,List.drop_zero,List.nil_append]
      (focus (repeat' first|exact Keep.nil _|exact Ext.one _ _|apply Keep.cons);done)
    · intro i hi
      rcases Nat.lt_or_ge i 64 with hlt|hge
      · obtain ⟨y,hy⟩:∃ y,c0[i]? = some y:=⟨_,List.getElem?_eq_getElem (by omega)⟩
        have hg:=mapL_get (f:=fun y=>xorI .u8 y x) hy
        have hst:=mapL_set (f:=fun y=>xorI .u8 y x) hy
        repeat' (first|(apply R.is1;first|(apply R.isBin;(apply R.pure;exact rfl;first|(apply Ok1.xorK;exact rfl;exact rfl)|(apply Ok1.add64;exact rfl;exact rfl;omega;omega)|(apply Ok1.lss_t;exact rfl;exact rfl;omega)))|(apply R.pure;exact rfl;first|(apply Ok1.load;exact rfl;apply Ld.own1;exact rfl;exact rfl;exact At.head;exact hg)|(apply Ok1.move;exact rfl)|(apply Ok1.assign;exact rfl)|(apply Ok1.indexAddr;(iterate 5 exact rfl);omega;omega)))|(apply R.is0;(apply R.store;(iterate 6 exact rfl);exact Upd.head;exact hst))|apply R.nil|(apply T.is;first|apply T.seq|apply T.region|apply T.block|apply T.skip|(apply T.cond_t;exact rfl)))
        exact ⟨i+1,by omega,by omega,⟨rfl,rfl,rfl,rfl,trivial⟩,by (focus (repeat' first|exact Keep.nil _|exact Ext.one _ _|apply Keep.cons);done)⟩
      · have him:i=64:=by omega
        subst him
        rw [List.take_of_length_le (by omega),List.drop_of_length_le (by omega),List.append_nil,← hfi]
        repeat' (first|(apply R.is1;first|(apply R.isBin;(apply R.pure;exact rfl;(apply Ok1.lss_f;exact rfl;exact rfl;omega)))|(apply R.pure;exact rfl;first|(apply Ok1.move;exact rfl)|(apply Ok1.assign;exact rfl)))|apply R.nil|(apply T.is;first|apply T.seq|apply T.region|apply T.exit|apply T.ret|(apply T.cond_f;exact rfl)))
        (apply RetOk.t;exact rfl)
        exact ⟨_,by (focus (repeat' first|exact Keep.nil _|exact Ext.one _ _|apply Keep.cons);done),b5,rfl,rfl⟩
def st00:RS:=⟨false,⟨0,0,0,0,0,0,0,0⟩,none,[],none,0,0,[],0⟩
theorem RI00:RuI st00 []:=⟨OvOk.start 1,Sfx.refl _ _,rfl,Nat.le_refl _,rfl,rfl,(fun x hx=>by cases hx),(fun h=>by cases h),fun _=>rfl⟩
def hmacI (k msg:List Int):List Int:=shaI (filledI k 92++shaI (filledI k 54++msg))
theorem hmac_len (k msg:List Int):(hmacI k msg).length=32:=sha_len _
theorem tag_ok (p:Option Addr) (n cap:Nat) (k:List Int) (hn:n=k.length) (hbig:n≤999999000) (hb:Byt k) (pp:Option Addr) (m cap2:Nat) (ps:List Pt) (hm:m=ps.length) (hbyt:Byt (cat ps)) (hbig2:(cat ps).length≤999998000) (hm2:m≤1000000000) (w:World) (hp:RdSl w p u8V k) (hpp:RdSl w pp Pt.v ps) (hall:∀ x∈ps,RdSl w x.p u8V x.xs) :
    CallW Tryz.prog 240 [.slice p n cap,.slice pp m cap2] w fun v _=>v = .agg ⟨u8s (hmacI k (cat ps))⟩:=by
  refine enterW (tb:=tb) Tryz.func240 rfl Tryz.ntmps240 rfl ?_
  have hfl:=filled_len k 54
  have hfl2:=filled_len k 92
  have hfb:=filled_byt k 54
  have hfb2:=filled_byt k 92
  have hfil:=fun w1 (hc:Chg [] w w1)=>filled_ok p n cap k 54 hn hbig hb w1 (hp.chg' hc (fun _=>Off.nil _))
  have hfil2:=fun w1 (hc:Chg [] w w1)=>filled_ok p n cap k 92 hn hbig hb w1 (hp.chg' hc (fun _=>Off.nil _))
  have hhm:hmacI k (cat ps)=shaI (filledI k 92++shaI (filledI k 54++cat ps)):=rfl
  generalize filledI k 54=f54 at *
  generalize filledI k 92=f92 at *
  repeat' (first|(apply R.is1;first|(apply R.pure;exact rfl;(apply Ok1.move;exact rfl))|(apply R.alloc;(iterate 3 exact rfl);intro))|apply R.nil|(apply T.is;first|apply T.seq|apply T.region))
  rename_i b4 b5
  repeat' ((apply R.is1;first|(apply R.isCall;(apply R.callE;(iterate 3 exact rfl);exact Ext.none _;intro w1 hw1;exact hfil w1 hw1.chg;rintro v Lo ⟨f0,rfl,rfl⟩))|(apply R.buildSlice;(iterate 12 exact rfl);intro)))
  have hcat:cat [⟨some ⟨f0,0,none⟩,64,f54⟩]=f54:=by simp [cat]
  have hfv:Pt.v ⟨some ⟨f0,0,none⟩,64,f54⟩=[.slice (some ⟨f0,0,none⟩) 64 64]:=by simp only [Pt.v,hfl]
  rename_i bq
  simp only [List.cons_append,List.nil_append]
  repeat' ((apply R.is1;first|(apply R.isCall;(apply R.callE (Li:=RL b5 st00) (vs:=[.pointer (some ⟨b5,0,none⟩),.slice (some ⟨bq,0,none⟩) 1 1]);(iterate 3 exact rfl);(focus (repeat' first|exact Ext.one _ _|apply Ext.cons);done);intro w1 hw1;have h9:=rAdd_ok b5 st00 [] RI00 (some ⟨bq,0,none⟩) 1 1 [⟨some ⟨f0,0,none⟩,64,f54⟩] rfl (by rw [hcat];exact hfb) (by rw [hcat,List.nil_append,hfl];decide) (by decide) w1 (RdSl.of (v:=Pt.v) (rs:=[⟨some ⟨f0,0,none⟩,64,f54⟩]) (junk:=[]) hw1 (by exact At.head) (by simp [fl,hfv])) (fun _=>Off.of (k:=0) hw1 (by (focus (repeat' first|exact Ext.one _ _|apply Ext.cons);done)) (by exact At.head)) (fun y hy=>by rw [List.mem_singleton.1 hy];exact ⟨RdSl.of (v:=u8V) (rs:=f54) (junk:=[]) hw1 (by (focus (repeat' first|exact At.head|apply At.tail);done)) (by rw [fl_u8,List.append_nil]),fun _=>Off.of (k:=0) hw1 (by (focus (repeat' first|exact Ext.one _ _|apply Ext.cons);done)) (by (focus (repeat' first|exact At.head|apply At.tail);done))⟩);exact h9;rintro v Lo ⟨st1,rfl,rfl,hI1,hon1⟩;rw [hcat,List.nil_append] at hI1))|(apply R.pure;exact rfl;(apply Ok1.move;exact rfl))))
  repeat' ((apply R.is1;(apply R.isCall;(apply R.callE (Li:=RL b5 st1) (vs:=[.pointer (some ⟨b5,0,none⟩),.slice pp m cap2]);(iterate 3 exact rfl);(focus ((repeat' (exact Ext.here _ _));done));intro w1 hw1;exact rAdd_ok b5 st1 f54 hI1 pp m cap2 ps hm hbyt (by rw [List.length_append];omega) hm2 w1 (hpp.chg' hw1.chg (fun _=>Off.nil _)) (hpp.old Pt.v_len (by decide) (fun _=>Off.nil _) hw1 (by (focus ((repeat' (exact Ext.here _ _));done)))) (fun y hy=>⟨(hall y hy).chg' hw1.chg (fun _=>Off.nil _),(hall y hy).old u8V_len (by decide) (fun _=>Off.nil _) hw1 (by (focus ((repeat' (exact Ext.here _ _));done)))⟩);rintro v Lo ⟨st2,rfl,rfl,hI2,hon2⟩))))
  have hsum:=fun w1 hb hl=>rSum_ok b5 st2 (f54++cat ps) hI2 (by rw [List.length_append];omega) w1 hb hl
  simp only [RL,List.cons_append]
  have hsl:=sha_len (f54++cat ps)
  have hls:(u8s (shaI (f54++cat ps))).length=32:=by rw [u8s_len,hsl]
  have hone:=u8s_one (shaI (f54++cat ps))
  have hset:∀ cs:List Value,cs.length=32→setE cs 0 (u8s (shaI (f54++cat ps)))=some (u8s (shaI (f54++cat ps))):=fun cs h=>setE_all (by rw [hls,h])
  have hsb:=sha_byt (f54++cat ps)
  generalize shaI (f54++cat ps)=d0 at *
  have hsl2:=hmac_len k (cat ps)
  have hls2:(u8s (hmacI k (cat ps))).length=32:=by rw [u8s_len,hsl2]
  have hone2:=u8s_one (hmacI k (cat ps))
  have hset2:∀ cs:List Value,cs.length=32→setE cs 0 (u8s (hmacI k (cat ps)))=some (u8s (hmacI k (cat ps))):=fun cs h=>setE_all (by rw [hls2,h])
  have hsub2:=subE_all hls2
  have hd2:∀ f1 b6:Nat,∀ w1,RdSl w1 (some ⟨f1,0,none⟩) u8V f92→RdSl w1 (some ⟨b6,0,none⟩) u8V d0→∀ bq,RdSl w1 (some ⟨bq,0,none⟩) Pt.v [⟨some ⟨f1,0,none⟩,64,f92⟩,⟨some ⟨b6,0,none⟩,32,d0⟩]→CallW Tryz.prog 320 [.slice (some ⟨bq,0,none⟩) 2 2] w1 fun v _=>v = .agg ⟨u8s (hmacI k (cat ps))⟩:=by
    intro f1 b6 w1 h1 h2 bq h3
    have hc2:cat [⟨some ⟨f1,0,none⟩,64,f92⟩,⟨some ⟨b6,0,none⟩,32,d0⟩]=f92++d0:=by simp [cat]
    have h9:=dSum_ok (some ⟨bq,0,none⟩) 2 2 [⟨some ⟨f1,0,none⟩,64,f92⟩,⟨some ⟨b6,0,none⟩,32,d0⟩] rfl (by rw [hc2];exact hfb2.app hsb) (by rw [hc2,List.length_append];omega) (by decide) w1 h3 (fun y hy=>by
      rcases List.mem_cons.1 hy with rfl|hy
      · exact h1
      · rw [List.mem_singleton.1 hy];exact h2)
    rw [hc2,← hhm] at h9
    exact h9
  have hpv:∀ f1 b6:Nat,fl Pt.v [⟨some ⟨f1,0,none⟩,64,f92⟩,⟨some ⟨b6,0,none⟩,32,d0⟩]=[.slice (some ⟨f1,0,none⟩) 64 64,.slice (some ⟨b6,0,none⟩) 32 32]:=fun f1 b6=>by simp [fl,Pt.v,hfl2,hsl]
  repeat' (first|(apply R.is1;first|(apply R.isCall;(apply R.callV;(iterate 3 exact rfl);intro w1 hw1;exact hsum w1 (hw1.get _ _ (At.mem (by exact At.head))) (hI2.rd hw1 (Ext.mem (by (focus (repeat' first|exact Ext.here _ _|apply Ext.cons);done))))))|(apply R.alloc;(iterate 3 exact rfl);intro))|(apply R.is0;(apply R.store;(iterate 4 exact rfl);exact hls;exact hone;exact Upd.head;exact hset _ rfl))|apply R.nil|(apply T.is;apply T.seq))
  rename_i b6
  repeat' ((apply T.is;first|(apply T.drawC (id:=3) [] (by decide);((apply A.tk 0;exact rfl;kernel_rfl;(apply Ok1.move;exact rfl))<;>(apply A.tk 2;exact rfl;kernel_rfl;(apply Ok1.sliceArr;(iterate 4 exact rfl)))<;>(apply A.one 1;kernel_rfl;exact rfl;(((apply R.callE;(iterate 3 exact rfl);exact Ext.none _;intro w1 hw1;exact hfil2 w1 hw1.chg;rintro v Lo ⟨f1,rfl,rfl⟩)));apply R.nil;refine ⟨?_,?_⟩;(focus ((repeat' (exact trivial)))))<;>(apply A.one 3;kernel_rfl;exact rfl;(((apply R.buildSlice;(iterate 12 exact rfl);intro)));apply R.nil;refine ⟨?_,?_⟩;(focus ((repeat' (exact trivial)))))<;>(apply A.one 4;kernel_rfl;exact rfl;(((apply R.callV;(iterate 3 exact rfl);intro w1 hw1;exact hd2 f1 b6 w1 (RdSl.of (junk:=[]) hw1 (by (focus (repeat' first|exact At.head|apply At.tail);done)) (by rw [fl_u8,List.append_nil])) (RdSl.of (junk:=[]) hw1 (by (focus (repeat' first|exact At.head|apply At.tail);done)) (by rw [fl_u8,List.append_nil])) _ (RdSl.of (junk:=[]) hw1 (by exact At.head) (by rw [hpv,List.append_nil])))));apply R.nil;refine ⟨?_,?_⟩;(focus ((repeat' (exact trivial)))))<;>(apply A.one 5;kernel_rfl;exact rfl;(((apply R.store;(iterate 4 exact rfl);exact hls2;exact hone2;(focus (repeat' first|exact Upd.head|apply Upd.tail|apply Upd.right);done);exact hset2 _ rfl)));apply R.nil;refine ⟨?_,?_⟩;(focus ((repeat' (exact trivial)))))<;>(apply A.done;kernel_rfl)))|apply T.ret))
  apply RetOk.c
  exact rfl
  apply Ld.ownk
  exact rfl
  exact rfl
  (focus (repeat' first|exact At.head|apply At.tail|apply At.right);done)
  exact hsub2
  rfl
def len4 (n:Int):List Int:=[n / 16777216 % 256,n / 65536 % 256,n / 256 % 256,n % 256]
theorem len4_byt (n:Int):Byt (len4 n):=by
  intro y hy
  simp only [len4,List.mem_cons,List.not_mem_nil,or_false] at hy
  rcases hy with rfl|rfl|rfl|rfl<;>omega
theorem cellsE_slV (ov:Ov) (n:Nat):cellsE (slV ov n)=some [slV ov n]:=by cases ov<;>rfl
theorem one_slV (ov:Ov) (n:Nat):[slV ov n].all Value.oneCell'=true:=by cases ov<;>rfl
def numI (s:Nat) (n:Int):List Int:=match s with
  | 0=>[n % 256]
  | 1=>[n / 256 % 256,n % 256]
  | _=>len4 n
theorem num_byt (s:Nat) (n:Int):Byt (numI s n):=by
  unfold numI
  split
  · intro y hy;rw [List.mem_singleton.1 hy];omega
  · intro y hy;simp only [List.mem_cons,List.not_mem_nil,or_false] at hy;rcases hy with rfl|rfl<;>omega
  · exact len4_byt n
theorem width_ok (s v:Int) (h0:0≤s) (h1:s≤10) (h:IntKind.i64.wrap (1 * pw s.toNat)=v):CallP Tryz.prog 315 [.int .i64 s] (.int .i64 v):=by
  refine enterP (tb:=tb) Tryz.func315 rfl Tryz.ntmps315 rfl fun w=>?_
  have hb:s.toNat≤IntKind.i64.bits:=by show s.toNat≤64;omega
  repeat' (first|(apply R.is1;first|(apply R.isBin;(apply R.pure;exact rfl;(apply Ok1.shl;exact rfl;exact rfl;omega;exact hb;exact rfl)))|(apply R.pure;exact rfl;first|(apply Ok1.move;exact rfl)|(apply Ok1.assign;exact rfl)))|apply R.nil|(apply T.is;first|apply T.seq|apply T.region|apply T.ret))
  (apply RetOk.t;exact rfl)
  rw [h]
theorem Keep.eq1 {b:Nat} {e:TypeId} {fz:Nat × Nat} {A B:List Value} (h:A=B):Keep [(b,.cells ⟨A⟩ e fz)] [(b,.cells ⟨B⟩ e fz)]:=by subst h;(focus (repeat' first|exact Keep.nil _|exact Ext.one _ _|apply Keep.cons);done)
theorem number_ok (s:Nat) (n:Int) (hs:s=0 ∨ s=1 ∨ s=2) (h0:0≤n) (h1:n≤9223372036854775807) (w:World):CallM Tryz.prog 409 [.int .i64 s,.int .i64 n] [] w fun v L=>∃ b,v = .slice (some ⟨b,0,none⟩) (numI s n).length (numI s n).length∧L=[(b,.cells ⟨u8s (numI s n)⟩ 5 (0,0))]:=by
  have hc:IntKind.u64.wrap n=n:=wrap_u64 h0 (by omega)
  rcases hs with rfl|rfl|rfl
  · refine enterK (tb:=tb) Tryz.func409 rfl Tryz.ntmps409 rfl ?_
    repeat' (first|(apply R.is1;first|(apply R.make1 (n:=1);(iterate 9 exact rfl);omega;intro bt)|(apply R.isBin;(apply R.pure;exact rfl;first|(apply Ok1.shr;exact rfl;exact rfl;omega;exact Nat.le_of_ble_eq_true rfl;exact rfl)|(apply Ok1.add64;exact rfl;exact rfl;omega;omega)|(apply Ok1.sub64;exact rfl;exact rfl;omega;omega)|(apply Ok1.lss_t;exact rfl;exact rfl;omega)|(apply Ok1.lss_f;exact rfl;exact rfl;omega)|(apply Ok1.mul64;exact rfl;exact rfl;omega;omega)))|(apply R.isCall;first|apply R.callP rfl rfl rfl (width_ok 0 1 (by decide) (by decide) (by decide))|(apply R.pure;exact rfl;(apply Ok1.lenS;(iterate 3 exact rfl))))|(apply R.pure;exact rfl;first|(apply Ok1.move;exact rfl)|(apply Ok1.assign;exact rfl)|(apply Ok1.indexAddr;(iterate 5 exact rfl);omega;omega)|(apply Ok1.convU64;(iterate 5 exact rfl);omega;omega)|(apply Ok1.conv;(iterate 5 exact rfl))))|(apply R.is0;(apply R.store;(iterate 6 exact rfl);exact Upd.head;exact rfl))|apply R.nil|(apply T.is;first|apply T.rounds 2|apply T.seq|apply T.region|apply T.block|apply T.skip|apply T.exit|apply T.ret|(apply T.cond_t;exact rfl)|(apply T.cond_f;exact rfl)))
    (apply RetOk.t;exact rfl)
    refine ⟨_,?_,bt,rfl,rfl⟩
    simp only [u8_mod]
    apply Keep.eq1
    simp [numI,u8s,len4,pw]
  · refine enterK (tb:=tb) Tryz.func409 rfl Tryz.ntmps409 rfl ?_
    repeat' (first|(apply R.is1;first|(apply R.make1 (n:=2);(iterate 9 exact rfl);omega;intro bt)|(apply R.isBin;(apply R.pure;exact rfl;first|(apply Ok1.shr;exact rfl;exact rfl;omega;exact Nat.le_of_ble_eq_true rfl;exact rfl)|(apply Ok1.add64;exact rfl;exact rfl;omega;omega)|(apply Ok1.sub64;exact rfl;exact rfl;omega;omega)|(apply Ok1.lss_t;exact rfl;exact rfl;omega)|(apply Ok1.lss_f;exact rfl;exact rfl;omega)|(apply Ok1.mul64;exact rfl;exact rfl;omega;omega)))|(apply R.isCall;first|apply R.callP rfl rfl rfl (width_ok 1 2 (by decide) (by decide) (by decide))|(apply R.pure;exact rfl;(apply Ok1.lenS;(iterate 3 exact rfl))))|(apply R.pure;exact rfl;first|(apply Ok1.move;exact rfl)|(apply Ok1.assign;exact rfl)|(apply Ok1.indexAddr;(iterate 5 exact rfl);omega;omega)|(apply Ok1.convU64;(iterate 5 exact rfl);omega;omega)|(apply Ok1.conv;(iterate 5 exact rfl))))|(apply R.is0;(apply R.store;(iterate 6 exact rfl);exact Upd.head;exact rfl))|apply R.nil|(apply T.is;first|apply T.rounds 3|apply T.seq|apply T.region|apply T.block|apply T.skip|apply T.exit|apply T.ret|(apply T.cond_t;exact rfl)|(apply T.cond_f;exact rfl)))
    (apply RetOk.t;exact rfl)
    refine ⟨_,?_,bt,rfl,rfl⟩
    simp only [u8_mod]
    apply Keep.eq1
    simp [numI,u8s,len4,pw]
  · refine enterK (tb:=tb) Tryz.func409 rfl Tryz.ntmps409 rfl ?_
    repeat' (first|(apply R.is1;first|(apply R.make1 (n:=4);(iterate 9 exact rfl);omega;intro bt)|(apply R.isBin;(apply R.pure;exact rfl;first|(apply Ok1.shr;exact rfl;exact rfl;omega;exact Nat.le_of_ble_eq_true rfl;exact rfl)|(apply Ok1.add64;exact rfl;exact rfl;omega;omega)|(apply Ok1.sub64;exact rfl;exact rfl;omega;omega)|(apply Ok1.lss_t;exact rfl;exact rfl;omega)|(apply Ok1.lss_f;exact rfl;exact rfl;omega)|(apply Ok1.mul64;exact rfl;exact rfl;omega;omega)))|(apply R.isCall;first|apply R.callP rfl rfl rfl (width_ok 2 4 (by decide) (by decide) (by decide))|(apply R.pure;exact rfl;(apply Ok1.lenS;(iterate 3 exact rfl))))|(apply R.pure;exact rfl;first|(apply Ok1.move;exact rfl)|(apply Ok1.assign;exact rfl)|(apply Ok1.indexAddr;(iterate 5 exact rfl);omega;omega)|(apply Ok1.convU64;(iterate 5 exact rfl);omega;omega)|(apply Ok1.conv;(iterate 5 exact rfl))))|(apply R.is0;(apply R.store;(iterate 6 exact rfl);exact Upd.head;exact rfl))|apply R.nil|(apply T.is;first|apply T.rounds 5|apply T.seq|apply T.region|apply T.block|apply T.skip|apply T.exit|apply T.ret|(apply T.cond_t;exact rfl)|(apply T.cond_f;exact rfl)))
    (apply RetOk.t;exact rfl)
    refine ⟨_,?_,bt,rfl,rfl⟩
    simp only [u8_mod]
    apply Keep.eq1
    simp [numI,u8s,len4,pw]
/-- A number that fits its size. -/
def Fits (s:Nat) (n:Int):Prop:=0≤n∧(s=0∧n≤255 ∨ s=1∧n≤65535 ∨ s=2∧n≤4294967295)
def fldV (s:Nat) (n:Int):List Value:=[.int .i64 s,.int .i64 n,.slice none 0 0]
theorem wcheck_ok (s:Nat) (n:Int) (h:Fits s n):CallP Tryz.prog 368 [.agg ⟨fldV s n⟩] (.int .i64 0):=by
  obtain ⟨h0,h⟩:=h
  unfold fldV
  rcases h with ⟨rfl,h1⟩|⟨rfl,h1⟩|⟨rfl,h1⟩
  · refine enterP (tb:=tb) Tryz.func368 rfl Tryz.ntmps368 rfl fun w=>?_
    repeat' (first|(apply R.is1;first|(apply R.isBin;(apply R.pure;exact rfl;first|(apply Ok1.lss_t;exact rfl;exact rfl;omega)|(apply Ok1.lss_f;exact rfl;exact rfl;omega)|(apply Ok1.gtr_f;exact rfl;exact rfl;omega)|(apply Ok1.eql_f;exact rfl;exact rfl;omega)))|(apply R.isCall;(apply R.pure;exact rfl;(apply Ok1.lenS;(iterate 3 exact rfl))))|(apply R.pure;exact rfl;first|(apply Ok1.move;exact rfl)|(apply Ok1.fieldAddr;(iterate 5 exact rfl))|(apply Ok1.load;exact rfl;(apply Ld.own1;exact rfl;exact rfl;exact At.head;exact rfl))|(apply Ok1.assign;exact rfl)|(apply Ok1.pick_t;exact rfl;exact rfl)|(apply Ok1.pick_f;exact rfl;exact rfl))|(apply R.box;(iterate 3 exact rfl);intro))|(apply R.isG;first|(apply R.guard_run;exact rfl;exact rfl)|(apply R.guard_not;(iterate 3 exact rfl)))|apply R.nil|(apply T.is;first|(apply T.drawC (id:=5) [0] (by decide);((apply A.tk 0;exact rfl;kernel_rfl;(apply Ok1.fieldAddr;(iterate 5 exact rfl)))<;>(apply A.tk 1;exact rfl;kernel_rfl;(apply Ok1.load;exact rfl;(apply Ld.own1;exact rfl;exact rfl;exact At.head;exact rfl)))<;>((apply A.tk 2;exact rfl;kernel_rfl;(apply Ok1.lss_f;exact rfl;exact rfl;omega)))<;>(apply A.tk 3;exact rfl;kernel_rfl;(apply Ok1.move;exact rfl))<;>((apply A.tkG 4;(iterate 3 exact rfl);kernel_rfl;(apply Ok1.fieldAddr;(iterate 5 exact rfl))))<;>((apply A.tkG 5;(iterate 3 exact rfl);kernel_rfl;(apply Ok1.load;exact rfl;(apply Ld.own1;exact rfl;exact rfl;exact At.head;exact rfl))))<;>((apply A.tkG 6;(iterate 3 exact rfl);kernel_rfl;(apply Ok1.lss_t;exact rfl;exact rfl;omega)))<;>((apply A.tkG 7;(iterate 3 exact rfl);kernel_rfl;(apply Ok1.move;exact rfl)))<;>((apply A.tkG 8;(iterate 3 exact rfl);kernel_rfl;(apply Ok1.fieldAddr;(iterate 5 exact rfl))))<;>((apply A.tkG 9;(iterate 3 exact rfl);kernel_rfl;(apply Ok1.load;exact rfl;(apply Ld.own1;exact rfl;exact rfl;exact At.head;exact rfl))))<;>((apply A.tkG 10;(iterate 3 exact rfl);kernel_rfl;(apply Ok1.fieldAddr;(iterate 5 exact rfl))))<;>((apply A.tkG 11;(iterate 3 exact rfl);kernel_rfl;(apply Ok1.load;exact rfl;(apply Ld.own1;exact rfl;exact rfl;exact At.head;exact rfl))))<;>(apply A.one 12;kernel_rfl;exact rfl;(((apply R.isG;apply R.guard_run;exact rfl;exact rfl;(apply R.callP rfl rfl rfl (width_ok 0 1 (by decide) (by decide) (by decide))))));apply R.nil;refine ⟨?_,?_⟩;(focus ((repeat' (first|exact trivial|(refine ⟨?_,?_⟩;exact At.head))))))<;>((apply A.tkG 13;(iterate 3 exact rfl);kernel_rfl;(apply Ok1.mul64;exact rfl;exact rfl;omega;omega)))<;>((apply A.tkG 14;(iterate 3 exact rfl);kernel_rfl;(apply Ok1.shr (m:=256);exact rfl;exact rfl;omega;exact Nat.le_of_ble_eq_true rfl;exact rfl)))<;>((apply A.tkG 15;(iterate 3 exact rfl);kernel_rfl;(apply Ok1.neq_f;exact rfl;exact rfl;omega)))<;>((apply A.tkG 16;(iterate 3 exact rfl);kernel_rfl;(apply Ok1.pick_t;exact rfl;exact rfl)))<;>(apply A.tk 17;exact rfl;kernel_rfl;(apply Ok1.pick_f;exact rfl;exact rfl))<;>(apply A.tk 18;exact rfl;kernel_rfl;(apply Ok1.assign;exact rfl))<;>(apply A.done;kernel_rfl)))|apply T.seq|apply T.region|apply T.block|apply T.skip|apply T.ret|(apply T.cond_f;exact rfl)))
    (apply RetOk.t;exact rfl)
    rfl
  · refine enterP (tb:=tb) Tryz.func368 rfl Tryz.ntmps368 rfl fun w=>?_
    repeat' (first|(apply R.is1;first|(apply R.isBin;(apply R.pure;exact rfl;first|(apply Ok1.lss_t;exact rfl;exact rfl;omega)|(apply Ok1.lss_f;exact rfl;exact rfl;omega)|(apply Ok1.gtr_f;exact rfl;exact rfl;omega)|(apply Ok1.eql_f;exact rfl;exact rfl;omega)))|(apply R.isCall;(apply R.pure;exact rfl;(apply Ok1.lenS;(iterate 3 exact rfl))))|(apply R.pure;exact rfl;first|(apply Ok1.move;exact rfl)|(apply Ok1.fieldAddr;(iterate 5 exact rfl))|(apply Ok1.load;exact rfl;(apply Ld.own1;exact rfl;exact rfl;exact At.head;exact rfl))|(apply Ok1.assign;exact rfl)|(apply Ok1.pick_t;exact rfl;exact rfl)|(apply Ok1.pick_f;exact rfl;exact rfl))|(apply R.box;(iterate 3 exact rfl);intro))|(apply R.isG;first|(apply R.guard_run;exact rfl;exact rfl)|(apply R.guard_not;(iterate 3 exact rfl)))|apply R.nil|(apply T.is;first|(apply T.drawC (id:=5) [0] (by decide);((apply A.tk 0;exact rfl;kernel_rfl;(apply Ok1.fieldAddr;(iterate 5 exact rfl)))<;>(apply A.tk 1;exact rfl;kernel_rfl;(apply Ok1.load;exact rfl;(apply Ld.own1;exact rfl;exact rfl;exact At.head;exact rfl)))<;>((apply A.tk 2;exact rfl;kernel_rfl;(apply Ok1.lss_f;exact rfl;exact rfl;omega)))<;>(apply A.tk 3;exact rfl;kernel_rfl;(apply Ok1.move;exact rfl))<;>((apply A.tkG 4;(iterate 3 exact rfl);kernel_rfl;(apply Ok1.fieldAddr;(iterate 5 exact rfl))))<;>((apply A.tkG 5;(iterate 3 exact rfl);kernel_rfl;(apply Ok1.load;exact rfl;(apply Ld.own1;exact rfl;exact rfl;exact At.head;exact rfl))))<;>((apply A.tkG 6;(iterate 3 exact rfl);kernel_rfl;(apply Ok1.lss_t;exact rfl;exact rfl;omega)))<;>((apply A.tkG 7;(iterate 3 exact rfl);kernel_rfl;(apply Ok1.move;exact rfl)))<;>((apply A.tkG 8;(iterate 3 exact rfl);kernel_rfl;(apply Ok1.fieldAddr;(iterate 5 exact rfl))))<;>((apply A.tkG 9;(iterate 3 exact rfl);kernel_rfl;(apply Ok1.load;exact rfl;(apply Ld.own1;exact rfl;exact rfl;exact At.head;exact rfl))))<;>((apply A.tkG 10;(iterate 3 exact rfl);kernel_rfl;(apply Ok1.fieldAddr;(iterate 5 exact rfl))))<;>((apply A.tkG 11;(iterate 3 exact rfl);kernel_rfl;(apply Ok1.load;exact rfl;(apply Ld.own1;exact rfl;exact rfl;exact At.head;exact rfl))))<;>(apply A.one 12;kernel_rfl;exact rfl;(((apply R.isG;apply R.guard_run;exact rfl;exact rfl;(apply R.callP rfl rfl rfl (width_ok 1 2 (by decide) (by decide) (by decide))))));apply R.nil;refine ⟨?_,?_⟩;(focus ((repeat' (first|exact trivial|(refine ⟨?_,?_⟩;exact At.head))))))<;>((apply A.tkG 13;(iterate 3 exact rfl);kernel_rfl;(apply Ok1.mul64;exact rfl;exact rfl;omega;omega)))<;>((apply A.tkG 14;(iterate 3 exact rfl);kernel_rfl;(apply Ok1.shr (m:=65536);exact rfl;exact rfl;omega;exact Nat.le_of_ble_eq_true rfl;exact rfl)))<;>((apply A.tkG 15;(iterate 3 exact rfl);kernel_rfl;(apply Ok1.neq_f;exact rfl;exact rfl;omega)))<;>((apply A.tkG 16;(iterate 3 exact rfl);kernel_rfl;(apply Ok1.pick_t;exact rfl;exact rfl)))<;>(apply A.tk 17;exact rfl;kernel_rfl;(apply Ok1.pick_f;exact rfl;exact rfl))<;>(apply A.tk 18;exact rfl;kernel_rfl;(apply Ok1.assign;exact rfl))<;>(apply A.done;kernel_rfl)))|apply T.seq|apply T.region|apply T.block|apply T.skip|apply T.ret|(apply T.cond_f;exact rfl)))
    (apply RetOk.t;exact rfl)
    rfl
  · refine enterP (tb:=tb) Tryz.func368 rfl Tryz.ntmps368 rfl fun w=>?_
    repeat' (first|(apply R.is1;first|(apply R.isBin;(apply R.pure;exact rfl;first|(apply Ok1.lss_t;exact rfl;exact rfl;omega)|(apply Ok1.lss_f;exact rfl;exact rfl;omega)|(apply Ok1.gtr_f;exact rfl;exact rfl;omega)|(apply Ok1.eql_f;exact rfl;exact rfl;omega)))|(apply R.isCall;(apply R.pure;exact rfl;(apply Ok1.lenS;(iterate 3 exact rfl))))|(apply R.pure;exact rfl;first|(apply Ok1.move;exact rfl)|(apply Ok1.fieldAddr;(iterate 5 exact rfl))|(apply Ok1.load;exact rfl;(apply Ld.own1;exact rfl;exact rfl;exact At.head;exact rfl))|(apply Ok1.assign;exact rfl)|(apply Ok1.pick_t;exact rfl;exact rfl)|(apply Ok1.pick_f;exact rfl;exact rfl))|(apply R.box;(iterate 3 exact rfl);intro))|(apply R.isG;first|(apply R.guard_run;exact rfl;exact rfl)|(apply R.guard_not;(iterate 3 exact rfl)))|apply R.nil|(apply T.is;first|(apply T.drawC (id:=5) [0] (by decide);((apply A.tk 0;exact rfl;kernel_rfl;(apply Ok1.fieldAddr;(iterate 5 exact rfl)))<;>(apply A.tk 1;exact rfl;kernel_rfl;(apply Ok1.load;exact rfl;(apply Ld.own1;exact rfl;exact rfl;exact At.head;exact rfl)))<;>((apply A.tk 2;exact rfl;kernel_rfl;(apply Ok1.lss_f;exact rfl;exact rfl;omega)))<;>(apply A.tk 3;exact rfl;kernel_rfl;(apply Ok1.move;exact rfl))<;>((apply A.tkG 4;(iterate 3 exact rfl);kernel_rfl;(apply Ok1.fieldAddr;(iterate 5 exact rfl))))<;>((apply A.tkG 5;(iterate 3 exact rfl);kernel_rfl;(apply Ok1.load;exact rfl;(apply Ld.own1;exact rfl;exact rfl;exact At.head;exact rfl))))<;>((apply A.tkG 6;(iterate 3 exact rfl);kernel_rfl;(apply Ok1.lss_t;exact rfl;exact rfl;omega)))<;>((apply A.tkG 7;(iterate 3 exact rfl);kernel_rfl;(apply Ok1.move;exact rfl)))<;>((apply A.tkG 8;(iterate 3 exact rfl);kernel_rfl;(apply Ok1.fieldAddr;(iterate 5 exact rfl))))<;>((apply A.tkG 9;(iterate 3 exact rfl);kernel_rfl;(apply Ok1.load;exact rfl;(apply Ld.own1;exact rfl;exact rfl;exact At.head;exact rfl))))<;>((apply A.tkG 10;(iterate 3 exact rfl);kernel_rfl;(apply Ok1.fieldAddr;(iterate 5 exact rfl))))<;>((apply A.tkG 11;(iterate 3 exact rfl);kernel_rfl;(apply Ok1.load;exact rfl;(apply Ld.own1;exact rfl;exact rfl;exact At.head;exact rfl))))<;>(apply A.one 12;kernel_rfl;exact rfl;(((apply R.isG;apply R.guard_run;exact rfl;exact rfl;(apply R.callP rfl rfl rfl (width_ok 2 4 (by decide) (by decide) (by decide))))));apply R.nil;refine ⟨?_,?_⟩;(focus ((repeat' (first|exact trivial|(refine ⟨?_,?_⟩;exact At.head))))))<;>((apply A.tkG 13;(iterate 3 exact rfl);kernel_rfl;(apply Ok1.mul64;exact rfl;exact rfl;omega;omega)))<;>((apply A.tkG 14;(iterate 3 exact rfl);kernel_rfl;(apply Ok1.shr (m:=4294967296);exact rfl;exact rfl;omega;exact Nat.le_of_ble_eq_true rfl;exact rfl)))<;>((apply A.tkG 15;(iterate 3 exact rfl);kernel_rfl;(apply Ok1.neq_f;exact rfl;exact rfl;omega)))<;>((apply A.tkG 16;(iterate 3 exact rfl);kernel_rfl;(apply Ok1.pick_t;exact rfl;exact rfl)))<;>(apply A.tk 17;exact rfl;kernel_rfl;(apply Ok1.pick_f;exact rfl;exact rfl))<;>(apply A.tk 18;exact rfl;kernel_rfl;(apply Ok1.assign;exact rfl))<;>(apply A.done;kernel_rfl)))|apply T.seq|apply T.region|apply T.block|apply T.skip|apply T.ret|(apply T.cond_f;exact rfl)))
    (apply RetOk.t;exact rfl)
    rfl
theorem fout_ok (s:Nat) (n:Int) (h:Fits s n) (w:World):CallM Tryz.prog 369 [.agg ⟨fldV s n⟩] [] w fun v L=>∃ b,v = .slice (some ⟨b,0,none⟩) (numI s n).length (numI s n).length∧L=[(b,.cells ⟨u8s (numI s n)⟩ 5 (0,0))]:=by
  have hs:s=0 ∨ s=1 ∨ s=2:=by unfold Fits at h;omega
  have hn:n≤9223372036854775807:=by unfold Fits at h;omega
  have hnum:=fun w1=>number_ok s n hs h.1 hn w1
  unfold fldV
  refine enterK (tb:=tb) Tryz.func369 rfl Tryz.ntmps369 rfl ?_
  repeat' (first|(apply R.is1;first|(apply R.isBin;(apply R.pure;exact rfl;(apply Ok1.eql_f;exact rfl;exact rfl;omega)))|(apply R.isCall;(apply R.callE;(iterate 3 exact rfl);exact Ext.none _;intro w1 hw1;exact hnum w1;rintro v Lo ⟨b,rfl,rfl⟩))|(apply R.pure;exact rfl;first|(apply Ok1.fieldAddr;(iterate 5 exact rfl))|(apply Ok1.load;exact rfl;(apply Ld.own1;exact rfl;exact rfl;exact At.head;exact rfl))|(apply Ok1.assign;exact rfl))|(apply R.box;(iterate 3 exact rfl);intro))|apply R.nil|(apply T.is;first|apply T.seq|apply T.region|apply T.skip|apply T.ret|(apply T.cond_f;exact rfl)))
  (apply RetOk.t;exact rfl)
  exact ⟨_,by (focus (repeat' first|exact Keep.nil _|exact Ext.one _ _|apply Keep.cons);done),b,rfl,rfl⟩
/-- A writer that has written,without an error. -/
def WL (bw:Nat) (ov:Ov) (bs:List Int):Lst:=(bw,.cells ⟨[slV ov bs.length,.int .i64 0]⟩ 345 (0,0))::blkL 5 ov (u8s bs)
def WRes (bw:Nat) (bs:List Int) (v:Value) (L:Lst):Prop:=∃ ov,v = .pointer (some ⟨bw,0,none⟩)∧OvOk 1 ov bs.length (u8s bs)∧L=WL bw ov bs
theorem num_len (s:Nat) (n:Int):1≤(numI s n).length∧(numI s n).length≤4:=by unfold numI len4;split<;>simp
theorem put_ok (bw:Nat) (ov:Ov) (bs:List Int) (hov:OvOk 1 ov bs.length (u8s bs)) (s:Nat) (n:Int) (h:Fits s n) (hbig:bs.length≤1000) (bf:Nat) (fz:Nat × Nat) (e:TypeId) (w:World) (hb:w.heap[bf]? = some (.cells ⟨fldV s n⟩ e fz)) (hoff:bf ∉ blks (WL bw ov bs)) :
    CallM Tryz.prog 304 [.pointer (some ⟨bw,0,none⟩),.slice (some ⟨bf,0,none⟩) 1 1] (WL bw ov bs) w (WRes bw (bs++numI s n)):=by
  have hck:=wcheck_ok s n h
  have hfo:=fun w1=>fout_ok s n h w1
  have hnl:=num_len s n
  unfold WRes
  generalize numI s n=nb at *
  refine enterK (tb:=tb) Tryz.func304 rfl Tryz.ntmps304 rfl ?_
  obtain ⟨S,hS⟩:∃ S,S=blks (WL bw ov bs):=⟨_,rfl⟩
  rw [← hS] at hoff ⊢
  simp only [WL,fldV] at hb hck hfo ⊢
  repeat' (first|(apply R.is1;first|(apply R.isBin;(apply R.pure;exact rfl;first|(apply Ok1.add64;exact rfl;exact rfl;omega;omega)|(apply Ok1.lss_t;exact rfl;exact rfl;omega)|(apply Ok1.lss_f;exact rfl;exact rfl;omega)|(apply Ok1.gtr_f;exact rfl;exact rfl;omega)|(apply Ok1.neq_f;exact rfl;exact rfl;omega)|(apply Ok1.eqlP;(iterate 5 exact rfl))))|(apply R.isCall;first|apply R.callP rfl rfl rfl hck|(apply R.callE;(iterate 3 exact rfl);exact Ext.none _;intro w1 hw1;exact hfo w1;rintro v Lo ⟨b7,rfl,rfl⟩)|(apply R.pure;exact rfl;apply Ok1.lenOv;(iterate 3 exact rfl);exact hov)|(apply R.appendRd (xs:=nb) (v:=u8V) (sz:=1) (ov:=ov) (n:=bs.length) (old:=u8s bs);(iterate 12 exact rfl);exact hov;(focus (repeat' first|exact Ext.all _|apply Ext.cons);done);exact rfl;exact u8V_len;exact rfl;(intro w1 hw1;exact RdSl.of (junk:=[]) hw1 (by exact At.head) (by rw [fl_u8,List.append_nil]));(focus (rw [fl_u8];exact u8s_one nb));omega;intro ov1 hov1 hsome;rw [fl_u8,← u8s_app,← List.length_append];rw [fl_u8,← u8s_app,← List.length_append] at hov1)|(apply R.pure;exact rfl;(apply Ok1.lenS;(iterate 3 exact rfl))))|(apply R.pure;exact rfl;first|(apply Ok1.move;exact rfl)|(apply Ok1.fieldAddr;(iterate 5 exact rfl))|(apply Ok1.load;exact rfl;first|(apply Ld.own1;exact rfl;exact rfl;(focus (repeat' first|exact At.head|apply At.tail);done);exact rfl)|(apply Ld.ownk;exact rfl;exact rfl;(focus (repeat' first|exact At.head|apply At.tail);done);exact rfl)|(apply Ld.blkk;exact rfl;exact rfl;assumption;(assumption);exact rfl))|(apply Ok1.assign;exact rfl)|(apply Ok1.indexAddr;(iterate 5 exact rfl);omega;omega)|(apply Ok1.nilCheck;exact rfl))|(apply R.alloc;(iterate 3 exact rfl);intro))|(apply R.is0;first|(apply R.store;(iterate 3 exact rfl);exact cellsE_slV _ _;exact rfl;exact one_slV _ _;(focus (repeat' first|exact Upd.head|apply Upd.tail|apply Upd.right);done);exact rfl)|(apply R.store;(iterate 6 exact rfl);(focus (repeat' first|exact Upd.head|apply Upd.tail);done);exact rfl))|apply R.nil|(apply T.is;first|apply T.rounds 3|apply T.seq|apply T.region|apply T.block|apply T.scope|apply T.label|apply T.skip|apply T.exit|apply T.ret|(apply T.cond_t;exact rfl)|(apply T.cond_f;exact rfl)))
  (apply RetOk.t;exact rfl)
  refine ⟨_,?_,ov1,rfl,hov1,rfl⟩
  (focus (repeat' first|exact Ext.one _ _|exact Ext.here _ _|apply Keep.cons|apply Keep.last|apply Ext.cons|apply Ext.app);done)
theorem number1_ok (bw:Nat) (ov:Ov) (bs:List Int) (hov:OvOk 1 ov bs.length (u8s bs)) (s:Nat) (n:Int) (h:Fits s n) (hbig:bs.length≤1000) (bl:Nat) (fz:Nat × Nat) (e:TypeId) (w:World) (hb:w.heap[bl]? = some (.cells ⟨[.int .i64 n]⟩ e fz)) (hoff:bl ∉ blks (WL bw ov bs)) :
    CallM Tryz.prog 212 [.pointer (some ⟨bw,0,none⟩),.int .i64 s,.slice (some ⟨bl,0,none⟩) 1 1] (WL bw ov bs) w (WRes bw (bs++numI s n)):=by
  have hput:=fun bf fz e w1=>put_ok bw ov bs hov s n h hbig bf fz e w1
  unfold WRes at hput ⊢
  generalize bs++numI s n=nb at *
  refine enterK (tb:=tb) Tryz.func212 rfl Tryz.ntmps212 rfl ?_
  obtain ⟨S,hS⟩:∃ S,S=blks (WL bw ov bs):=⟨_,rfl⟩
  rw [← hS] at hoff ⊢
  repeat' (first|(apply R.is1;first|(apply R.isBin;(apply R.pure;exact rfl;first|(apply Ok1.add64;exact rfl;exact rfl;omega;omega)|(apply Ok1.lss_t;exact rfl;exact rfl;omega)|(apply Ok1.lss_f;exact rfl;exact rfl;omega)))|(apply R.isCall;first|(apply R.callE (Li:=WL bw ov bs);(iterate 3 exact rfl);(focus (repeat' first|exact Ext.all _|apply Ext.cons);done);intro w1 hw1;exact hput _ _ _ w1 (hw1.get _ _ (At.mem (by exact At.head))) (RdSl.off hw1 (by (focus (repeat' first|exact Ext.all _|apply Ext.cons);done)) (At.mem (by exact At.head)));rintro v Lo ⟨ov1,rfl,hov1,rfl⟩)|(apply R.pure;exact rfl;(apply Ok1.lenS;(iterate 3 exact rfl))))|(apply R.pure;exact rfl;first|(apply Ok1.move;exact rfl)|(apply Ok1.load;exact rfl;(apply Ld.blk1;exact rfl;exact rfl;assumption;(assumption);exact rfl))|(apply Ok1.assign;exact rfl)|(apply Ok1.indexAddr;(iterate 5 exact rfl);omega;omega)|(apply Ok1.build;(iterate 5 exact rfl)))|(apply R.buildSlice;(iterate 12 exact rfl);intro))|apply R.nil|(apply T.is;first|apply T.rounds 3|apply T.seq|apply T.region|apply T.block|apply T.skip|apply T.exit|apply T.ret|(apply T.cond_t;exact rfl)|(apply T.cond_f;exact rfl)))
  (apply RetOk.t;exact rfl)
  refine ⟨_,?_,ov1,rfl,hov1,rfl⟩
  (focus (repeat' first|exact Ext.one _ _|exact Ext.here _ _|apply Keep.cons|apply Keep.last);done)
theorem wout_ok (bw:Nat) (ov:Ov) (bs:List Int) (hov:OvOk 1 ov bs.length (u8s bs)) (hbig:bs.length≤1000000) (w:World) (hb:w.heap[bw]? = some (.cells ⟨[slV ov bs.length,.int .i64 0]⟩ 345 (0,0))) (hr:RdSl w (ovp ov) u8V bs) :
    CallM Tryz.prog 213 [.pointer (some ⟨bw,0,none⟩)] [] w fun v L=>∃ ov',OvOk 1 ov' bs.length (u8s bs)∧v = .tuple #[slV ov' bs.length,.int .i64 0]∧L=blkL 5 ov' (u8s bs):=by
  rw [slV_eq hov] at hb
  refine enterK (tb:=tb) Tryz.func213 rfl Tryz.ntmps213 rfl ?_
  have hcl:=fun w1 (hc:Chg [] w w1)=>clone_ok (ovp ov) bs.length (ovc ov bs.length) bs rfl (by omega) w1 (hr.chg' hc (fun _=>Off.nil _))
  repeat' (first|(apply R.is1;first|(apply R.isBin;(apply R.pure;exact rfl;first|(apply Ok1.neq_f;exact rfl;exact rfl;omega)|(apply Ok1.eqlP;(iterate 5 exact rfl))))|(apply R.isCall;(apply R.callE;(iterate 3 exact rfl);exact Ext.none _;intro w1 hw1;exact hcl w1 hw1.chg;rintro v Lo ⟨ov2,hov2,hsome,rfl,rfl⟩))|(apply R.pure;exact rfl;first|(apply Ok1.move;exact rfl)|(apply Ok1.fieldAddr;(iterate 5 exact rfl))|(apply Ok1.load;exact rfl;(apply Ld.blk1;exact rfl;exact rfl;assumption;(exact List.not_mem_nil);exact rfl))|(apply Ok1.assign;exact rfl)|(apply Ok1.nilCheck;exact rfl)))|apply R.nil|(apply T.is;first|apply T.seq|apply T.region|apply T.block|apply T.skip|apply T.ret|(apply T.cond_f;exact rfl)))
  (apply RetOk.tt;exact rfl;exact rfl)
  exact ⟨_,by (focus (repeat' first|exact Ext.here _ _|apply Keep.last);done),ov2,hov2,rfl,rfl⟩
def frameI (ls:List (List Int)):List Int:=ls.flatMap fun b=>len4 b.length++b
theorem frame_app (a b:List (List Int)):frameI (a++b)=frameI a++frameI b:=List.flatMap_append
theorem frame_one (b:List Int):frameI [b]=len4 b.length++b:=by simp [frameI]
theorem cat_app (a b:List Pt):cat (a++b)=cat a++cat b:=List.flatMap_append
theorem add_ok (p:Option Addr) (n cap:Nat) (xs:List Int) (hn:n=xs.length) (hbig:n≤1000000000) (bo:Nat) (ov:Ov) (pts:List Pt) (hov:OvOk 1 ov pts.length (fl Pt.v pts)) (hpl:pts.length≤1000000) (w:World) :
    CallM Tryz.prog 321 [.slice p n cap,.pointer (some ⟨bo,0,none⟩)] ((bo,.cells ⟨[slV ov pts.length]⟩ 377 (0,0))::blkL 22 ov (fl Pt.v pts)) w fun v L=>∃ ov' b4,v = .tuple #[]∧OvOk 1 ov' (pts.length+2) (fl Pt.v (pts++[⟨some ⟨b4,0,none⟩,4,len4 n⟩,⟨p,cap,xs⟩])) ∧
      L=(bo,.cells ⟨[slV ov' (pts.length+2)]⟩ 377 (0,0))::(blkL 22 ov' (fl Pt.v (pts++[⟨some ⟨b4,0,none⟩,4,len4 n⟩,⟨p,cap,xs⟩]))++[(b4,.cells ⟨u8s (len4 n)⟩ 5 (0,0))]):=by
  subst hn
  refine enterK (tb:=tb) Tryz.func321 rfl Tryz.ntmps321 rfl ?_
  repeat' (first|(apply R.is1;first|(apply R.isBin;(apply R.pure;exact rfl;(apply Ok1.shr;exact rfl;exact rfl;omega;exact Nat.le_of_ble_eq_true rfl;(first|exact pwE8|exact pwE16|exact pwE24))))|(apply R.isCall;(apply R.pure;exact rfl;(apply Ok1.lenS;(iterate 3 exact rfl))))|(apply R.pure;exact rfl;first|(apply Ok1.convU32;(iterate 5 exact rfl);omega;omega)|(apply Ok1.move;exact rfl)|(apply Ok1.load;exact rfl;(apply Ld.own1;exact rfl;exact rfl;exact At.head;exact rfl))|(apply Ok1.assign;exact rfl)|(apply Ok1.convU8;(iterate 5 exact rfl);omega;omega)|(apply Ok1.conv;(iterate 5 exact rfl)))|(apply R.buildSlice;(iterate 12 exact rfl);intro))|apply R.nil|(apply T.is;first|apply T.seq|apply T.region))
  rename_i b4 be
  simp only [u8_mod]
  have h4:(xs.length:Int) / 16777216=(xs.length:Int) / 16777216 % 256:=by omega
  rw [h4]
  repeat' (first|(apply R.is1;(apply R.isCall;(apply R.appendRd (xs:=[⟨some ⟨b4,0,none⟩,4,len4 xs.length⟩,⟨p,cap,xs⟩]) (v:=Pt.v) (sz:=1) (ov:=ov) (n:=pts.length) (old:=fl Pt.v pts);(iterate 12 exact rfl);exact hov;(focus (repeat' first|exact Ext.all _|apply Ext.cons);done);exact rfl;exact Pt.v_len;exact rfl;(intro w1 hw1;exact RdSl.of (junk:=[]) hw1 (by exact At.head) rfl);exact rfl;omega;intro ov1 hov1 hsome)))|(apply R.is0;(apply R.store;(iterate 3 exact rfl);exact cellsE_slV _ _;exact rfl;exact one_slV _ _;(focus (repeat' first|exact Upd.head|apply Upd.tail|apply Upd.right);done);exact rfl))|apply R.nil)
  (apply RetOk.n)
  rw [← fl_app] at hov1 ⊢
  refine ⟨_,?_,ov1,b4,rfl,hov1,rfl⟩
  (focus (repeat' first|exact Keep.nil _|exact Ext.one _ _|exact Ext.here _ _|apply Keep.cons|apply Keep.app|apply Ext.cons|apply Ext.app);done)
theorem RdSl.heap {α:Type} {v:α→List Value} {rs:List α} {w:World} {b:Nat} {e:TypeId} {fz:Nat × Nat} {junk:List Value} (h:w.heap[b]? = some (.cells ⟨fl v rs++junk⟩ e fz)):RdSl w (some ⟨b,0,none⟩) v rs:=by
  right
  refine ⟨b,0,rfl,fun k hk=>?_⟩
  simp only [World.cell?,h]
  simp [hk,List.getElem?_append_left]
/-- What has been framed so far: the parts,and the blocks that they lie in. -/
structure FO where
  ov:Ov
  pts:List Pt
  ex:Lst
def FOok (f:FO) (ls:List (List Int)) (src:World→Prop):Prop:=OvOk 1 f.ov f.pts.length (fl Pt.v f.pts)∧f.pts.length=2 * ls.length∧cat f.pts=frameI ls∧∀ W,(∀ z∈f.ex,W.heap[z.1]? = some z.2)→src W→∀ x∈f.pts,RdSl W x.p u8V x.xs
theorem framed_ok (name:ByteArray) (pp:Option Addr) (m cap:Nat) (ps:List Pt) (hm:m=ps.length) (hm2:m≤100000) (hname:name.size≤1000000) (hbig:∀ x∈ps,x.xs.length≤1000000000) (w:World) (hp:RdSl w pp Pt.v ps) :
    CallM Tryz.prog 241 [.string name,.slice pp m cap] [] w fun v L=>∃ f:FO,v=slV f.ov f.pts.length∧L=blkL 22 f.ov (fl Pt.v f.pts)++f.ex∧FOok f (strI name::ps.map (·.xs)) (fun W=>∀ x∈ps,RdSl W x.p u8V x.xs):=by
  subst hm
  refine enterK (tb:=tb) Tryz.func241 rfl Tryz.ntmps241 rfl ?_
  have hnl:(strI name).length=name.size:=by simp [strI]
  repeat' (first|(apply R.is1;first|(apply R.convBytes;(iterate 8 exact rfl);intro bn jn kn)|(apply R.pure;exact rfl;first|(apply Ok1.move;exact rfl)|(apply Ok1.assign;exact rfl)|(apply Ok1.makeFunc;exact rfl;exact rfl))|(apply R.alloc;(iterate 3 exact rfl);intro))|apply R.nil|(apply T.is;first|apply T.seq|apply T.region))
  rename_i bo
  obtain ⟨src,hsrc⟩:∃ src:World→Prop,src=fun W=>∀ x∈ps,RdSl W x.p u8V x.xs:=⟨_,rfl⟩
  rw [← hsrc]
  repeat' (first|(apply R.is1;first|(apply R.isCall;first|(apply R.callFE (fa:=[]) (cb:=[.pointer (some ⟨bo,0,none⟩)]) (Li:=[(bo,.cells ⟨[.slice none 0 0]⟩ 377 (0,0))]);(iterate 4 exact rfl);(focus (repeat' first|exact Ext.one _ _|apply Ext.cons);done);intro w1 hw1;exact add_ok (some ⟨bn,0,none⟩) name.size _ (strI name) hnl.symm (by omega) bo none [] (OvOk.start 1) (by decide) w1;rintro v Lo ⟨ov1,b4,rfl,hov1,rfl⟩)|(apply R.pure;exact rfl;(apply Ok1.lenS;(iterate 3 exact rfl))))|(apply R.pure;exact rfl;(apply Ok1.move;exact rfl)))|apply R.nil|(apply T.is;first|apply T.seq|apply T.region|apply T.block))
  apply T.loopK (α:=Nat × FO) (I:=fun y=>y.1≤ps.length∧FOok y.2 (strI name::(ps.take y.1).map (·.xs)) src) (σi:=fun y=>[(5,.pointer (some ⟨bo,0,none⟩)),(6,.func (.func 321) #[] #[.pointer (some ⟨bo,0,none⟩)]),(14,.slice pp ps.length cap),(15,.int .i64 ps.length),(16,.int .i64 y.1)])
    (Li:=fun y=>(bo,.cells ⟨[slV y.2.ov y.2.pts.length]⟩ 377 (0,0))::(blkL 22 y.2.ov (fl Pt.v y.2.pts)++y.2.ex)) (μ:=fun y=>ps.length - y.1)
    (i0:=(0,⟨ov1,[⟨some ⟨b4,0,none⟩,4,len4 name.size⟩,⟨some ⟨bn,0,none⟩,name.size+jn,strI name⟩],[(b4,.cells ⟨u8s (len4 name.size)⟩ 5 (0,0)),(bn,.cells ⟨(strI name).map (.int .u8)++kn⟩ 5 (name.size+jn,name.size+jn+1))]⟩))
  · refine ⟨Nat.zero_le _,hov1,rfl,?_,fun W hex _ x hx=>?_⟩
    · simp [cat,frameI,hnl]
    · rcases List.mem_cons.1 hx with rfl|hx
      · exact RdSl.heap (junk:=[]) (e:=5) (fz:=(0,0)) (by rw [fl_u8,List.append_nil];exact hex _ List.mem_cons_self)
      · rw [List.mem_singleton.1 hx]
        exact RdSl.heap (junk:=kn) (e:=5) (fz:=(name.size+jn,name.size+jn+1)) (by rw [fl_u8];exact hex _ (List.mem_cons_of_mem _ List.mem_cons_self))
  · exact ⟨rfl,rfl,rfl,rfl,rfl,trivial⟩
  · simp only [List.nil_append,List.cons_append,List.append_assoc]
    (focus (repeat' first|exact Keep.nil _|exact Ext.one _ _|exact Ext.here _ _|apply Keep.cons|apply Keep.app);done)
  · rintro ⟨i,f⟩ ⟨hi,hov,hlen,hcat,hrd⟩
    simp only at hi hov hlen hcat hrd ⊢
    have hll:(strI name::(ps.take i).map (·.xs)).length=i+1:=by simp;omega
    rw [hll] at hlen
    rcases Nat.lt_or_ge i ps.length with hlt|hge
    · obtain ⟨x,hx⟩:∃ x,ps[i]? = some x:=⟨_,List.getElem?_eq_getElem (by omega)⟩
      obtain ⟨b',o',hpe,H⟩:=hp.at hx
      replace H:=H 1 Pt.v_len
      have hxb:=hbig x (List.mem_of_getElem? hx)
      have hls:strI name::(ps.take (i+1)).map (·.xs)=(strI name::(ps.take i).map (·.xs))++[x.xs]:=by rw [List.take_add_one,hx];simp
      obtain ⟨ov,pts,ex⟩:=f
      simp only at hov hlen hcat hrd ⊢
      repeat' (first|(apply R.is1;first|(apply R.isBin;(apply R.pure;exact rfl;first|(apply Ok1.add64;exact rfl;exact rfl;omega;omega)|(apply Ok1.lss_t;exact rfl;exact rfl;omega)))|(apply R.isCall;(apply R.callFE (fa:=[]) (cb:=[.pointer (some ⟨bo,0,none⟩)]) (Li:=(bo,.cells ⟨[slV ov pts.length]⟩ 377 (0,0))::blkL 22 ov (fl Pt.v pts));(iterate 4 exact rfl);(focus (exact Ext.here ((bo,.cells ⟨[slV ov pts.length]⟩ 377 (0,0))::blkL 22 ov (fl Pt.v pts)) ex));intro w1 hw1;exact add_ok x.p x.xs.length x.cap x.xs rfl hxb bo ov pts hov (by omega) w1;rintro v Lo ⟨ov2,b5,rfl,hov2,rfl⟩))|(apply R.pure;exact rfl;first|(apply Ok1.indexAddrP;(iterate 4 exact rfl);exact hpe;exact rfl;omega;omega)|(apply Ok1.load;exact rfl;apply Ld.row0 H;exact rfl;exact List.not_mem_nil;(iterate 3 exact rfl))|(apply Ok1.move;exact rfl)|(apply Ok1.assign;exact rfl)))|apply R.nil|(apply T.is;first|apply T.seq|apply T.region|apply T.block|apply T.skip|(apply T.cond_t;exact rfl)))
      refine ⟨(i+1,⟨ov2,pts++[⟨some ⟨b5,0,none⟩,4,len4 x.xs.length⟩,x],(b5,.cells ⟨u8s (len4 x.xs.length)⟩ 5 (0,0))::ex⟩),⟨by simp only;omega,?_⟩,by simp only;omega,⟨rfl,rfl,rfl,rfl,rfl,trivial⟩,?_⟩
      · rw [hls]
        refine ⟨by simpa using hov2,by simp [hlen];omega,?_,fun W hex hs y hy=>?_⟩
        · rw [frame_app,cat_app,hcat,frame_one]
          simp [cat]
        · rcases List.mem_append.1 hy with hy|hy
          · exact hrd W (fun z hz=>hex z (List.mem_cons_of_mem _ hz)) hs y hy
          · rcases List.mem_cons.1 hy with rfl|hy
            · exact RdSl.heap (junk:=[]) (e:=5) (fz:=(0,0)) (by rw [fl_u8,List.append_nil];exact hex _ List.mem_cons_self)
            · rw [List.mem_singleton.1 hy]
              rw [hsrc] at hs
              exact hs x (List.mem_of_getElem? hx)
      · simp only [List.length_append,List.length_cons,List.length_nil,List.append_assoc,List.cons_append,List.nil_append]
        (focus (repeat' first|exact Ext.one _ _|exact Ext.here _ _|exact Ext.all _|apply Keep.cons|apply Keep.app|apply Keep.last);done)
    · have him:i=ps.length:=by omega
      subst him
      rw [List.take_length] at hcat
      repeat' (first|(apply R.is1;first|(apply R.isBin;(apply R.pure;exact rfl;(apply Ok1.lss_f;exact rfl;exact rfl;omega)))|(apply R.pure;exact rfl;first|(apply Ok1.load;exact rfl;(apply Ld.own1;exact rfl;exact rfl;exact At.head;exact rfl))|(apply Ok1.assign;exact rfl)))|apply R.nil|(apply T.is;first|apply T.seq|apply T.region|apply T.exit|apply T.ret|(apply T.cond_f;exact rfl)))
      (apply RetOk.t;exact rfl)
      refine ⟨_,?_,f,rfl,rfl,hov,?_,hcat,hrd⟩
      · (focus (repeat' first|exact Ext.here _ _|exact Ext.all _|apply Keep.app|apply Keep.last|apply Ext.cons);done)
      · simp [hlen]
/-- A key that was made: its block,its bytes'. -/
def KL (bk:Nat) (ov:Ov) (xs:List Int):Lst:=(bk,.cells ⟨[slV ov xs.length]⟩ 248 (0,0))::blkL 5 ov (u8s xs)
/-- A key that is read. -/
def KeyR (w:World) (bk:Nat) (xs:List Int):Prop:=∃ p cap,w.heap[bk]? = some (.cells ⟨[.slice p xs.length cap]⟩ 248 (0,0))∧RdSl w p u8V xs
theorem KeyR.chg {w w':World} {bk:Nat} {xs:List Int} (h:KeyR w bk xs) (hc:Chg [] w w'):KeyR w' bk xs:=by
  obtain ⟨p,cap,h1,h2⟩:=h
  exact ⟨p,cap,hc.heap h1 List.not_mem_nil,h2.chg' hc (fun _=>Off.nil _)⟩
theorem KeyR.of {ov:Ov} {bk:Nat} {xs:List Int} (hov:OvOk 1 ov xs.length (u8s xs)) {w0 w:World} {S:List Nat} {L:Lst} (hw:Hp w0 S L w) (hin:∀ z∈KL bk ov xs,z∈L):KeyR w bk xs:=by
  refine ⟨ovp ov,ovc ov xs.length,?_,rdown hov hw fun z hz=>hin z (List.mem_cons_of_mem _ hz)⟩
  rw [← slV_eq hov]
  exact hw.get _ _ (hin _ List.mem_cons_self)
theorem new_ok (p:Option Addr) (n cap:Nat) (xs:List Int) (hn:n=xs.length) (hbig:n≤1000000000) (w:World) (hp:RdSl w p u8V xs) :
    CallM Tryz.prog 64 [.slice p n cap] [] w fun v L=>∃ bk ov,v = .pointer (some ⟨bk,0,none⟩)∧OvOk 1 ov xs.length (u8s xs)∧ov.isSome=p.isSome∧L=KL bk ov xs:=by
  subst hn
  refine enterK (tb:=tb) Tryz.func64 rfl Tryz.ntmps64 rfl ?_
  have hcl:=fun w1 (hc:Chg [] w w1)=>clone_ok p xs.length cap xs rfl hbig w1 (hp.chg' hc (fun _=>Off.nil _))
  repeat' (first|(apply R.is1;first|(apply R.isCall;(apply R.callE;(iterate 3 exact rfl);exact Ext.none _;intro w1 hw1;exact hcl w1 hw1.chg;rintro v Lo ⟨ov2,hov2,hsome,rfl,rfl⟩;rw [slV_eq hov2]))|(apply R.pure;exact rfl;first|(apply Ok1.move;exact rfl)|(apply Ok1.assign;exact rfl)|(apply Ok1.build;(iterate 5 exact rfl)))|(apply R.box;(iterate 3 exact rfl);intro))|apply R.nil|(apply T.is;first|apply T.seq|apply T.region|apply T.ret))
  rename_i bk
  (apply RetOk.t;exact rfl)
  refine ⟨_,?_,bk,ov2,rfl,hov2,hsome,rfl⟩
  simp only [KL,slV_eq hov2]
  (focus (repeat' first|exact Ext.one _ _|exact Ext.here _ _|apply Keep.cons|apply Keep.last);done)
theorem bytes_ok (bk:Nat) (xs:List Int) (hbig:xs.length≤1000000000) (w:World) (hk:KeyR w bk xs) :
    CallM Tryz.prog 143 [.pointer (some ⟨bk,0,none⟩)] [] w fun v L=>∃ ov,OvOk 1 ov xs.length (u8s xs)∧v=slV ov xs.length∧L=blkL 5 ov (u8s xs):=by
  obtain ⟨p,cap,hb,hp⟩:=hk
  refine enterK (tb:=tb) Tryz.func143 rfl Tryz.ntmps143 rfl ?_
  have hcl:=fun w1 (hc:Chg [] w w1)=>clone_ok p xs.length cap xs rfl hbig w1 (hp.chg' hc (fun _=>Off.nil _))
  repeat' (first|(apply R.is1;first|(apply R.isBin;(apply R.pure;exact rfl;(apply Ok1.eqlP;(iterate 5 exact rfl))))|(apply R.isCall;(apply R.callE;(iterate 3 exact rfl);exact Ext.none _;intro w1 hw1;exact hcl w1 hw1.chg;rintro v Lo ⟨ov2,hov2,hsome,rfl,rfl⟩))|(apply R.pure;exact rfl;first|(apply Ok1.move;exact rfl)|(apply Ok1.fieldAddr;(iterate 5 exact rfl))|(apply Ok1.load;exact rfl;(apply Ld.blk1;exact rfl;exact rfl;assumption;(exact List.not_mem_nil);exact rfl))|(apply Ok1.assign;exact rfl)|(apply Ok1.nilCheck;exact rfl)))|apply R.nil|(apply T.is;first|apply T.seq|apply T.region|apply T.skip|apply T.ret|(apply T.cond_f;exact rfl)))
  (apply RetOk.t;exact rfl)
  exact ⟨_,by (focus (repeat' first|exact Ext.here _ _|apply Keep.last);done),ov2,hov2,rfl,rfl⟩
def deriveI (k:List Int) (label:ByteArray) (ls:List (List Int)):List Int:=hmacI k (frameI (strI label::ls))
theorem derive_len (k:List Int) (label:ByteArray) (ls:List (List Int)):(deriveI k label ls).length=32:=sha_len _
theorem derive_byt (k:List Int) (label:ByteArray) (ls:List (List Int)):Byt (deriveI k label ls):=sha_byt _
theorem frame_byt {ls:List (List Int)} (h:∀ l∈ls,Byt l):Byt (frameI ls):=by
  intro y hy
  obtain ⟨l,hl,hy⟩:=List.mem_flatMap.1 hy
  rcases List.mem_append.1 hy with hy|hy
  · exact len4_byt _ y hy
  · exact h l hl y hy
theorem str_byt (s:ByteArray):Byt (strI s):=by
  intro y hy
  obtain ⟨z,_,rfl⟩:=List.mem_map.1 hy
  have:=z.toNat_lt
  omega
theorem derive_ok (bk:Nat) (k:List Int) (hkl:k.length≤999999000) (hkb:Byt k) (name:ByteArray) (hname:name.size≤1000000) (pp:Option Addr) (m cap:Nat) (ps:List Pt) (hm:m=ps.length) (hm2:m≤100000) (hpb:∀ x∈ps,Byt x.xs) (hbig:(frameI (strI name::ps.map (·.xs))).length≤999998000) (hbig1:∀ x∈ps,x.xs.length≤1000000000) (w:World) (hk:KeyR w bk k) (hp:RdSl w pp Pt.v ps) (hall:∀ x∈ps,RdSl w x.p u8V x.xs) :
    CallM Tryz.prog 142 [.pointer (some ⟨bk,0,none⟩),.string name,.slice pp m cap] [] w fun v L=>∃ bk' ov,v = .pointer (some ⟨bk',0,none⟩)∧OvOk 1 ov 32 (u8s (deriveI k name (ps.map (·.xs))))∧L=KL bk' ov (deriveI k name (ps.map (·.xs))):=by
  obtain ⟨pk,ck,hb,hpk⟩:=hk
  have hfb:Byt (frameI (strI name::ps.map (·.xs))):=frame_byt fun l hl=>by
    rcases List.mem_cons.1 hl with rfl|hl
    · exact str_byt _
    · obtain ⟨x,hx,rfl⟩:=List.mem_map.1 hl
      exact hpb x hx
  have hdl:=derive_len k name (ps.map (·.xs))
  have hdb:=derive_byt k name (ps.map (·.xs))
  have hdd:deriveI k name (ps.map (·.xs))=hmacI k (frameI (strI name::ps.map (·.xs))):=rfl
  have hfr:=fun w1 (hc:Chg [] w w1)=>framed_ok name pp m cap ps hm hm2 hname hbig1 w1 (hp.chg' hc (fun _=>Off.nil _))
  have hmapl:(strI name::ps.map (·.xs)).length=m+1:=by simp [hm]
  generalize hfre:frameI (strI name::ps.map (·.xs))=fr at *
  generalize deriveI k name (ps.map (·.xs))=d0 at *
  have hls:(u8s d0).length=32:=by rw [u8s_len,hdl]
  have hone:=u8s_one d0
  have hset:∀ cs:List Value,cs.length=32→setE cs 0 (u8s d0)=some (u8s d0):=fun cs h=>setE_all (by rw [hls,h])
  refine enterK (tb:=tb) Tryz.func142 rfl Tryz.ntmps142 rfl ?_
  repeat' (first|(apply R.is1;first|(apply R.isBin;(apply R.pure;exact rfl;(apply Ok1.eqlP;(iterate 5 exact rfl))))|(apply R.isCall;(apply R.callE;(iterate 3 exact rfl);exact Ext.none _;intro w1 hw1;exact new_ok (some ⟨_,0,none⟩) 32 32 d0 hdl.symm (by decide) w1 (RdSl.of (junk:=[]) hw1 (by (focus (repeat' first|exact At.head|apply At.right);done)) (by rw [fl_u8,List.append_nil]));rintro v Lo ⟨bk2,ov2,rfl,hov2,_,rfl⟩))|(apply R.pure;exact rfl;first|(apply Ok1.sliceArr;(iterate 4 exact rfl))|(apply Ok1.move;exact rfl)|(apply Ok1.assign;exact rfl)))|apply R.nil|(apply T.is;first|(apply T.drawC (id:=3) [] (by decide);((apply A.tk 0;exact rfl;kernel_rfl;(apply Ok1.move;exact rfl))<;>(apply A.tk 1;exact rfl;kernel_rfl;(apply Ok1.nilCheck;exact rfl))<;>(apply A.tk 2;exact rfl;kernel_rfl;(apply Ok1.fieldAddr;(iterate 5 exact rfl)))<;>(apply A.tk 3;exact rfl;kernel_rfl;(apply Ok1.load;exact rfl;(apply Ld.blk1;exact rfl;exact rfl;assumption;(exact List.not_mem_nil);exact rfl)))<;>(apply A.tk 4;exact rfl;kernel_rfl;(apply Ok1.move;exact rfl))<;>(apply A.tk 5;exact rfl;kernel_rfl;(apply Ok1.move;exact rfl))<;>(apply A.two 6 8;kernel_rfl;exact rfl;exact rfl;rotate_left 1;(focus (((((apply R.alloc;(iterate 3 exact rfl);intro)));apply R.nil;refine ⟨?_,?_⟩;(focus ((repeat' (exact trivial)))))<;>(apply A.one 6;kernel_rfl;exact rfl;(((apply R.callE;(iterate 3 exact rfl);exact Ext.none _;intro w1 hw1;exact hfr w1 hw1.chg;rintro v Lo ⟨f,rfl,rfl,hfo,hflen,hfcat,hfrd⟩;rw [slV_eq hfo,List.append_assoc];rw [hfre] at hfcat;rw [hmapl] at hflen)));apply R.nil;refine ⟨?_,?_⟩;(focus ((repeat' (exact trivial)))))<;>(apply A.one 7;kernel_rfl;exact rfl;(((apply R.callV;(iterate 3 exact rfl);intro w1 hw1;have h9:=tag_ok pk k.length ck k rfl hkl hkb (ovp f.ov) f.pts.length (ovc f.ov f.pts.length) f.pts rfl (by rw [hfcat];exact hfb) (by rw [hfcat];exact hbig) (by omega) w1 (hpk.chg' hw1.chg (fun _=>Off.nil _)) (RdSl.own' hw1 (Ext.mem (by (focus ((repeat' (exact Ext.here _ _));done)))) hfo Pt.v_len) (hfrd w1 (fun z hz=>hw1.get _ _ (Ext.mem (s:=f.ex) (by (focus (repeat' first|exact Ext.here _ _|apply Ext.app);done)) z hz)) (fun x hx=>(hall x hx).chg' hw1.chg (fun _=>Off.nil _)));rw [hfcat,← hdd] at h9;exact h9)));apply R.nil;refine ⟨?_,?_⟩;(focus ((repeat' (exact trivial)))))<;>(apply A.one 9;kernel_rfl;exact rfl;(((apply R.store;(iterate 4 exact rfl);exact hls;exact hone;(focus (repeat' first|exact Upd.head|apply Upd.right);done);exact hset _ rfl)));apply R.nil;refine ⟨?_,?_⟩;(focus ((repeat' (exact trivial)))))<;>(apply A.done;kernel_rfl)));rotate_right 1;(focus (((((apply R.callE;(iterate 3 exact rfl);exact Ext.none _;intro w1 hw1;exact hfr w1 hw1.chg;rintro v Lo ⟨f,rfl,rfl,hfo,hflen,hfcat,hfrd⟩;rw [slV_eq hfo,List.append_assoc];rw [hfre] at hfcat;rw [hmapl] at hflen)));apply R.nil;refine ⟨?_,?_⟩;(focus ((repeat' (exact trivial)))))<;>(apply A.two 7 8;kernel_rfl;exact rfl;exact rfl;rotate_left 1;(focus (((((apply R.alloc;(iterate 3 exact rfl);intro)));apply R.nil;refine ⟨?_,?_⟩;(focus ((repeat' (exact trivial)))))<;>(apply A.one 7;kernel_rfl;exact rfl;(((apply R.callV;(iterate 3 exact rfl);intro w1 hw1;have h9:=tag_ok pk k.length ck k rfl hkl hkb (ovp f.ov) f.pts.length (ovc f.ov f.pts.length) f.pts rfl (by rw [hfcat];exact hfb) (by rw [hfcat];exact hbig) (by omega) w1 (hpk.chg' hw1.chg (fun _=>Off.nil _)) (RdSl.own' hw1 (Ext.mem (by (focus (repeat' first|exact Ext.here _ _|apply Ext.cons);done))) hfo Pt.v_len) (hfrd w1 (fun z hz=>hw1.get _ _ (Ext.mem (s:=f.ex) (by (focus (repeat' first|exact Ext.here _ _|apply Ext.cons|apply Ext.app);done)) z hz)) (fun x hx=>(hall x hx).chg' hw1.chg (fun _=>Off.nil _)));rw [hfcat,← hdd] at h9;exact h9)));apply R.nil;refine ⟨?_,?_⟩;(focus ((repeat' (exact trivial)))))<;>(apply A.one 9;kernel_rfl;exact rfl;(((apply R.store;(iterate 4 exact rfl);exact hls;exact hone;exact Upd.head;exact hset _ rfl)));apply R.nil;refine ⟨?_,?_⟩;(focus ((repeat' (exact trivial)))))<;>(apply A.done;kernel_rfl)));rotate_right 1;(focus (((((apply R.callV;(iterate 3 exact rfl);intro w1 hw1;have h9:=tag_ok pk k.length ck k rfl hkl hkb (ovp f.ov) f.pts.length (ovc f.ov f.pts.length) f.pts rfl (by rw [hfcat];exact hfb) (by rw [hfcat];exact hbig) (by omega) w1 (hpk.chg' hw1.chg (fun _=>Off.nil _)) (RdSl.own' hw1 (Ext.mem (by (focus ((repeat' (exact Ext.here _ _));done)))) hfo Pt.v_len) (hfrd w1 (fun z hz=>hw1.get _ _ (Ext.mem (s:=f.ex) (by (focus (repeat' first|exact Ext.here _ _|apply Ext.app);done)) z hz)) (fun x hx=>(hall x hx).chg' hw1.chg (fun _=>Off.nil _)));rw [hfcat,← hdd] at h9;exact h9)));apply R.nil;refine ⟨?_,?_⟩;(focus ((repeat' (exact trivial)))))<;>(apply A.one 8;kernel_rfl;exact rfl;(((apply R.alloc;(iterate 3 exact rfl);intro)));apply R.nil;refine ⟨?_,?_⟩;(focus ((repeat' (exact trivial)))))<;>(apply A.one 9;kernel_rfl;exact rfl;(((apply R.store;(iterate 4 exact rfl);exact hls;exact hone;exact Upd.head;exact hset _ rfl)));apply R.nil;refine ⟨?_,?_⟩;(focus ((repeat' (exact trivial)))))<;>(apply A.done;kernel_rfl)))))))))|apply T.seq|apply T.region|apply T.skip|apply T.ret|(apply T.cond_f;exact rfl)))
  all_goals (apply RetOk.t;exact rfl)
  all_goals rw [hdl] at hov2
  all_goals refine ⟨_,?_,bk2,ov2,rfl,hov2,rfl⟩
  all_goals (focus (repeat' first|exact Ext.one _ _|exact Ext.here _ _|apply Keep.cons|apply Keep.last);done)
structure Cl where
  id:Int
  roles:Int
  exp:Int
  ser:Int
  deriving DecidableEq
instance:Inhabited Cl:=⟨⟨0,0,0,0⟩⟩
def Cl.v (c:Cl):List Value:=[.int .i64 c.id,.int .i64 c.roles,.int .i64 c.exp,.int .i64 c.ser]
def kvC (c:Cl):Value:=.agg ⟨[.int .i64 c.id,.int .i64 c.roles,.int .i64 c.exp,.int .i64 c.ser]⟩
def Cl.right (c:Cl):Prop:=1≤c.id∧c.id≤65535∧0≤c.roles∧c.roles≤255∧0≤c.exp∧c.exp≤1073741824∧1≤c.ser∧c.ser≤65535
instance (c:Cl):Decidable c.right:=by unfold Cl.right;infer_instance

theorem spans_ok (a b c d:Int):CallP Tryz.prog 237 [.agg ⟨[.int .i64 a,.int .i64 b,.int .i64 c,.int .i64 d]⟩]
    (.agg ⟨[.int .i64 a,.int .i64 1,.int .i64 65535,.int .i64 b,.int .i64 0,.int .i64 255,.int .i64 c,.int .i64 0,.int .i64 1073741824,.int .i64 d,.int .i64 1,.int .i64 65535]⟩):=by
  refine enterP (tb:=tb) Tryz.func237 rfl Tryz.ntmps237 rfl fun w=>?_
  repeat' (first|(apply R.is1;first|(apply R.pure;exact rfl;first|(apply Ok1.fieldAddr;(iterate 5 exact rfl))|(apply Ok1.load;exact rfl;(apply Ld.own1;exact rfl;exact rfl;(focus (repeat' first|exact At.head|apply At.tail);done);exact rfl))|(apply Ok1.build;(iterate 5 exact rfl))|(apply Ok1.buildA;(iterate 6 exact rfl)))|(apply R.box;(iterate 3 exact rfl);intro)|(apply R.alloc;(iterate 3 exact rfl);intro))|(apply R.is0;(apply R.store;(iterate 6 exact rfl);exact Upd.head;exact rfl))|apply R.nil|(apply T.is;first|apply T.seq|apply T.region|apply T.ret))
  (apply RetOk.c;exact rfl;((apply Ld.ownk;exact rfl;exact rfl;exact At.head;exact rfl)))
  rfl
theorem check_ok (a b c d:Int):CallP Tryz.prog 137 [.agg ⟨[.int .i64 a,.int .i64 b,.int .i64 c,.int .i64 d]⟩] (.int .i64 (if Cl.right ⟨a,b,c,d⟩ then 0 else 10)):=by
  refine enterP (tb:=tb) Tryz.func137 rfl Tryz.ntmps137 rfl fun w=>?_
  repeat' (first|(apply R.is1;first|(apply R.isBin;first|(apply R.pure;exact rfl;first|(apply Ok1.add64;exact rfl;exact rfl;omega;omega)|(apply Ok1.lss_t;exact rfl;exact rfl;omega)|(apply Ok1.lss_f;exact rfl;exact rfl;omega))|(apply R.leq rfl rfl rfl<;>intro)|(apply R.geq rfl rfl rfl<;>intro))|(apply R.isCall;apply R.callP rfl rfl rfl (spans_ok _ _ _ _))|(apply R.pure;exact rfl;first|(apply Ok1.move;exact rfl)|(apply Ok1.fieldAddr;(iterate 5 exact rfl))|(apply Ok1.load;exact rfl;first|(apply Ld.own1;exact rfl;exact rfl;exact At.head;exact rfl)|(apply Ld.ownk;exact rfl;exact rfl;exact At.head;exact rfl))|(apply Ok1.assign;exact rfl)|(apply Ok1.pick_t;exact rfl;exact rfl)|(apply Ok1.pick_f;exact rfl;exact rfl)|(apply Ok1.indexk;(iterate 6 exact rfl);omega;omega;exact rfl))|(apply R.box;(iterate 3 exact rfl);intro)|(apply R.alloc;(iterate 3 exact rfl);intro))|(apply R.is0;(apply R.store;(iterate 6 exact rfl);exact Upd.head;exact rfl))|(apply R.isG;first|(apply R.guard_run;exact rfl;exact rfl)|(apply R.guard_not;(iterate 3 exact rfl)))|apply R.nil|(apply T.is;first|apply T.rounds 5|apply T.seq|apply T.region|apply T.block|apply T.scope|apply T.label|apply T.skip|apply T.exit|apply T.ret|(apply T.cond_t;exact rfl)|(apply T.cond_f;exact rfl)))
  all_goals (apply RetOk.t;exact rfl)
  all_goals first|rw [if_pos (by simp only [Cl.right];omega)]|rw [if_neg (by simp only [Cl.right];omega)]

def cmpI (x y:Int):Int:=if x < y then -1 else if y < x then 1 else 0
theorem isNaN_ok (x:Int):CallP Tryz.prog 331 [.int .i64 x] (.bool false):=by
  refine enterP (tb:=tb) Tryz.func331 rfl Tryz.ntmps331 rfl fun w=>?_
  repeat' (first|(apply R.is1;first|(apply R.isBin;(apply R.pure;exact rfl;(apply Ok1.neq_f;exact rfl;exact rfl;omega)))|(apply R.pure;exact rfl;first|(apply Ok1.move;exact rfl)|(apply Ok1.assign;exact rfl)))|apply R.nil|(apply T.is;first|apply T.seq|apply T.region|apply T.ret))
  (apply RetOk.t;exact rfl)
  rfl
theorem cmp_ok (x y:Int):CallP Tryz.prog 260 [.int .i64 x,.int .i64 y] (.int .i64 (cmpI x y)):=by
  refine enterP (tb:=tb) Tryz.func260 rfl Tryz.ntmps260 rfl fun w=>?_
  repeat' (first|(apply R.is1;first|(apply R.isBin;first|(apply R.lss rfl rfl rfl<;>intro)|(apply R.gtr rfl rfl rfl<;>intro))|(apply R.isCall;apply R.callP rfl rfl rfl (isNaN_ok _))|(apply R.pure;exact rfl;first|(apply Ok1.move;exact rfl)|(apply Ok1.assign;exact rfl)))|apply R.nil|(apply T.is;first|apply T.seq|apply T.region|apply T.skip|apply T.ret|(apply T.cond_t;exact rfl)|(apply T.cond_f;exact rfl)))
  all_goals (apply RetOk.t;exact rfl)
  all_goals simp only [cmpI]
  all_goals first|rw [if_pos (by omega)]|(rw [if_neg (by omega),if_pos (by omega)])|(rw [if_neg (by omega),if_neg (by omega)])
def or4 (a b c d:Int):Int:=if a≠0 then a else if b≠0 then b else if c≠0 then c else d
theorem or_ok (a b c d:Int) (bl e:Nat) (w:World) (hb:w.heap[bl]? = some (.cells ⟨[.int .i64 a,.int .i64 b,.int .i64 c,.int .i64 d]⟩ e (0,0))) :
    CallW Tryz.prog 259 [.slice (some ⟨bl,0,none⟩) 4 4] w fun v _=>v = .int .i64 (or4 a b c d):=by
  refine enterW (tb:=tb) Tryz.func259 rfl Tryz.ntmps259 rfl ?_
  repeat' (first|(apply R.is1;first|(apply R.isBin;first|(apply R.pure;exact rfl;first|(apply Ok1.add64;exact rfl;exact rfl;omega;omega)|(apply Ok1.lss_t;exact rfl;exact rfl;omega)|(apply Ok1.lss_f;exact rfl;exact rfl;omega))|(apply R.neq rfl rfl rfl<;>intro))|(apply R.isCall;(apply R.pure;exact rfl;(apply Ok1.lenS;(iterate 3 exact rfl))))|(apply R.pure;exact rfl;first|(apply Ok1.move;exact rfl)|(apply Ok1.load;exact rfl;(apply Ld.blk1;exact rfl;exact rfl;assumption;(exact List.not_mem_nil);exact rfl))|(apply Ok1.assign;exact rfl)|(apply Ok1.indexAddr;(iterate 5 exact rfl);omega;omega)))|apply R.nil|(apply T.is;first|apply T.rounds 5|apply T.seq|apply T.region|apply T.block|apply T.skip|apply T.exit|apply T.ret|(apply T.cond_t;exact rfl)|(apply T.cond_f;exact rfl)))
  all_goals (apply RetOk.t;exact rfl)
  all_goals simp only [or4]
  all_goals first|(rw [if_pos (by omega)];done)|(rw [if_neg (by omega),if_pos (by omega)];done)|(rw [if_neg (by omega),if_neg (by omega),if_pos (by omega)];done)|(rw [if_neg (by omega),if_neg (by omega),if_neg (by omega)];first|done|(congr 1;omega))
def cmpCl (c d:Cl):Int:=if c=d then 0 else or4 (cmpI c.ser d.ser) (cmpI c.id d.id) (cmpI c.exp d.exp) (cmpI c.roles d.roles)
theorem compare_ok (c d:Cl):CallP Tryz.prog 211 [.agg ⟨[.int .i64 c.id,.int .i64 c.roles,.int .i64 c.exp,.int .i64 c.ser]⟩,.agg ⟨[.int .i64 d.id,.int .i64 d.roles,.int .i64 d.exp,.int .i64 d.ser]⟩] (.int .i64 (cmpCl c d)):=by
  refine enterP (tb:=tb) Tryz.func211 rfl Tryz.ntmps211 rfl fun w=>?_
  repeat' (first|(apply R.is1;first|(apply R.isBin;(apply R.eqlF;(iterate 8 exact rfl);all_goals intro))|(apply R.pure;exact rfl;first|(apply Ok1.load;exact rfl;(apply Ld.ownk;exact rfl;exact rfl;(focus (repeat' first|exact At.head|apply At.tail);done);exact rfl))|(apply Ok1.assign;exact rfl))|(apply R.box;(iterate 3 exact rfl);intro))|apply R.nil|(apply T.is;first|(apply T.draw (id:=3);((apply A.tk 0;exact rfl;kernel_rfl;(apply Ok1.fieldAddr;(iterate 5 exact rfl)))<;>(apply A.tk 1;exact rfl;kernel_rfl;(apply Ok1.load;exact rfl;(apply Ld.own1;exact rfl;exact rfl;(focus (repeat' first|exact At.head|apply At.tail);done);exact rfl)))<;>(apply A.tk 2;exact rfl;kernel_rfl;(apply Ok1.fieldAddr;(iterate 5 exact rfl)))<;>(apply A.tk 3;exact rfl;kernel_rfl;(apply Ok1.load;exact rfl;(apply Ld.own1;exact rfl;exact rfl;exact At.head;exact rfl)))<;>(apply A.tk 5;exact rfl;kernel_rfl;(apply Ok1.fieldAddr;(iterate 5 exact rfl)))<;>(apply A.tk 6;exact rfl;kernel_rfl;(apply Ok1.load;exact rfl;(apply Ld.own1;exact rfl;exact rfl;(focus (repeat' first|exact At.head|apply At.tail);done);exact rfl)))<;>(apply A.tk 7;exact rfl;kernel_rfl;(apply Ok1.fieldAddr;(iterate 5 exact rfl)))<;>(apply A.tk 8;exact rfl;kernel_rfl;(apply Ok1.load;exact rfl;(apply Ld.own1;exact rfl;exact rfl;exact At.head;exact rfl)))<;>(apply A.tk 10;exact rfl;kernel_rfl;(apply Ok1.fieldAddr;(iterate 5 exact rfl)))<;>(apply A.tk 11;exact rfl;kernel_rfl;(apply Ok1.load;exact rfl;(apply Ld.own1;exact rfl;exact rfl;(focus (repeat' first|exact At.head|apply At.tail);done);exact rfl)))<;>(apply A.tk 12;exact rfl;kernel_rfl;(apply Ok1.fieldAddr;(iterate 5 exact rfl)))<;>(apply A.tk 13;exact rfl;kernel_rfl;(apply Ok1.load;exact rfl;(apply Ld.own1;exact rfl;exact rfl;exact At.head;exact rfl)))<;>(apply A.tk 15;exact rfl;kernel_rfl;(apply Ok1.fieldAddr;(iterate 5 exact rfl)))<;>(apply A.tk 16;exact rfl;kernel_rfl;(apply Ok1.load;exact rfl;(apply Ld.own1;exact rfl;exact rfl;(focus (repeat' first|exact At.head|apply At.tail);done);exact rfl)))<;>(apply A.tk 17;exact rfl;kernel_rfl;(apply Ok1.fieldAddr;(iterate 5 exact rfl)))<;>(apply A.tk 18;exact rfl;kernel_rfl;(apply Ok1.load;exact rfl;(apply Ld.own1;exact rfl;exact rfl;exact At.head;exact rfl)))<;>(apply A.one 4;kernel_rfl;exact rfl;((apply R.callP rfl rfl rfl (cmp_ok _ _)));apply R.nil;refine ⟨?_,?_⟩;(focus (repeat' first|exact trivial|exact At.head|apply At.tail|refine ⟨?_,?_⟩)))<;>(apply A.one 9;kernel_rfl;exact rfl;((apply R.callP rfl rfl rfl (cmp_ok _ _)));apply R.nil;refine ⟨?_,?_⟩;(focus (repeat' first|exact trivial|exact At.head|apply At.tail|refine ⟨?_,?_⟩)))<;>(apply A.one 14;kernel_rfl;exact rfl;((apply R.callP rfl rfl rfl (cmp_ok _ _)));apply R.nil;refine ⟨?_,?_⟩;(focus (repeat' first|exact trivial|exact At.head|apply At.tail|refine ⟨?_,?_⟩)))<;>(apply A.one 19;kernel_rfl;exact rfl;((apply R.callP rfl rfl rfl (cmp_ok _ _)));apply R.nil;refine ⟨?_,?_⟩;(focus (repeat' first|exact trivial|exact At.head|apply At.tail|refine ⟨?_,?_⟩)))<;>(apply A.one 20;kernel_rfl;exact rfl;(((apply R.buildSlice;(iterate 12 exact rfl);intro)));apply R.nil;refine ⟨?_,?_⟩;(focus (repeat' first|exact trivial|exact At.head|apply At.tail|refine ⟨?_,?_⟩)))<;>(apply A.one 21;kernel_rfl;exact rfl;(((apply R.callV;(iterate 3 exact rfl);(intro w1 hw1;exact or_ok _ _ _ _ _ _ _ (hw1.get _ _ (At.mem (by exact At.head)))))));apply R.nil;refine ⟨?_,?_⟩;(focus (repeat' first|exact trivial|exact At.head|apply At.tail|refine ⟨?_,?_⟩)))<;>(apply A.tk 22;exact rfl;kernel_rfl;(apply Ok1.assign;exact rfl))<;>(apply A.done;kernel_rfl)))|apply T.seq|apply T.region|apply T.skip|apply T.ret|(apply T.cond_t;exact rfl)|(apply T.cond_f;exact rfl)))
  all_goals (apply RetOk.t;exact rfl)
  all_goals simp only [cmpCl]
  · have h:=‹(_:List Value)=_›
    simp only [List.cons.injEq,Value.int.injEq,true_and,and_true] at h
    rw [if_pos (by cases c;cases d;simp_all)]
  · have h:=‹(_:List Value)≠_›
    simp only [ne_eq,List.cons.injEq,Value.int.injEq,true_and,and_true] at h
    rw [if_neg (by rintro rfl;exact h ⟨rfl,rfl,rfl,rfl⟩)]

theorem right_ok (a b c d:Int):CallP Tryz.prog 23 [.agg ⟨[.int .i64 a,.int .i64 b,.int .i64 c,.int .i64 d]⟩] (.bool (decide (Cl.right ⟨a,b,c,d⟩))):=by
  refine enterP (tb:=tb) Tryz.func23 rfl Tryz.ntmps23 rfl fun w=>?_
  repeat' (first|(apply R.is1;first|(apply R.isBin;first|(apply R.lss rfl rfl rfl<;>intro)|(apply R.leq rfl rfl rfl<;>intro)|(apply R.gtr rfl rfl rfl<;>intro)|(apply R.geq rfl rfl rfl<;>intro))|(apply R.pure;exact rfl;first|(apply Ok1.move;exact rfl)|(apply Ok1.fieldAddr;(iterate 5 exact rfl))|(apply Ok1.load;exact rfl;(apply Ld.own1;exact rfl;exact rfl;exact At.head;exact rfl))|(apply Ok1.assign;exact rfl)|(apply Ok1.pick_t;exact rfl;exact rfl)|(apply Ok1.pick_f;exact rfl;exact rfl))|(apply R.box;(iterate 3 exact rfl);intro))|(apply R.isG;first|(apply R.guard_run;exact rfl;exact rfl)|(apply R.guard_not;(iterate 3 exact rfl)))|apply R.nil|(apply T.is;first|apply T.seq|apply T.region|apply T.ret))
  all_goals (apply RetOk.t;exact rfl)
  all_goals congr 1
  all_goals first|(rw [decide_eq_true (by simp only [Cl.right];omega)])|(rw [decide_eq_false (by simp only [Cl.right];omega)])
theorem to5_ok (a b c d:Int):CallP Tryz.prog 22 [.agg ⟨[.int .i64 a,.int .i64 b,.int .i64 c,.int .i64 d]⟩] (.agg ⟨[.int .i64 a,.int .i64 b,.int .i64 c,.int .i64 d]⟩):=by
  refine enterP (tb:=tb) Tryz.func22 rfl Tryz.ntmps22 rfl fun w=>?_
  repeat' (first|(apply R.is1;first|(apply R.pure;exact rfl;first|(apply Ok1.fieldAddr;(iterate 5 exact rfl))|(apply Ok1.load;exact rfl;(apply Ld.own1;exact rfl;exact rfl;(focus (repeat' first|exact At.head|apply At.tail);done);exact rfl))|(apply Ok1.build;(iterate 5 exact rfl)))|(apply R.box;(iterate 3 exact rfl);intro)|(apply R.alloc;(iterate 3 exact rfl);intro))|(apply R.is0;(apply R.store;(iterate 6 exact rfl);exact Upd.head;exact rfl))|apply R.nil|(apply T.is;first|apply T.seq|apply T.region|apply T.ret))
  (apply RetOk.c;exact rfl;((apply Ld.ownk;exact rfl;exact rfl;exact At.head;exact rfl)))
  rfl
theorem len64_ok (x:Int) (h0:0≤x) (h1:x≤18446744073709551615):CallP Tryz.prog 256 [.int .u64 x] (.int .i64 (blen x.toNat)):=by
  refine enterP (tb:=tb) Tryz.func256 rfl Tryz.ntmps256 rfl fun w=>?_
  repeat' (first|(apply R.is1;first|(apply R.isBin;first|(apply R.pure;exact rfl;first|(apply Ok1.add64;exact rfl;exact rfl;omega;omega)|(apply Ok1.shr;exact rfl;exact rfl;omega;exact Nat.le_of_ble_eq_true rfl;(first|exact pwE8|exact pwE16|exact pwE32)))|(apply R.geq rfl rfl rfl<;>intro))|(apply R.pure;exact rfl;first|(apply Ok1.len8;(iterate 4 exact rfl);omega;omega;kernel_rfl)|(apply Ok1.move;exact rfl)|(apply Ok1.assign;exact rfl)|(apply Ok1.convI64;(iterate 5 exact rfl);omega;omega)|(apply Ok1.convU8;(iterate 5 exact rfl);omega;omega)))|apply R.nil|(apply T.is;first|apply T.seq|apply T.region|apply T.skip|apply T.ret|(apply T.cond_t;exact rfl)|(apply T.cond_f;exact rfl)))
  all_goals (apply RetOk.t;exact rfl)
  all_goals congr 1
  all_goals rw [Nat.min_eq_left (blen_le 8 (by omega))]
  all_goals first
    | (rw [blen32 (x:=x.toNat) (by omega),blen16 (x:=x.toNat / 4294967296) (by omega),blen8 (x:=x.toNat / 4294967296 / 65536) (by omega),show (x / 4294967296 / 65536 / 256).toNat=x.toNat / 4294967296 / 65536 / 256 by omega];omega)
    | (rw [blen32 (x:=x.toNat) (by omega),blen16 (x:=x.toNat / 4294967296) (by omega),show (x / 4294967296 / 65536).toNat=x.toNat / 4294967296 / 65536 by omega];omega)
    | (rw [blen32 (x:=x.toNat) (by omega),blen8 (x:=x.toNat / 4294967296) (by omega),show (x / 4294967296 / 256).toNat=x.toNat / 4294967296 / 256 by omega];omega)
    | (rw [blen32 (x:=x.toNat) (by omega),show (x / 4294967296).toNat=x.toNat / 4294967296 by omega];omega)
    | (rw [blen16 (x:=x.toNat) (by omega),blen8 (x:=x.toNat / 65536) (by omega),show (x / 65536 / 256).toNat=x.toNat / 65536 / 256 by omega];omega)
    | (rw [blen16 (x:=x.toNat) (by omega),show (x / 65536).toNat=x.toNat / 65536 by omega];omega)
    | (rw [blen8 (x:=x.toNat) (by omega),show (x / 256).toNat=x.toNat / 256 by omega];omega)
    | omega
theorem len_ok (x:Int) (h0:0≤x) (h1:x≤18446744073709551615):CallP Tryz.prog 152 [.int .u64 x] (.int .i64 (blen x.toNat)):=by
  refine enterP (tb:=tb) Tryz.func152 rfl Tryz.ntmps152 rfl fun w=>?_
  repeat' (first|(apply R.is1;first|(apply R.isCall;apply R.callP rfl rfl rfl (len64_ok _ (by omega) (by omega)))|(apply R.pure;exact rfl;first|(apply Ok1.move;exact rfl)|(apply Ok1.assign;exact rfl)))|apply R.nil|(apply T.is;first|apply T.seq|apply T.region|apply T.skip|apply T.ret|(apply T.cond_f;exact rfl)))
  all_goals (apply RetOk.t;exact rfl)
  rfl
end Go.Proofs.YtcfdgnajepilbaaGreat
set_option linter.unusedSimpArgs false
set_option linter.unusedVariables false
namespace Go.Proofs.YtcfdgnajepilbaaGreat
open Go.RowKit Go.Shelf Go.Sort
def ltC (c d:Cl):Prop:=c.ser < d.ser ∨ c.ser=d.ser∧(c.id < d.id ∨ c.id=d.id∧(c.exp < d.exp ∨ c.exp=d.exp∧c.roles < d.roles))
theorem cmpI_neg (x y:Int):cmpI x y < 0 ↔ x < y:=by
  unfold cmpI
  repeat' split
  all_goals omega
theorem cmpI_zero (x y:Int):cmpI x y=0 ↔ x=y:=by
  unfold cmpI
  repeat' split
  all_goals omega
theorem cmpCl_neg (c d:Cl):cmpCl c d < 0 ↔ ltC c d:=by
  unfold cmpCl ltC
  split
  · rename_i h;subst h;simp
  · have h1:=cmpI_neg c.ser d.ser
    have h2:=cmpI_neg c.id d.id
    have h3:=cmpI_neg c.exp d.exp
    have h4:=cmpI_neg c.roles d.roles
    have z1:=cmpI_zero c.ser d.ser
    have z2:=cmpI_zero c.id d.id
    have z3:=cmpI_zero c.exp d.exp
    have z4:=cmpI_zero c.roles d.roles
    unfold or4
    repeat' split
    all_goals omega
end Go.Proofs.YtcfdgnajepilbaaGreat
set_option linter.unusedSimpArgs false
set_option linter.unusedVariables false
set_option linter.unusedSectionVars false
namespace Go.Proofs.YtcfdgnajepilbaaGreat
open Go.RowKit Go.Shelf Go.Sort
section
variable {α:Type} [Inhabited α] {enc:α→List Value} {k:Nat}
theorem flatK_get (hk : ∀ x,(enc x).length=k) (d:Array α) {t:Nat} (ht:t < d.size * k):(flatK enc k d)[t]? = (fl enc d.toList)[t]?:=by
  have k0 : 0 < k := by rcases Nat.eq_zero_or_pos k with h|h;· subst h;simp at ht
                        · exact h
  have hdm:=Nat.div_add_mod t k
  have hml:=Nat.mod_lt t k0
  have hil:t / k < d.size:=by rw [Nat.div_lt_iff_lt_mul k0];exact ht
  have hg:d.toList[t / k]? = some d[t / k]!:=by simp [hil]
  have h5:=fl_get hk hg hml
  rw [show t / k * k+t % k=t by rw [Nat.mul_comm];exact hdm] at h5
  rw [h5]
  have h6:=get_flatK enc k d t ht
  rw [getElem!_pos _ t (by simpa using ht)] at h6
  rw [Array.getElem?_eq_getElem (by simpa using ht),h6,List.getElem?_eq_getElem (by rw [hk];exact hml),getElem!_pos _ _ (by rw [hk];exact hml)]
theorem putCells_own (hk:∀ x,(enc x).length=k) (d:Array α) {old junk:List Value} (ho:old.length=d.size * k) :
    putCells id 0 (flatK enc k d) ⟨old++junk⟩=⟨fl enc d.toList++junk⟩:=by
  apply Array.ext_getElem?
  intro t
  have hl:(fl enc d.toList).length=d.size * k:=by rw [fl_len hk];simp
  simp only [putCells,Array.getElem?_mapIdx,Nat.zero_le,true_and,Nat.zero_add,Nat.sub_zero,size_flatK,id,List.getElem?_toArray]
  by_cases ht:t < d.size * k
  · rw [List.getElem?_append_left (by omega),List.getElem?_append_left (by omega),List.getElem?_eq_getElem (by omega),← flatK_get hk d ht]
    simp [ht]
  · rw [List.getElem?_append_right (by omega),List.getElem?_append_right (by omega),ho,hl]
    cases junk[t - d.size * k]? with
    | none=>rfl
    | some v=>simp [ht]

theorem sortWorld_own (hk:∀ x,(enc x).length=k) {w:World} {b m:Nat} {d:Array α} {os:Array Obj} {old junk:List Value} {e:TypeId} {fz:Nat × Nat} (hb:w.heap[b]? = some (.cells ⟨old++junk⟩ e fz)) (ho:old.length=d.size * k) :
    Chg [b] w (sortWorldK enc k w b 0 m d os)∧(sortWorldK enc k w b 0 m d os).heap[b]? = some (.cells ⟨fl enc d.toList++junk⟩ e fz):=by
  have hlt:=(Array.getElem?_eq_some_iff.1 hb).1
  refine ⟨⟨rfl,rfl,rfl,?_,?_,?_⟩,?_⟩
  · simp [sortWorldK,grow,putRowK,putRow,mapBlock,Sort.ahead]
  · simp [sortWorldK,grow,putRowK,putRow,mapBlock,Sort.ahead]
  · intro i hi hs
    have hne:b≠i:=fun h=>hs (by simp [h])
    simp [sortWorldK,grow,putRowK,putRow,mapBlock,Sort.ahead,Array.getElem?_append,hi,Array.getElem_modify,hne]
  · simp only [sortWorldK,grow,putRowK,putRow,mapBlock,Sort.ahead]
    rw [Array.getElem?_append_left (by simpa using hlt),Array.getElem?_modify,if_pos rfl,hb]
    simp only [Option.map_some,onCells,putCells_own hk d ho]

/-- Ascending: no later one is less than an earlier one. -/
def Asc (cf:α→α→Int) (rs:List α):Prop:=rs.Pairwise fun a b=>¬ cf b a < 0

/-- What the program's slices.SortFunc does to an own slice of rows. -/
theorem sort_ok {P:Program} {ρ:Ren} (L:SlLaysF0.n6 P ρ) (aE:∀ w,(isAgg (ρ.t 24)).run P w = .ok true w) (zE:∀ w,(Go.sizeOf (ρ.t 24)).run P w = .ok k w) (hk:∀ x,(enc x).length=k) (h1:∀ x,∀ v∈enc x,v.oneCell'=true) (cf:α→α→Int) (hO:SWO (ltOf cf)) (g:Nat) (cb:List Value) {f:FuncId} (hf:ρ.f 6=f)
    (b cap:Nat) (rs:List α) (junk:List Value) (e:TypeId) (w:World) (he:Enters P g) (hsz:rs.length≤1000000)
    (hcmp:∀ W,Chg [b] w W→∀ x y,CallW P g ([.agg ⟨enc x⟩,.agg ⟨enc y⟩]++cb) W fun v _=>v = .int .i64 (cf x y)) :
    CallM P f [.slice (some ⟨b,0,none⟩) rs.length cap,.func (.func g) #[] cb.toArray] [(b,.cells ⟨fl enc rs++junk⟩ e (0,0))] w fun v L'=>v = .tuple #[]∧∃ rs':List α,rs'.Perm rs∧Asc cf rs' ∧ L'=[(b,.cells ⟨fl enc rs'++junk⟩ e (0,0))] :=
  ⟨fun hw=>by
    subst hf
    have hb:=hw.get b _ List.mem_cons_self
    have hlt:=(Array.getElem?_eq_some_iff.1 hb).1
    have hfl:(fl enc rs).length=rs.length * k:=fl_len hk rs
    have hH:HoldsK enc k w b 0 rs.toArray:=by
      intro j hj
      have hj':j < rs.length * k:=by simpa using hj
      have h2:=flatK_get hk rs.toArray (t:=j) (by simpa using hj')
      refine ⟨?_,?_⟩
      · simp only [World.cell?,hb,Nat.zero_add]
        rw [getElem!_pos _ j hj]
        rw [Array.getElem?_eq_getElem hj] at h2
        simp only [id,h2]
        simp [List.getElem?_append_left,hfl,hj']
      · simp [World.frozen?,hb]
    have hcm:CmpLays P g cb.toArray enc k cf b 0 rs.toArray.size w:=by
      intro m os dk hs x y
      have hc:=(sortWorld_own hk (m:=m) (d:=dk) (os:=os) hb (by rw [hfl,hs];simp)).1
      have:=(hcmp _ hc x y).run
      have e1:(#[Value.agg (enc x).toArray,Value.agg (enc y).toArray]++cb.toArray:Array Value)=([Value.agg ⟨enc x⟩,Value.agg ⟨enc y⟩]++cb).toArray:=by simp
      rw [e1]
      refine Calls.mono this ?_
      rintro e w' ⟨v,h3,h4,h5⟩
      exact ⟨by rw [h3,h4],h5.grow⟩
    have:=AnyQ.slices_SortFunc L k aE zE enc hk h1 cf hO g cb.toArray b 0 cap rs.toArray w he hcm hH hlt (by simp;omega)
    have e0:rs.toArray.size=rs.length:=by simp
    rw [e0] at this
    refine Calls.mono this ?_
    rintro e' w' ⟨h3,d',n,os,hp,hs,hw'⟩
    have hds:d'.size=rs.length:=by simpa using hp.1
    obtain ⟨g1,g2⟩:=sortWorld_own hk (m:=n) (d:=d') (os:=os) hb (by rw [hfl,hds])
    refine ⟨.tuple #[],[(b,.cells ⟨fl enc d'.toList++junk⟩ e (0,0))],h3,⟨rfl,d'.toList,?_,?_,rfl⟩,?_⟩
    · have h4:=hp.2.2
      have e1:d'.extract 0 rs.length=d':=by rw [← hds];simp
      have e2:rs.toArray.extract 0 rs.length=rs.toArray:=by rw [← e0];simp
      rw [e1,e2] at h4
      exact h4
    · refine List.pairwise_iff_getElem.2 fun i j hi hj hij=>?_
      have h4:=hs i j (Nat.zero_le _) hij (by simp at hj ⊢;omega)
      simp only [ltOf,decide_eq_false_iff_not] at h4
      simp only [Array.length_toList] at hi hj
      rw [getElem!_pos d' i (by omega),getElem!_pos d' j (by omega)] at h4
      exact h4
    · rw [hw']
      exact hw.upd .head g1 g2⟩
end
end Go.Proofs.YtcfdgnajepilbaaGreat
set_option linter.unusedSimpArgs false
set_option linter.unusedVariables false
set_option linter.unusedSectionVars false
namespace Go.Proofs.YtcfdgnajepilbaaGreat
open Go.RowKit Go.Shelf
section
variable {X:Cx} {σ:Env} {L:Lst} {ty:TypeId} {pos:String} {af:Array Edge} {d:Option Nat} {g:Option (Nat × Bool)} {x:Operand} {κ α:Type} {kv:κ→Value} {vv:α→Value} {ms:Ms κ α} {clk b c:Nat}
theorem find_born {ms:Ms κ α} {e:κ × α × Nat} (he:e∈ms) (hnd:(ms.map (·.2.2)).Nodup):(Array.mk (ms.map fun x=>(⟨kv x.1,vv x.2.1,x.2.2⟩:MapEntry))).find? (fun y=>y.born == e.2.2)=some ⟨kv e.1,vv e.2.1,e.2.2⟩:=by
  rw [List.find?_toArray]
  induction ms with
  | nil=>cases he
  | cons m ms ih =>
    simp only [List.map_cons,List.nodup_cons] at hnd
    simp only [List.map_cons,List.find?_cons]
    rcases List.mem_cons.1 he with rfl|he
    · simp
    · have:m.2.2≠e.2.2:=fun h=>hnd.1 (h ▸ List.mem_map.2 ⟨e,he,rfl⟩)
      simp only [beq_eq_false_iff_ne.2 this]
      exact ih he hnd.2
theorem Ok1.entry {e:κ × α × Nat} {seen:List Nat} (hx:ev σ x=some (.pointer (some ⟨c,0,none⟩))) (hit:At L c (.mapIter (some b) clk ⟨seen++[e.2.2]⟩ clk)) (hat:At L b (mobj kv vv ms clk)) (he:e∈ms) (hnd:(ms.map (·.2.2)).Nodup) :
    Ok1 X ⟨d,.entry x,ty,pos,af,g⟩ σ L (.tuple ⟨[kv e.1,vv e.2.1]⟩):=.mk fun a w ha hw=>by
  have hb:=hw.get _ _ hat.mem
  have hc:=hw.get _ _ hit.mem
  have g1:(getObj c).run X.P w = .ok (.mapIter (some b) clk ⟨seen++[e.2.2]⟩ clk) w:=by simp only [getObj,Sem.run,hc]
  have g2:(getObj b).run X.P w = .ok (mobj kv vv ms clk) w:=by simp only [getObj,Sem.run,hb];rfl
  have hback:(Array.mk (seen++[e.2.2])).back? = some e.2.2:=by simp
  have hf:=find_born (kv:=kv) (vv:=vv) he hnd
  simp only [execOp,ha.ev hx,Instr.entry,Sem.run_bind,g1,Result.andThen_ok,hback,g2,mobj,bne_self_eq_false,Bool.false_eq_true,if_false,hf,Sem.run_pure]
end
theorem nodup_map_born {κ α:Type} {l:Ms κ α} (h:(l.map (·.2.2)).Nodup):l.Nodup:=by
  induction l with
  | nil=>simp
  | cons m l ih =>
    simp only [List.map_cons,List.nodup_cons] at h ⊢
    exact ⟨fun hm=>h.1 (List.mem_map.2 ⟨m,hm,rfl⟩),ih h.2⟩
theorem nodup_sub_len {β:Type} [DecidableEq β]:∀ {l m:List β},l.Nodup→(∀ x∈l,x∈m)→l.length≤m.length
  | [],_,_,_=>Nat.zero_le _
  | a :: l,m,h,hs=>by
    rw [List.nodup_cons] at h
    have h1:=hs a List.mem_cons_self
    have h2:l.length≤(m.erase a).length:=nodup_sub_len h.2 fun x hx=>by
      have hne:x≠a:=fun e=>h.1 (e ▸ hx)
      exact (List.mem_erase_of_ne hne).2 (hs x (List.mem_cons_of_mem _ hx))
    rw [List.length_erase_of_mem h1] at h2
    have:0 < m.length:=List.length_pos_of_mem h1
    simp only [List.length_cons]
    omega
/-- Which entries have been met. -/
structure Met {κ α:Type} (ms vis:Ms κ α):Prop where
  nd:(vis.map (·.2.2)).Nodup
  sub:∀ e∈vis,e∈ms
theorem Met.start {κ α:Type} (ms:Ms κ α):Met ms []:=⟨by simp,by simp⟩
theorem Met.step {κ α:Type} {ms vis:Ms κ α} (h:Met ms vis) {e:κ × α × Nat} (he:e∈ms) (hn:e.2.2 ∉ vis.map (·.2.2)):Met ms (vis++[e]):=by
  refine ⟨?_,?_⟩
  · rw [List.map_append,List.nodup_append]
    refine ⟨h.nd,by simp,?_⟩
    intro a ha b hb e'
    simp only [List.map_cons,List.map_nil,List.mem_singleton] at hb
    subst hb;subst e'
    exact hn ha
  · intro x hx
    rcases List.mem_append.1 hx with hx|hx
    · exact h.sub x hx
    · rw [List.mem_singleton.1 hx];exact he
theorem Met.perm {κ α:Type} {ms vis:Ms κ α} (h:Met ms vis) (hnd:(ms.map (·.2.2)).Nodup) (hall:∀ e∈ms,e.2.2∈vis.map (·.2.2)):vis.Perm ms:=by
  classical
  have nv:vis.Nodup:=nodup_map_born h.nd
  have nm:ms.Nodup:=nodup_map_born hnd
  refine (List.perm_ext_iff_of_nodup nv nm).2 fun e=>⟨h.sub e,fun he=>?_⟩
  obtain ⟨e',h1,h2⟩:=List.mem_map.1 (hall e he)
  have h3:=h.sub e' h1
  have:e'=e:=by
    have inj:∀ (ms:Ms κ α),(ms.map (·.2.2)).Nodup→e'∈ms→e∈ms→e'.2.2=e.2.2→e'=e:=by
      intro ms
      induction ms with
      | nil=>intro _ h;cases h
      | cons m ms ih =>
        intro hn h1 h2 h3
        simp only [List.map_cons,List.nodup_cons] at hn
        rcases List.mem_cons.1 h1 with a1|a1
        · rcases List.mem_cons.1 h2 with a2|a2
          · rw [a1,a2]
          · exact (hn.1 (a1 ▸ h3 ▸ List.mem_map.2 ⟨e,a2,rfl⟩)).elim
        · rcases List.mem_cons.1 h2 with a2|a2
          · exact (hn.1 (a2 ▸ h3 ▸ List.mem_map.2 ⟨e',a1,rfl⟩)).elim
          · exact ih hn.2 a1 a2 h3
    exact inj ms hnd h3 he h2
  exact this ▸ h1
theorem Met.le {κ α:Type} {ms vis:Ms κ α} (h:Met ms vis) (hnd:(ms.map (·.2.2)).Nodup) {e:κ × α × Nat} (he:e∈ms) (hn:e.2.2 ∉ vis.map (·.2.2)):vis.length < ms.length:=by
  have h2:=h.step he hn
  have h1:((vis++[e]).map (·.2.2)).length≤(ms.map (·.2.2)).length:=nodup_sub_len h2.nd fun x hx=>by
    obtain ⟨y,hy,rfl⟩:=List.mem_map.1 hx
    exact List.mem_map.2 ⟨y,h2.sub y hy,rfl⟩
  simp only [List.length_map,List.length_append,List.length_cons,List.length_nil] at h1
  omega
end Go.Proofs.YtcfdgnajepilbaaGreat
set_option linter.unusedSimpArgs false
set_option linter.unusedVariables false
set_option linter.unusedSectionVars false
namespace Go.Proofs.YtcfdgnajepilbaaGreat
section
variable {κ α:Type} [DecidableEq κ]
def mkeys (ms:Ms κ α):List κ:=ms.map (·.1)
/-- A map that is in order: keys once each,stamps once each and below the clock. -/
structure MWf (s:Ms κ α × Nat):Prop where
  bnd:∀ e∈s.1,e.2.2 < s.2
  nd:(s.1.map (·.2.2)).Nodup
  keys:(mkeys s.1).Nodup
theorem MWf.nil:MWf (([]:Ms κ α),0):=⟨by simp,by simp,by simp [mkeys]⟩
end
end Go.Proofs.YtcfdgnajepilbaaGreat
set_option linter.unusedSimpArgs false
set_option linter.unusedVariables false
namespace Go.Proofs.YtcfdgnajepilbaaGreat
open Go.RowKit Go.Shelf
set_option maxRecDepth 100000
theorem ktag_ok (bk:Nat) (k:List Int) (hkl:k.length≤999999000) (hkb:Byt k) (pp:Option Addr) (m cap:Nat) (ps:List Pt) (hm:m=ps.length) (hbyt:Byt (cat ps)) (hbig:(cat ps).length≤999998000) (hm2:m≤1000000000) (w:World) (hk:KeyR w bk k) (hpp:RdSl w pp Pt.v ps) (hall:∀ x∈ps,RdSl w x.p u8V x.xs) :
    CallW Tryz.prog 298 [.pointer (some ⟨bk,0,none⟩),.slice pp m cap] w fun v _=>v = .agg ⟨u8s (hmacI k (cat ps))⟩:=by
  obtain ⟨pk,ck,hb,hpk⟩:=hk
  have htg:=fun w1 (hc:Chg [] w w1)=>tag_ok pk k.length ck k rfl hkl hkb pp m cap ps hm hbyt hbig hm2 w1 (hpk.chg' hc (fun _=>Off.nil _)) (hpp.chg' hc (fun _=>Off.nil _)) (fun x hx=>(hall x hx).chg' hc (fun _=>Off.nil _))
  have hls:(u8s (hmacI k (cat ps))).length=32:=by rw [u8s_len,hmac_len]
  have hone:=u8s_one (hmacI k (cat ps))
  generalize u8s (hmacI k (cat ps))=D at *
  have hset:∀ cs:List Value,cs.length=32→setE cs 0 D=some D:=fun cs h=>setE_all (by rw [hls,h])
  refine enterW (tb:=tb) Tryz.func298 rfl Tryz.ntmps298 rfl ?_
  repeat' (first|(apply R.is1;first|(apply R.isBin;(apply R.pure;exact rfl;(apply Ok1.eqlP;(iterate 5 exact rfl))))|(apply R.isCall;(apply R.callW (vs:=[.slice pk k.length ck,.slice pp m cap]);(iterate 3 exact rfl);intro w1 hw1;exact htg w1 hw1.chg;rintro v rfl))|(apply R.pure;exact rfl;first|(apply Ok1.move;exact rfl)|(apply Ok1.fieldAddr;(iterate 5 exact rfl))|(apply Ok1.load;exact rfl;(apply Ld.blk1;exact rfl;exact rfl;assumption;(exact List.not_mem_nil);exact rfl))|(apply Ok1.nilCheck;exact rfl))|(apply R.alloc;(iterate 3 exact rfl);intro))|(apply R.is0;(apply R.store;(iterate 4 exact rfl);exact hls;exact hone;exact Upd.head;exact hset _ rfl))|apply R.nil|(apply T.is;first|apply T.seq|apply T.region|apply T.skip|apply T.ret|(apply T.cond_f;exact rfl)))
  (apply RetOk.c;exact rfl;(apply Ld.ownk;exact rfl;exact rfl;exact At.head;exact subE_all hls))
  rfl
theorem bclone_ok (p:Option Addr) (n cap:Nat) (xs:List Int) (hn:n=xs.length) (hbig:n≤1000000000) (w:World) (hp:RdSl w p u8V xs):CallM Tryz.prog 105 [.slice p n cap] [] w fun v L=>∃ ov,OvOk 1 ov n (u8s xs)∧v=slV ov n∧L=blkL 5 ov (u8s xs):=by
  refine enterK (tb:=tb) Tryz.func105 rfl Tryz.ntmps105 rfl ?_
  cases p with
  | none =>
    have hx:xs=[]:=by
      rcases hp with h|⟨b,o,h,_⟩
      · exact h
      · cases h
    subst hx
    have h0:n=0:=hn
    repeat' (first|(apply R.is1;first|(apply R.isBin;(apply R.pure;exact rfl;(apply Ok1.eqlS;(iterate 5 exact rfl))))|(apply R.pure;exact rfl;first|(apply Ok1.move;exact rfl)|(apply Ok1.assign;exact rfl)))|apply R.nil|(apply T.is;first|apply T.seq|apply T.region|apply T.ret|(apply T.cond_t;exact rfl)))
    (apply RetOk.t;exact rfl)
    exact ⟨_,by (focus ((repeat' (exact Keep.nil _));done)),none,by rw [h0];exact OvOk.start 1,by rw [h0];rfl,rfl⟩
  | some a =>
    repeat' (first|(apply R.is1;first|(apply R.buildSlice0;(iterate 4 exact rfl);intro b0)|(apply R.isBin;(apply R.pure;exact rfl;(apply Ok1.eqlS;(iterate 5 exact rfl))))|(apply R.isCall;(apply R.appendRd (xs:=xs) (v:=u8V) (sz:=1) (ov:=some (b0,0,[])) (n:=0) (old:=[]);(iterate 12 exact rfl);exact ⟨rfl,rfl⟩;(focus ((repeat' (exact Ext.one _ _));done));exact hn;exact u8V_len;exact rfl;(intro w1 hw1;exact hp.chg hw1.chg (Off.nil _));(rw [fl_u8];exact u8s_one xs);omega;intro ov1 hov1 hsome))|(apply R.pure;exact rfl;first|(apply Ok1.move;exact rfl)|(apply Ok1.assign;exact rfl)))|apply R.nil|(apply T.is;first|apply T.seq|apply T.region|apply T.skip|apply T.ret|(apply T.cond_f;exact rfl)))
    rw [Nat.zero_add,List.nil_append,fl_u8] at hov1
    rw [Nat.zero_add,List.nil_append,fl_u8]
    repeat' (fail)
    (apply RetOk.t;exact rfl)
    refine ⟨_,?_,ov1,hov1,rfl,rfl⟩
    (focus (repeat' first|exact Ext.here _ _|apply Keep.last);done)
def HRt (o r v:Int):Prop:=1≤o∧o≤65535∧0≤r∧r < 8∧1≤v∧v≤2147483647
instance (o r v:Int):Decidable (HRt o r v):=by unfold HRt;infer_instance
def kv2 (k:Int × Int):Value:=.agg ⟨[.int .i64 k.1,.int .i64 k.2]⟩
/-- An entry of a store. -/
structure SE where
  o:Int
  r:Int
  ver:Int
  bov:Ov
  body:List Int
  vov:Ov
  val:List Int
  op:Bool
def SE.L (e:SE):Lst:=blkL 5 e.bov (u8s e.body)++blkL 5 e.vov (u8s e.val)
def evS (e:SE):Value:=.agg ⟨[.int .i64 e.o,.int .i64 e.r,.int .i64 e.ver,slV e.bov e.body.length,slV e.vov e.val.length,.bool e.op]⟩
abbrev SMs:=Ms (Int × Int) SE
def SX (ms:SMs):Lst:=ms.flatMap fun x=>x.2.1.L
def SL (bs bm:Nat) (ms:SMs) (clk:Nat):Lst:=(bs,.cells ⟨[.map (some bm)]⟩ 296 (0,0))::(bm,mobj kv2 evS ms clk)::SX ms
theorem stnew_ok (w:World):CallM Tryz.prog 81 [] [] w fun v L=>∃ bs bm,v = .pointer (some ⟨bs,0,none⟩)∧L=SL bs bm [] 0:=by
  refine enterK (tb:=tb) Tryz.func81 rfl Tryz.ntmps81 rfl ?_
  repeat' (first|(apply R.is1;first|(apply R.makeMap kv2 evS;exact rfl;intro bm)|(apply R.pure;exact rfl;first|(apply Ok1.assign;exact rfl)|(apply Ok1.build;(iterate 5 exact rfl)))|(apply R.box;(iterate 3 exact rfl);intro))|apply R.nil|(apply T.is;first|apply T.seq|apply T.region|apply T.ret))
  (apply RetOk.t;exact rfl)
  exact ⟨_,by (focus (repeat' first|exact Keep.nil _|exact Ext.one _ _|apply Keep.cons);done),_,bm,rfl,rfl⟩
end Go.Proofs.YtcfdgnajepilbaaGreat
set_option linter.unusedSimpArgs false
set_option linter.unusedVariables false
namespace Go.Proofs.YtcfdgnajepilbaaGreat
open Go.RowKit Go.Shelf Go.Sort
set_option maxRecDepth 100000
instance:Inhabited SE:=⟨⟨0,0,0,none,[],none,[],false⟩⟩
/-- A store as it must be. -/
structure SOk (ms:SMs) (clk:Nat):Prop where
  wf:MWf (ms,clk)
  key:∀ e∈ms,e.1=(e.2.1.o,e.2.1.r)
  hrt:∀ e∈ms,HRt e.2.1.o e.2.1.r e.2.1.ver
  bok:∀ e∈ms,OvOk 1 e.2.1.bov e.2.1.body.length (u8s e.2.1.body)
  vok:∀ e∈ms,OvOk 1 e.2.1.vov e.2.1.val.length (u8s e.2.1.val)
  blen:∀ e∈ms,e.2.1.body.length≤96
  vlen:∀ e∈ms,e.2.1.val.length≤96
  few:ms.length≤64
end Go.Proofs.YtcfdgnajepilbaaGreat
set_option linter.unusedSimpArgs false
set_option linter.unusedVariables false
namespace Go.Proofs.YtcfdgnajepilbaaGreat
open Go.RowKit Go.Shelf Go.Sort
set_option maxRecDepth 100000
/-- Is a role in a mask? -/
def inM (mask r:Int):Bool:=decide (andI .i64 (mask / (pw r.toNat)) 1=1)
end Go.Proofs.YtcfdgnajepilbaaGreat
set_option linter.unusedSimpArgs false
set_option linter.unusedVariables false
namespace Go.Proofs.YtcfdgnajepilbaaGreat
open Go.RowKit Go.Shelf Go.Sort
set_option maxRecDepth 100000
section
variable {κ α β:Type} [DecidableEq κ]
end
theorem mget_mem9 {κ α:Type} [DecidableEq κ] {k:κ} {a:α}:∀ {ms:Ms κ α},mget k ms=some a→∃ b,(k,a,b)∈ms
  | [],h=>by simp [mget] at h
  | x :: r,h=>by
    simp only [mget] at h
    by_cases hx:x.1=k
    · rw [if_pos hx] at h
      cases h
      exact ⟨x.2.2,by rw [← hx];exact List.mem_cons_self⟩
    · rw [if_neg hx] at h
      obtain ⟨b,hb⟩:=mget_mem9 h
      exact ⟨b,List.mem_cons_of_mem _ hb⟩
/-- What of an entry is seen through a mask. -/
def vis (mask:Int) (e:SE):Int × Int × Int × Nat × Bool × List Int × List Int:=(e.o,e.r,e.ver,e.body.length,e.op,if inM mask e.r=true then e.body else [],if inM mask e.r=true then e.val else [])
theorem SOk.ver {ms:SMs} {clk:Nat} (h:SOk ms clk):∀ k a,mget k ms=some a→a.ver≠0:=by
  intro k a hg
  obtain ⟨b,hb⟩:=mget_mem9 hg
  have:=(h.hrt _ hb).2.2.2.2.1
  simp only at this
  omega
end Go.Proofs.YtcfdgnajepilbaaGreat
set_option linter.unusedSimpArgs false
set_option linter.unusedVariables false
namespace Go.Proofs.YtcfdgnajepilbaaGreat
open Go.RowKit Go.Shelf
section
variable {X:Cx} {σ:Env} {L:Lst} {ty t:TypeId} {pos:String} {af:Array Edge} {x y:Operand} {r:TRow}
theorem Ok1.eqlB2 {d:Option Nat} {g:Option (Nat × Bool)} {ty2:TypeId} {b:Bool} (ht:X.tb.row t=some r) (hk:r.k = .bool) (hx:ev σ x=some (.bool b)) (hy:ev σ y=some (.bool b)):Ok1 X ⟨d,.binOp .eql t x y ty2,ty,pos,af,g⟩ σ L (.bool true):=.mk fun a w ha hw=>by
  have hu:X.P.underlying t=some .bool:=by have:=(X.tb.get ht).is;rw [hk] at this;exact this
  have hE:∀ n,(Op.equalIn (n+1) t (.bool b) (.bool b)).run X.P w = .ok true w:=by
    intro n
    rw [Op.equalIn]
    simp [run_underlying hu]
  obtain ⟨n,hm⟩:∃ n,Op.maxDepth=n+1:=⟨_,rfl⟩
  simp [execOp,ha.ev hx,ha.ev hy,eqGuard,binOp,Op.equal,hm,hE]
end
section
variable {X:Cx} {σ:Env} {L:Lst} {ty t:TypeId} {pos:String} {af:Array Edge} {x y:Operand} {r:TRow} {xs ys:List Value} {ks:List TK}
end
/-- The walk stops here. -/
structure Stop (p:Prop):Prop where
  of:p
section
variable {X:Cx} {Q:Post} {σ:Env} {L:Lst}
theorem T.stop (i:Nat) {ops:Array Oper} {g:Bool} {c d:Code} (h:Stop (T X (.seq (.seq (.region i ops g) c) d) Q σ L)):T X (.seq (.seq (.region i ops g) c) d) Q σ L:=h.of
theorem T.stop1 (i:Nat) {ops:Array Oper} {g:Bool} {d:Code} (h:Stop (T X (.seq (.region i ops g) d) Q σ L)):T X (.seq (.region i ops g) d) Q σ L:=h.of
end
section
variable {X:Cx} {σ:Env} {L Lr:Lst} {d:Option Nat} {dd:Nat} {ty:TypeId} {pos:String} {af:Array Edge} {g:Option (Nat × Bool)} {x y:Operand} {t t2 e:TypeId} {r r2 re:TRow}
variable {all:Array Oper} {rest:List Oper} {K:Env→Lst→Prop} {p:Option Addr} {n cap i:Nat}
end
section
variable {X:Cx} {σ:Env} {L Lr:Lst} {d:Option Nat} {ty:TypeId} {pos:String} {af:Array Edge} {g:Option (Nat × Bool)} {x:Operand} {t e:TypeId} {r re:TRow} {p:Option Addr} {n m cap b o i:Nat}
end
set_option maxRecDepth 100000
def clI (c:Cl):List Int:=((([]++numI 1 c.id)++numI 0 c.roles)++numI 2 c.exp)++numI 1 c.ser
theorem clI_len (c:Cl):(clI c).length=9:=rfl
theorem byt_nil:Byt []:=fun x hx=>by cases hx
theorem clI_byt (c:Cl):Byt (clI c):=Byt.app (Byt.app (Byt.app (Byt.app byt_nil (num_byt _ _)) (num_byt _ _)) (num_byt _ _)) (num_byt _ _)
theorem clBytes_ok (c:Cl) (hr:c.right) (w:World):CallM Tryz.prog 113 [kvC c] [] w fun v L=>∃ ov,OvOk 1 ov 9 (u8s (clI c))∧v = .tuple #[slV ov 9,.int .i64 0]∧L=blkL 5 ov (u8s (clI c)):=by
  have hck:=check_ok c.id c.roles c.exp c.ser
  rw [if_pos hr] at hck
  have hf1:Fits 1 c.id:=by unfold Cl.right at hr;unfold Fits;omega
  have hf2:Fits 0 c.roles:=by unfold Cl.right at hr;unfold Fits;omega
  have hf3:Fits 2 c.exp:=by unfold Cl.right at hr;unfold Fits;omega
  have hf4:Fits 1 c.ser:=by unfold Cl.right at hr;unfold Fits;omega
  refine enterK (tb:=tb) Tryz.func113 rfl Tryz.ntmps113 rfl ?_
  simp only [kvC]
  repeat' (first|(apply R.is1;first|(apply R.isBin;(apply R.pure;exact rfl;(apply Ok1.neq_f;exact rfl;exact rfl;omega)))|(apply R.isCall;apply R.callP rfl rfl rfl hck)|(apply R.pure;exact rfl;first|(apply Ok1.move;exact rfl)|(apply Ok1.load;exact rfl;(apply Ld.ownk;exact rfl;exact rfl;exact At.head;exact rfl))|(apply Ok1.assign;exact rfl))|(apply R.box;(iterate 3 exact rfl);intro)|(apply R.alloc;(iterate 3 exact rfl);intro))|apply R.nil|(apply T.is;first|apply T.seq|apply T.region|apply T.skip|(apply T.cond_f;exact rfl)))
  rename_i bc bw
  obtain ⟨B0,hB0⟩:∃ B:List Int,B=[]:=⟨_,rfl⟩
  obtain ⟨B1,hB1⟩:∃ B,B=B0++numI 1 c.id:=⟨_,rfl⟩
  obtain ⟨B2,hB2⟩:∃ B,B=B1++numI 0 c.roles:=⟨_,rfl⟩
  obtain ⟨B3,hB3⟩:∃ B,B=B2++numI 2 c.exp:=⟨_,rfl⟩
  obtain ⟨B4,hB4⟩:∃ B,B=B3++numI 1 c.ser:=⟨_,rfl⟩
  have hl0:B0.length≤1000:=by rw [hB0];decide
  have hl1:B1.length≤1000:=by rw [hB1,hB0];exact Nat.le_of_ble_eq_true rfl
  have hl2:B2.length≤1000:=by rw [hB2,hB1,hB0];exact Nat.le_of_ble_eq_true rfl
  have hl3:B3.length≤1000:=by rw [hB3,hB2,hB1,hB0];exact Nat.le_of_ble_eq_true rfl
  have hB:B4=clI c:=by rw [hB4,hB3,hB2,hB1,hB0];rfl
  have hw0:OvOk 1 none B0.length (u8s B0):=by rw [hB0];exact OvOk.start 1
  apply T.drawC (id:=5) [1] (by decide)
  (apply A.tk 0;exact rfl;kernel_rfl;(apply Ok1.fieldAddr;(iterate 5 exact rfl)))<;>(apply A.tk 1;exact rfl;kernel_rfl;(apply Ok1.load;exact rfl;(apply Ld.own1;exact rfl;exact rfl;exact At.head;exact rfl)))<;>(apply A.tk 4;exact rfl;kernel_rfl;(apply Ok1.fieldAddr;(iterate 5 exact rfl)))<;>(apply A.tk 5;exact rfl;kernel_rfl;(apply Ok1.load;exact rfl;(apply Ld.own1;exact rfl;exact rfl;exact At.head;exact rfl)))<;>(apply A.tk 8;exact rfl;kernel_rfl;(apply Ok1.fieldAddr;(iterate 5 exact rfl)))<;>(apply A.tk 9;exact rfl;kernel_rfl;(apply Ok1.load;exact rfl;(apply Ld.own1;exact rfl;exact rfl;exact At.head;exact rfl)))<;>(apply A.tk 12;exact rfl;kernel_rfl;(apply Ok1.fieldAddr;(iterate 5 exact rfl)))<;>(apply A.tk 13;exact rfl;kernel_rfl;(apply Ok1.load;exact rfl;(apply Ld.own1;exact rfl;exact rfl;exact At.head;exact rfl)))
  refine A.merge (fun σ L=>∃ (ov:Ov),OvOk 1 ov B4.length (u8s B4)∧Sub [(5,.pointer (some ⟨bw,0,none⟩)),(12,.int .i64 c.id),(16,.int .i64 c.roles),(20,.int .i64 c.exp),(24,.int .i64 c.ser),(26,.pointer (some ⟨bw,0,none⟩))] σ∧Keep L (WL bw ov B4++[(bc,.cells ⟨[.int .i64 c.id,.int .i64 c.roles,.int .i64 c.exp,.int .i64 c.ser]⟩ 31 (0,0))])) 5 #[true,true,true,true,true,true,true,true,true,true,true,true,true,true,true,true,false,false,false,false,false] ?_ ?_
  rotate_left 1
  focus
    intro H4_
    refine A.merge (fun σ L=>∃ (ov:Ov) (b3:Nat),OvOk 1 ov B3.length (u8s B3)∧Sub [(5,.pointer (some ⟨bw,0,none⟩)),(12,.int .i64 c.id),(16,.int .i64 c.roles),(20,.int .i64 c.exp),(24,.int .i64 c.ser),(22,.pointer (some ⟨bw,0,none⟩)),(25,.slice (some ⟨b3,0,none⟩) 1 1)] σ∧Keep L (WL bw ov B3++[(bc,.cells ⟨[.int .i64 c.id,.int .i64 c.roles,.int .i64 c.exp,.int .i64 c.ser]⟩ 31 (0,0)),(b3,.cells ⟨[.int .i64 c.ser]⟩ 3 (0,0))])) 6 #[true,true,true,true,true,true,true,true,true,true,true,true,true,true,true,false,false,false,false,false,false] ?_ ?_
    · rintro σ L ⟨ov,b3,hov,hs,hk⟩
      refine A.weak ?_ hs hk
      refine A.multi [15] (by kernel_rfl) (by decide) ⟨⟨_,rfl,?_⟩,trivial⟩
      · (apply R.callE (Li:=WL bw ov B3);(iterate 3 exact rfl);(focus ((repeat' (exact Ext.here _ _));done));intro w1 hw1;have h9:=number1_ok bw ov B3 hov 1 c.ser hf4 hl3 b3 _ _ w1 (hw1.get _ _ (At.mem (by (focus (repeat' first|exact At.head|apply At.tail|apply At.right);done)))) (RdSl.off hw1 (by (focus ((repeat' (exact Ext.here _ _));done))) (At.mem (by (focus (repeat' first|exact At.head|apply At.tail);done))));rw [← hB4] at h9;exact h9;rintro v Lo ⟨ov1,rfl,hov1,rfl⟩);apply R.nil;refine ⟨(by (focus (repeat' first|exact trivial|exact At.head|apply At.tail|apply At.right|refine ⟨?_,?_⟩))),A.cast (by kernel_rfl) (H4_ _ _ ⟨ov1,hov1,⟨rfl,rfl,rfl,rfl,rfl,rfl,trivial⟩,(by (focus (repeat' first|exact Keep.nil _|exact Ext.one _ _|exact Ext.here _ _|apply Keep.cons|apply Keep.app);done))⟩)⟩
    intro H3_3
    refine A.merge (fun σ L=>∃ (ov:Ov),OvOk 1 ov B3.length (u8s B3)∧Sub [(5,.pointer (some ⟨bw,0,none⟩)),(12,.int .i64 c.id),(16,.int .i64 c.roles),(20,.int .i64 c.exp),(24,.int .i64 c.ser),(22,.pointer (some ⟨bw,0,none⟩))] σ∧Keep L (WL bw ov B3++[(bc,.cells ⟨[.int .i64 c.id,.int .i64 c.roles,.int .i64 c.exp,.int .i64 c.ser]⟩ 31 (0,0))])) 7 #[true,true,true,true,true,true,true,true,true,true,true,true,true,true,false,false,false,false,false,false,false] ?_ ?_
    · rintro σ L ⟨ov,hov,hs,hk⟩
      refine A.weak ?_ hs hk
      refine A.multi [14] (by kernel_rfl) (by decide) ⟨⟨_,rfl,?_⟩,trivial⟩
      · (((apply R.buildSlice;(iterate 12 exact rfl);intro)));rename_i b3;apply R.nil;refine ⟨(by (focus (repeat' first|exact trivial|exact At.head|apply At.tail|apply At.right|refine ⟨?_,?_⟩))),A.cast (by kernel_rfl) (H3_3 _ _ ⟨ov,b3,hov,⟨rfl,rfl,rfl,rfl,rfl,rfl,rfl,trivial⟩,(by (focus (repeat' first|exact Keep.nil _|exact Ext.one _ _|exact Ext.here _ _|apply Keep.cons|apply Keep.app|apply Ext.cons);done))⟩)⟩
    intro H3_
    refine A.merge (fun σ L=>∃ (ov:Ov) (b2:Nat) (b3:Nat),OvOk 1 ov B2.length (u8s B2)∧Sub [(5,.pointer (some ⟨bw,0,none⟩)),(12,.int .i64 c.id),(16,.int .i64 c.roles),(20,.int .i64 c.exp),(24,.int .i64 c.ser),(18,.pointer (some ⟨bw,0,none⟩)),(21,.slice (some ⟨b2,0,none⟩) 1 1),(25,.slice (some ⟨b3,0,none⟩) 1 1)] σ∧Keep L (WL bw ov B2++[(bc,.cells ⟨[.int .i64 c.id,.int .i64 c.roles,.int .i64 c.exp,.int .i64 c.ser]⟩ 31 (0,0)),(b2,.cells ⟨[.int .i64 c.exp]⟩ 3 (0,0)),(b3,.cells ⟨[.int .i64 c.ser]⟩ 3 (0,0))])) 7 #[true,true,true,true,true,true,true,true,true,true,true,false,true,true,true,false,false,false,false,false,false] ?_ ?_
    · rintro σ L ⟨ov,b2,b3,hov,hs,hk⟩
      refine A.weak ?_ hs hk
      refine A.multi [11] (by kernel_rfl) (by decide) ⟨⟨_,rfl,?_⟩,trivial⟩
      · (apply R.callE (Li:=WL bw ov B2);(iterate 3 exact rfl);(focus ((repeat' (exact Ext.here _ _));done));intro w1 hw1;have h9:=number1_ok bw ov B2 hov 2 c.exp hf3 hl2 b2 _ _ w1 (hw1.get _ _ (At.mem (by (focus (repeat' first|exact At.head|apply At.tail|apply At.right);done)))) (RdSl.off hw1 (by (focus ((repeat' (exact Ext.here _ _));done))) (At.mem (by (focus (repeat' first|exact At.head|apply At.tail);done))));rw [← hB3] at h9;exact h9;rintro v Lo ⟨ov1,rfl,hov1,rfl⟩);apply R.nil;refine ⟨(by (focus (repeat' first|exact trivial|exact At.head|apply At.tail|apply At.right|refine ⟨?_,?_⟩))),A.cast (by kernel_rfl) (H3_3 _ _ ⟨ov1,b3,hov1,⟨rfl,rfl,rfl,rfl,rfl,rfl,rfl,trivial⟩,(by (focus (repeat' first|exact Keep.nil _|exact Ext.one _ _|exact Ext.here _ _|apply Keep.cons|apply Keep.app|apply Ext.cons);done))⟩)⟩
    intro H2_23
    refine A.merge (fun σ L=>∃ (ov:Ov) (b2:Nat),OvOk 1 ov B2.length (u8s B2)∧Sub [(5,.pointer (some ⟨bw,0,none⟩)),(12,.int .i64 c.id),(16,.int .i64 c.roles),(20,.int .i64 c.exp),(24,.int .i64 c.ser),(18,.pointer (some ⟨bw,0,none⟩)),(21,.slice (some ⟨b2,0,none⟩) 1 1)] σ∧Keep L (WL bw ov B2++[(bc,.cells ⟨[.int .i64 c.id,.int .i64 c.roles,.int .i64 c.exp,.int .i64 c.ser]⟩ 31 (0,0)),(b2,.cells ⟨[.int .i64 c.exp]⟩ 3 (0,0))])) 8 #[true,true,true,true,true,true,true,true,true,true,true,false,true,true,false,false,false,false,false,false,false] ?_ ?_
    · rintro σ L ⟨ov,b2,hov,hs,hk⟩
      refine A.weak ?_ hs hk
      refine A.multi [11,14] (by kernel_rfl) (by decide) ⟨⟨_,rfl,?_⟩,⟨_,rfl,?_⟩,trivial⟩
      · (apply R.callE (Li:=WL bw ov B2);(iterate 3 exact rfl);(focus ((repeat' (exact Ext.here _ _));done));intro w1 hw1;have h9:=number1_ok bw ov B2 hov 2 c.exp hf3 hl2 b2 _ _ w1 (hw1.get _ _ (At.mem (by (focus (repeat' first|exact At.head|apply At.tail|apply At.right);done)))) (RdSl.off hw1 (by (focus ((repeat' (exact Ext.here _ _));done))) (At.mem (by (focus (repeat' first|exact At.head|apply At.tail);done))));rw [← hB3] at h9;exact h9;rintro v Lo ⟨ov1,rfl,hov1,rfl⟩);apply R.nil;refine ⟨(by (focus (repeat' first|exact trivial|exact At.head|apply At.tail|apply At.right|refine ⟨?_,?_⟩))),A.cast (by kernel_rfl) (H3_ _ _ ⟨ov1,hov1,⟨rfl,rfl,rfl,rfl,rfl,rfl,trivial⟩,(by (focus (repeat' first|exact Keep.nil _|exact Ext.one _ _|exact Ext.here _ _|apply Keep.cons|apply Keep.app);done))⟩)⟩
      · (((apply R.buildSlice;(iterate 12 exact rfl);intro)));rename_i b3;apply R.nil;refine ⟨(by (focus (repeat' first|exact trivial|exact At.head|apply At.tail|apply At.right|refine ⟨?_,?_⟩))),A.cast (by kernel_rfl) (H2_23 _ _ ⟨ov,b2,b3,hov,⟨rfl,rfl,rfl,rfl,rfl,rfl,rfl,rfl,trivial⟩,(by (focus (repeat' first|exact Keep.nil _|exact Ext.one _ _|exact Ext.here _ _|apply Keep.cons|apply Keep.app|apply Ext.cons);done))⟩)⟩
    intro H2_2
    refine A.merge (fun σ L=>∃ (ov:Ov) (b3:Nat),OvOk 1 ov B2.length (u8s B2)∧Sub [(5,.pointer (some ⟨bw,0,none⟩)),(12,.int .i64 c.id),(16,.int .i64 c.roles),(20,.int .i64 c.exp),(24,.int .i64 c.ser),(18,.pointer (some ⟨bw,0,none⟩)),(25,.slice (some ⟨b3,0,none⟩) 1 1)] σ∧Keep L (WL bw ov B2++[(bc,.cells ⟨[.int .i64 c.id,.int .i64 c.roles,.int .i64 c.exp,.int .i64 c.ser]⟩ 31 (0,0)),(b3,.cells ⟨[.int .i64 c.ser]⟩ 3 (0,0))])) 8 #[true,true,true,true,true,true,true,true,true,true,false,false,true,true,true,false,false,false,false,false,false] ?_ ?_
    · rintro σ L ⟨ov,b3,hov,hs,hk⟩
      refine A.weak ?_ hs hk
      refine A.multi [10] (by kernel_rfl) (by decide) ⟨⟨_,rfl,?_⟩,trivial⟩
      · (((apply R.buildSlice;(iterate 12 exact rfl);intro)));rename_i b2;apply R.nil;refine ⟨(by (focus (repeat' first|exact trivial|exact At.head|apply At.tail|apply At.right|refine ⟨?_,?_⟩))),A.cast (by kernel_rfl) (H2_23 _ _ ⟨ov,b2,b3,hov,⟨rfl,rfl,rfl,rfl,rfl,rfl,rfl,rfl,trivial⟩,(by (focus (repeat' first|exact Keep.nil _|exact Ext.one _ _|exact Ext.here _ _|apply Keep.cons|apply Keep.app|apply Ext.cons);done))⟩)⟩
    intro H2_3
    refine A.merge (fun σ L=>∃ (ov:Ov),OvOk 1 ov B2.length (u8s B2)∧Sub [(5,.pointer (some ⟨bw,0,none⟩)),(12,.int .i64 c.id),(16,.int .i64 c.roles),(20,.int .i64 c.exp),(24,.int .i64 c.ser),(18,.pointer (some ⟨bw,0,none⟩))] σ∧Keep L (WL bw ov B2++[(bc,.cells ⟨[.int .i64 c.id,.int .i64 c.roles,.int .i64 c.exp,.int .i64 c.ser]⟩ 31 (0,0))])) 9 #[true,true,true,true,true,true,true,true,true,true,false,false,true,true,false,false,false,false,false,false,false] ?_ ?_
    · rintro σ L ⟨ov,hov,hs,hk⟩
      refine A.weak ?_ hs hk
      refine A.multi [10,14] (by kernel_rfl) (by decide) ⟨⟨_,rfl,?_⟩,⟨_,rfl,?_⟩,trivial⟩
      · (((apply R.buildSlice;(iterate 12 exact rfl);intro)));rename_i b2;apply R.nil;refine ⟨(by (focus (repeat' first|exact trivial|exact At.head|apply At.tail|apply At.right|refine ⟨?_,?_⟩))),A.cast (by kernel_rfl) (H2_2 _ _ ⟨ov,b2,hov,⟨rfl,rfl,rfl,rfl,rfl,rfl,rfl,trivial⟩,(by (focus (repeat' first|exact Keep.nil _|exact Ext.one _ _|exact Ext.here _ _|apply Keep.cons|apply Keep.app|apply Ext.cons);done))⟩)⟩
      · (((apply R.buildSlice;(iterate 12 exact rfl);intro)));rename_i b3;apply R.nil;refine ⟨(by (focus (repeat' first|exact trivial|exact At.head|apply At.tail|apply At.right|refine ⟨?_,?_⟩))),A.cast (by kernel_rfl) (H2_3 _ _ ⟨ov,b3,hov,⟨rfl,rfl,rfl,rfl,rfl,rfl,rfl,trivial⟩,(by (focus (repeat' first|exact Keep.nil _|exact Ext.one _ _|exact Ext.here _ _|apply Keep.cons|apply Keep.app|apply Ext.cons);done))⟩)⟩
    intro H2_
    refine A.merge (fun σ L=>∃ (ov:Ov) (b1:Nat) (b2:Nat) (b3:Nat),OvOk 1 ov B1.length (u8s B1)∧Sub [(5,.pointer (some ⟨bw,0,none⟩)),(12,.int .i64 c.id),(16,.int .i64 c.roles),(20,.int .i64 c.exp),(24,.int .i64 c.ser),(14,.pointer (some ⟨bw,0,none⟩)),(17,.slice (some ⟨b1,0,none⟩) 1 1),(21,.slice (some ⟨b2,0,none⟩) 1 1),(25,.slice (some ⟨b3,0,none⟩) 1 1)] σ∧Keep L (WL bw ov B1++[(bc,.cells ⟨[.int .i64 c.id,.int .i64 c.roles,.int .i64 c.exp,.int .i64 c.ser]⟩ 31 (0,0)),(b1,.cells ⟨[.int .i64 c.roles]⟩ 3 (0,0)),(b2,.cells ⟨[.int .i64 c.exp]⟩ 3 (0,0)),(b3,.cells ⟨[.int .i64 c.ser]⟩ 3 (0,0))])) 8 #[true,true,true,true,true,true,true,false,true,true,true,false,true,true,true,false,false,false,false,false,false] ?_ ?_
    · rintro σ L ⟨ov,b1,b2,b3,hov,hs,hk⟩
      refine A.weak ?_ hs hk
      refine A.multi [7] (by kernel_rfl) (by decide) ⟨⟨_,rfl,?_⟩,trivial⟩
      · (apply R.callE (Li:=WL bw ov B1);(iterate 3 exact rfl);(focus ((repeat' (exact Ext.here _ _));done));intro w1 hw1;have h9:=number1_ok bw ov B1 hov 0 c.roles hf2 hl1 b1 _ _ w1 (hw1.get _ _ (At.mem (by (focus (repeat' first|exact At.head|apply At.tail|apply At.right);done)))) (RdSl.off hw1 (by (focus ((repeat' (exact Ext.here _ _));done))) (At.mem (by (focus (repeat' first|exact At.head|apply At.tail);done))));rw [← hB2] at h9;exact h9;rintro v Lo ⟨ov1,rfl,hov1,rfl⟩);apply R.nil;refine ⟨(by (focus (repeat' first|exact trivial|exact At.head|apply At.tail|apply At.right|refine ⟨?_,?_⟩))),A.cast (by kernel_rfl) (H2_23 _ _ ⟨ov1,b2,b3,hov1,⟨rfl,rfl,rfl,rfl,rfl,rfl,rfl,rfl,trivial⟩,(by (focus (repeat' first|exact Keep.nil _|exact Ext.one _ _|exact Ext.here _ _|apply Keep.cons|apply Keep.app|apply Ext.cons);done))⟩)⟩
    intro H1_123
    refine A.merge (fun σ L=>∃ (ov:Ov) (b1:Nat) (b2:Nat),OvOk 1 ov B1.length (u8s B1)∧Sub [(5,.pointer (some ⟨bw,0,none⟩)),(12,.int .i64 c.id),(16,.int .i64 c.roles),(20,.int .i64 c.exp),(24,.int .i64 c.ser),(14,.pointer (some ⟨bw,0,none⟩)),(17,.slice (some ⟨b1,0,none⟩) 1 1),(21,.slice (some ⟨b2,0,none⟩) 1 1)] σ∧Keep L (WL bw ov B1++[(bc,.cells ⟨[.int .i64 c.id,.int .i64 c.roles,.int .i64 c.exp,.int .i64 c.ser]⟩ 31 (0,0)),(b1,.cells ⟨[.int .i64 c.roles]⟩ 3 (0,0)),(b2,.cells ⟨[.int .i64 c.exp]⟩ 3 (0,0))])) 9 #[true,true,true,true,true,true,true,false,true,true,true,false,true,true,false,false,false,false,false,false,false] ?_ ?_
    · rintro σ L ⟨ov,b1,b2,hov,hs,hk⟩
      refine A.weak ?_ hs hk
      refine A.multi [7,14] (by kernel_rfl) (by decide) ⟨⟨_,rfl,?_⟩,⟨_,rfl,?_⟩,trivial⟩
      · (apply R.callE (Li:=WL bw ov B1);(iterate 3 exact rfl);(focus ((repeat' (exact Ext.here _ _));done));intro w1 hw1;have h9:=number1_ok bw ov B1 hov 0 c.roles hf2 hl1 b1 _ _ w1 (hw1.get _ _ (At.mem (by (focus (repeat' first|exact At.head|apply At.tail|apply At.right);done)))) (RdSl.off hw1 (by (focus ((repeat' (exact Ext.here _ _));done))) (At.mem (by (focus (repeat' first|exact At.head|apply At.tail);done))));rw [← hB2] at h9;exact h9;rintro v Lo ⟨ov1,rfl,hov1,rfl⟩);apply R.nil;refine ⟨(by (focus (repeat' first|exact trivial|exact At.head|apply At.tail|apply At.right|refine ⟨?_,?_⟩))),A.cast (by kernel_rfl) (H2_2 _ _ ⟨ov1,b2,hov1,⟨rfl,rfl,rfl,rfl,rfl,rfl,rfl,trivial⟩,(by (focus (repeat' first|exact Keep.nil _|exact Ext.one _ _|exact Ext.here _ _|apply Keep.cons|apply Keep.app|apply Ext.cons);done))⟩)⟩
      · (((apply R.buildSlice;(iterate 12 exact rfl);intro)));rename_i b3;apply R.nil;refine ⟨(by (focus (repeat' first|exact trivial|exact At.head|apply At.tail|apply At.right|refine ⟨?_,?_⟩))),A.cast (by kernel_rfl) (H1_123 _ _ ⟨ov,b1,b2,b3,hov,⟨rfl,rfl,rfl,rfl,rfl,rfl,rfl,rfl,rfl,trivial⟩,(by (focus (repeat' first|exact Keep.nil _|exact Ext.one _ _|exact Ext.here _ _|apply Keep.cons|apply Keep.app|apply Ext.cons);done))⟩)⟩
    intro H1_12
    refine A.merge (fun σ L=>∃ (ov:Ov) (b1:Nat) (b3:Nat),OvOk 1 ov B1.length (u8s B1)∧Sub [(5,.pointer (some ⟨bw,0,none⟩)),(12,.int .i64 c.id),(16,.int .i64 c.roles),(20,.int .i64 c.exp),(24,.int .i64 c.ser),(14,.pointer (some ⟨bw,0,none⟩)),(17,.slice (some ⟨b1,0,none⟩) 1 1),(25,.slice (some ⟨b3,0,none⟩) 1 1)] σ∧Keep L (WL bw ov B1++[(bc,.cells ⟨[.int .i64 c.id,.int .i64 c.roles,.int .i64 c.exp,.int .i64 c.ser]⟩ 31 (0,0)),(b1,.cells ⟨[.int .i64 c.roles]⟩ 3 (0,0)),(b3,.cells ⟨[.int .i64 c.ser]⟩ 3 (0,0))])) 9 #[true,true,true,true,true,true,true,false,true,true,false,false,true,true,true,false,false,false,false,false,false] ?_ ?_
    · rintro σ L ⟨ov,b1,b3,hov,hs,hk⟩
      refine A.weak ?_ hs hk
      refine A.multi [7,10] (by kernel_rfl) (by decide) ⟨⟨_,rfl,?_⟩,⟨_,rfl,?_⟩,trivial⟩
      · (apply R.callE (Li:=WL bw ov B1);(iterate 3 exact rfl);(focus ((repeat' (exact Ext.here _ _));done));intro w1 hw1;have h9:=number1_ok bw ov B1 hov 0 c.roles hf2 hl1 b1 _ _ w1 (hw1.get _ _ (At.mem (by (focus (repeat' first|exact At.head|apply At.tail|apply At.right);done)))) (RdSl.off hw1 (by (focus ((repeat' (exact Ext.here _ _));done))) (At.mem (by (focus (repeat' first|exact At.head|apply At.tail);done))));rw [← hB2] at h9;exact h9;rintro v Lo ⟨ov1,rfl,hov1,rfl⟩);apply R.nil;refine ⟨(by (focus (repeat' first|exact trivial|exact At.head|apply At.tail|apply At.right|refine ⟨?_,?_⟩))),A.cast (by kernel_rfl) (H2_3 _ _ ⟨ov1,b3,hov1,⟨rfl,rfl,rfl,rfl,rfl,rfl,rfl,trivial⟩,(by (focus (repeat' first|exact Keep.nil _|exact Ext.one _ _|exact Ext.here _ _|apply Keep.cons|apply Keep.app|apply Ext.cons);done))⟩)⟩
      · (((apply R.buildSlice;(iterate 12 exact rfl);intro)));rename_i b2;apply R.nil;refine ⟨(by (focus (repeat' first|exact trivial|exact At.head|apply At.tail|apply At.right|refine ⟨?_,?_⟩))),A.cast (by kernel_rfl) (H1_123 _ _ ⟨ov,b1,b2,b3,hov,⟨rfl,rfl,rfl,rfl,rfl,rfl,rfl,rfl,rfl,trivial⟩,(by (focus (repeat' first|exact Keep.nil _|exact Ext.one _ _|exact Ext.here _ _|apply Keep.cons|apply Keep.app|apply Ext.cons);done))⟩)⟩
    intro H1_13
    refine A.merge (fun σ L=>∃ (ov:Ov) (b2:Nat) (b3:Nat),OvOk 1 ov B1.length (u8s B1)∧Sub [(5,.pointer (some ⟨bw,0,none⟩)),(12,.int .i64 c.id),(16,.int .i64 c.roles),(20,.int .i64 c.exp),(24,.int .i64 c.ser),(14,.pointer (some ⟨bw,0,none⟩)),(21,.slice (some ⟨b2,0,none⟩) 1 1),(25,.slice (some ⟨b3,0,none⟩) 1 1)] σ∧Keep L (WL bw ov B1++[(bc,.cells ⟨[.int .i64 c.id,.int .i64 c.roles,.int .i64 c.exp,.int .i64 c.ser]⟩ 31 (0,0)),(b2,.cells ⟨[.int .i64 c.exp]⟩ 3 (0,0)),(b3,.cells ⟨[.int .i64 c.ser]⟩ 3 (0,0))])) 9 #[true,true,true,true,true,true,false,false,true,true,true,false,true,true,true,false,false,false,false,false,false] ?_ ?_
    · rintro σ L ⟨ov,b2,b3,hov,hs,hk⟩
      refine A.weak ?_ hs hk
      refine A.multi [6] (by kernel_rfl) (by decide) ⟨⟨_,rfl,?_⟩,trivial⟩
      · (((apply R.buildSlice;(iterate 12 exact rfl);intro)));rename_i b1;apply R.nil;refine ⟨(by (focus (repeat' first|exact trivial|exact At.head|apply At.tail|apply At.right|refine ⟨?_,?_⟩))),A.cast (by kernel_rfl) (H1_123 _ _ ⟨ov,b1,b2,b3,hov,⟨rfl,rfl,rfl,rfl,rfl,rfl,rfl,rfl,rfl,trivial⟩,(by (focus (repeat' first|exact Keep.nil _|exact Ext.one _ _|exact Ext.here _ _|apply Keep.cons|apply Keep.app|apply Ext.cons);done))⟩)⟩
    intro H1_23
    refine A.merge (fun σ L=>∃ (ov:Ov) (b1:Nat),OvOk 1 ov B1.length (u8s B1)∧Sub [(5,.pointer (some ⟨bw,0,none⟩)),(12,.int .i64 c.id),(16,.int .i64 c.roles),(20,.int .i64 c.exp),(24,.int .i64 c.ser),(14,.pointer (some ⟨bw,0,none⟩)),(17,.slice (some ⟨b1,0,none⟩) 1 1)] σ∧Keep L (WL bw ov B1++[(bc,.cells ⟨[.int .i64 c.id,.int .i64 c.roles,.int .i64 c.exp,.int .i64 c.ser]⟩ 31 (0,0)),(b1,.cells ⟨[.int .i64 c.roles]⟩ 3 (0,0))])) 10 #[true,true,true,true,true,true,true,false,true,true,false,false,true,true,false,false,false,false,false,false,false] ?_ ?_
    · rintro σ L ⟨ov,b1,hov,hs,hk⟩
      refine A.weak ?_ hs hk
      refine A.multi [7,10,14] (by kernel_rfl) (by decide) ⟨⟨_,rfl,?_⟩,⟨_,rfl,?_⟩,⟨_,rfl,?_⟩,trivial⟩
      · (apply R.callE (Li:=WL bw ov B1);(iterate 3 exact rfl);(focus ((repeat' (exact Ext.here _ _));done));intro w1 hw1;have h9:=number1_ok bw ov B1 hov 0 c.roles hf2 hl1 b1 _ _ w1 (hw1.get _ _ (At.mem (by (focus (repeat' first|exact At.head|apply At.tail|apply At.right);done)))) (RdSl.off hw1 (by (focus ((repeat' (exact Ext.here _ _));done))) (At.mem (by (focus (repeat' first|exact At.head|apply At.tail);done))));rw [← hB2] at h9;exact h9;rintro v Lo ⟨ov1,rfl,hov1,rfl⟩);apply R.nil;refine ⟨(by (focus (repeat' first|exact trivial|exact At.head|apply At.tail|apply At.right|refine ⟨?_,?_⟩))),A.cast (by kernel_rfl) (H2_ _ _ ⟨ov1,hov1,⟨rfl,rfl,rfl,rfl,rfl,rfl,trivial⟩,(by (focus (repeat' first|exact Keep.nil _|exact Ext.one _ _|exact Ext.here _ _|apply Keep.cons|apply Keep.app);done))⟩)⟩
      · (((apply R.buildSlice;(iterate 12 exact rfl);intro)));rename_i b2;apply R.nil;refine ⟨(by (focus (repeat' first|exact trivial|exact At.head|apply At.tail|apply At.right|refine ⟨?_,?_⟩))),A.cast (by kernel_rfl) (H1_12 _ _ ⟨ov,b1,b2,hov,⟨rfl,rfl,rfl,rfl,rfl,rfl,rfl,rfl,trivial⟩,(by (focus (repeat' first|exact Keep.nil _|exact Ext.one _ _|exact Ext.here _ _|apply Keep.cons|apply Keep.app|apply Ext.cons);done))⟩)⟩
      · (((apply R.buildSlice;(iterate 12 exact rfl);intro)));rename_i b3;apply R.nil;refine ⟨(by (focus (repeat' first|exact trivial|exact At.head|apply At.tail|apply At.right|refine ⟨?_,?_⟩))),A.cast (by kernel_rfl) (H1_13 _ _ ⟨ov,b1,b3,hov,⟨rfl,rfl,rfl,rfl,rfl,rfl,rfl,rfl,trivial⟩,(by (focus (repeat' first|exact Keep.nil _|exact Ext.one _ _|exact Ext.here _ _|apply Keep.cons|apply Keep.app|apply Ext.cons);done))⟩)⟩
    intro H1_1
    refine A.merge (fun σ L=>∃ (ov:Ov) (b2:Nat),OvOk 1 ov B1.length (u8s B1)∧Sub [(5,.pointer (some ⟨bw,0,none⟩)),(12,.int .i64 c.id),(16,.int .i64 c.roles),(20,.int .i64 c.exp),(24,.int .i64 c.ser),(14,.pointer (some ⟨bw,0,none⟩)),(21,.slice (some ⟨b2,0,none⟩) 1 1)] σ∧Keep L (WL bw ov B1++[(bc,.cells ⟨[.int .i64 c.id,.int .i64 c.roles,.int .i64 c.exp,.int .i64 c.ser]⟩ 31 (0,0)),(b2,.cells ⟨[.int .i64 c.exp]⟩ 3 (0,0))])) 10 #[true,true,true,true,true,true,false,false,true,true,true,false,true,true,false,false,false,false,false,false,false] ?_ ?_
    · rintro σ L ⟨ov,b2,hov,hs,hk⟩
      refine A.weak ?_ hs hk
      refine A.multi [6,14] (by kernel_rfl) (by decide) ⟨⟨_,rfl,?_⟩,⟨_,rfl,?_⟩,trivial⟩
      · (((apply R.buildSlice;(iterate 12 exact rfl);intro)));rename_i b1;apply R.nil;refine ⟨(by (focus (repeat' first|exact trivial|exact At.head|apply At.tail|apply At.right|refine ⟨?_,?_⟩))),A.cast (by kernel_rfl) (H1_12 _ _ ⟨ov,b1,b2,hov,⟨rfl,rfl,rfl,rfl,rfl,rfl,rfl,rfl,trivial⟩,(by (focus (repeat' first|exact Keep.nil _|exact Ext.one _ _|exact Ext.here _ _|apply Keep.cons|apply Keep.app|apply Ext.cons);done))⟩)⟩
      · (((apply R.buildSlice;(iterate 12 exact rfl);intro)));rename_i b3;apply R.nil;refine ⟨(by (focus (repeat' first|exact trivial|exact At.head|apply At.tail|apply At.right|refine ⟨?_,?_⟩))),A.cast (by kernel_rfl) (H1_23 _ _ ⟨ov,b2,b3,hov,⟨rfl,rfl,rfl,rfl,rfl,rfl,rfl,rfl,trivial⟩,(by (focus (repeat' first|exact Keep.nil _|exact Ext.one _ _|exact Ext.here _ _|apply Keep.cons|apply Keep.app|apply Ext.cons);done))⟩)⟩
    intro H1_2
    refine A.merge (fun σ L=>∃ (ov:Ov) (b3:Nat),OvOk 1 ov B1.length (u8s B1)∧Sub [(5,.pointer (some ⟨bw,0,none⟩)),(12,.int .i64 c.id),(16,.int .i64 c.roles),(20,.int .i64 c.exp),(24,.int .i64 c.ser),(14,.pointer (some ⟨bw,0,none⟩)),(25,.slice (some ⟨b3,0,none⟩) 1 1)] σ∧Keep L (WL bw ov B1++[(bc,.cells ⟨[.int .i64 c.id,.int .i64 c.roles,.int .i64 c.exp,.int .i64 c.ser]⟩ 31 (0,0)),(b3,.cells ⟨[.int .i64 c.ser]⟩ 3 (0,0))])) 10 #[true,true,true,true,true,true,false,false,true,true,false,false,true,true,true,false,false,false,false,false,false] ?_ ?_
    · rintro σ L ⟨ov,b3,hov,hs,hk⟩
      refine A.weak ?_ hs hk
      refine A.multi [6,10] (by kernel_rfl) (by decide) ⟨⟨_,rfl,?_⟩,⟨_,rfl,?_⟩,trivial⟩
      · (((apply R.buildSlice;(iterate 12 exact rfl);intro)));rename_i b1;apply R.nil;refine ⟨(by (focus (repeat' first|exact trivial|exact At.head|apply At.tail|apply At.right|refine ⟨?_,?_⟩))),A.cast (by kernel_rfl) (H1_13 _ _ ⟨ov,b1,b3,hov,⟨rfl,rfl,rfl,rfl,rfl,rfl,rfl,rfl,trivial⟩,(by (focus (repeat' first|exact Keep.nil _|exact Ext.one _ _|exact Ext.here _ _|apply Keep.cons|apply Keep.app|apply Ext.cons);done))⟩)⟩
      · (((apply R.buildSlice;(iterate 12 exact rfl);intro)));rename_i b2;apply R.nil;refine ⟨(by (focus (repeat' first|exact trivial|exact At.head|apply At.tail|apply At.right|refine ⟨?_,?_⟩))),A.cast (by kernel_rfl) (H1_23 _ _ ⟨ov,b2,b3,hov,⟨rfl,rfl,rfl,rfl,rfl,rfl,rfl,rfl,trivial⟩,(by (focus (repeat' first|exact Keep.nil _|exact Ext.one _ _|exact Ext.here _ _|apply Keep.cons|apply Keep.app|apply Ext.cons);done))⟩)⟩
    intro H1_3
    refine A.merge (fun σ L=>∃ (ov:Ov),OvOk 1 ov B1.length (u8s B1)∧Sub [(5,.pointer (some ⟨bw,0,none⟩)),(12,.int .i64 c.id),(16,.int .i64 c.roles),(20,.int .i64 c.exp),(24,.int .i64 c.ser),(14,.pointer (some ⟨bw,0,none⟩))] σ∧Keep L (WL bw ov B1++[(bc,.cells ⟨[.int .i64 c.id,.int .i64 c.roles,.int .i64 c.exp,.int .i64 c.ser]⟩ 31 (0,0))])) 11 #[true,true,true,true,true,true,false,false,true,true,false,false,true,true,false,false,false,false,false,false,false] ?_ ?_
    · rintro σ L ⟨ov,hov,hs,hk⟩
      refine A.weak ?_ hs hk
      refine A.multi [6,10,14] (by kernel_rfl) (by decide) ⟨⟨_,rfl,?_⟩,⟨_,rfl,?_⟩,⟨_,rfl,?_⟩,trivial⟩
      · (((apply R.buildSlice;(iterate 12 exact rfl);intro)));rename_i b1;apply R.nil;refine ⟨(by (focus (repeat' first|exact trivial|exact At.head|apply At.tail|apply At.right|refine ⟨?_,?_⟩))),A.cast (by kernel_rfl) (H1_1 _ _ ⟨ov,b1,hov,⟨rfl,rfl,rfl,rfl,rfl,rfl,rfl,trivial⟩,(by (focus (repeat' first|exact Keep.nil _|exact Ext.one _ _|exact Ext.here _ _|apply Keep.cons|apply Keep.app|apply Ext.cons);done))⟩)⟩
      · (((apply R.buildSlice;(iterate 12 exact rfl);intro)));rename_i b2;apply R.nil;refine ⟨(by (focus (repeat' first|exact trivial|exact At.head|apply At.tail|apply At.right|refine ⟨?_,?_⟩))),A.cast (by kernel_rfl) (H1_2 _ _ ⟨ov,b2,hov,⟨rfl,rfl,rfl,rfl,rfl,rfl,rfl,trivial⟩,(by (focus (repeat' first|exact Keep.nil _|exact Ext.one _ _|exact Ext.here _ _|apply Keep.cons|apply Keep.app|apply Ext.cons);done))⟩)⟩
      · (((apply R.buildSlice;(iterate 12 exact rfl);intro)));rename_i b3;apply R.nil;refine ⟨(by (focus (repeat' first|exact trivial|exact At.head|apply At.tail|apply At.right|refine ⟨?_,?_⟩))),A.cast (by kernel_rfl) (H1_3 _ _ ⟨ov,b3,hov,⟨rfl,rfl,rfl,rfl,rfl,rfl,rfl,trivial⟩,(by (focus (repeat' first|exact Keep.nil _|exact Ext.one _ _|exact Ext.here _ _|apply Keep.cons|apply Keep.app|apply Ext.cons);done))⟩)⟩
    intro H1_
    refine A.merge (fun σ L=>∃ (ov:Ov) (b0:Nat) (b1:Nat) (b2:Nat) (b3:Nat),OvOk 1 ov B0.length (u8s B0)∧Sub [(5,.pointer (some ⟨bw,0,none⟩)),(12,.int .i64 c.id),(16,.int .i64 c.roles),(20,.int .i64 c.exp),(24,.int .i64 c.ser),(13,.slice (some ⟨b0,0,none⟩) 1 1),(17,.slice (some ⟨b1,0,none⟩) 1 1),(21,.slice (some ⟨b2,0,none⟩) 1 1),(25,.slice (some ⟨b3,0,none⟩) 1 1)] σ∧Keep L (WL bw ov B0++[(bc,.cells ⟨[.int .i64 c.id,.int .i64 c.roles,.int .i64 c.exp,.int .i64 c.ser]⟩ 31 (0,0)),(b0,.cells ⟨[.int .i64 c.id]⟩ 3 (0,0)),(b1,.cells ⟨[.int .i64 c.roles]⟩ 3 (0,0)),(b2,.cells ⟨[.int .i64 c.exp]⟩ 3 (0,0)),(b3,.cells ⟨[.int .i64 c.ser]⟩ 3 (0,0))])) 9 #[true,true,true,false,true,true,true,false,true,true,true,false,true,true,true,false,false,false,false,false,false] ?_ ?_
    · rintro σ L ⟨ov,b0,b1,b2,b3,hov,hs,hk⟩
      refine A.weak ?_ hs hk
      refine A.multi [3] (by kernel_rfl) (by decide) ⟨⟨_,rfl,?_⟩,trivial⟩
      · (apply R.callE (Li:=WL bw ov B0);(iterate 3 exact rfl);(focus ((repeat' (exact Ext.here _ _));done));intro w1 hw1;have h9:=number1_ok bw ov B0 hov 1 c.id hf1 hl0 b0 _ _ w1 (hw1.get _ _ (At.mem (by (focus (repeat' first|exact At.head|apply At.tail|apply At.right);done)))) (RdSl.off hw1 (by (focus ((repeat' (exact Ext.here _ _));done))) (At.mem (by (focus (repeat' first|exact At.head|apply At.tail);done))));rw [← hB1] at h9;exact h9;rintro v Lo ⟨ov1,rfl,hov1,rfl⟩);apply R.nil;refine ⟨(by (focus (repeat' first|exact trivial|exact At.head|apply At.tail|apply At.right|refine ⟨?_,?_⟩))),A.cast (by kernel_rfl) (H1_123 _ _ ⟨ov1,b1,b2,b3,hov1,⟨rfl,rfl,rfl,rfl,rfl,rfl,rfl,rfl,rfl,trivial⟩,(by (focus (repeat' first|exact Keep.nil _|exact Ext.one _ _|exact Ext.here _ _|apply Keep.cons|apply Keep.app|apply Ext.cons);done))⟩)⟩
    intro H0_0123
    refine A.merge (fun σ L=>∃ (ov:Ov) (b0:Nat) (b1:Nat) (b2:Nat),OvOk 1 ov B0.length (u8s B0)∧Sub [(5,.pointer (some ⟨bw,0,none⟩)),(12,.int .i64 c.id),(16,.int .i64 c.roles),(20,.int .i64 c.exp),(24,.int .i64 c.ser),(13,.slice (some ⟨b0,0,none⟩) 1 1),(17,.slice (some ⟨b1,0,none⟩) 1 1),(21,.slice (some ⟨b2,0,none⟩) 1 1)] σ∧Keep L (WL bw ov B0++[(bc,.cells ⟨[.int .i64 c.id,.int .i64 c.roles,.int .i64 c.exp,.int .i64 c.ser]⟩ 31 (0,0)),(b0,.cells ⟨[.int .i64 c.id]⟩ 3 (0,0)),(b1,.cells ⟨[.int .i64 c.roles]⟩ 3 (0,0)),(b2,.cells ⟨[.int .i64 c.exp]⟩ 3 (0,0))])) 10 #[true,true,true,false,true,true,true,false,true,true,true,false,true,true,false,false,false,false,false,false,false] ?_ ?_
    · rintro σ L ⟨ov,b0,b1,b2,hov,hs,hk⟩
      refine A.weak ?_ hs hk
      refine A.multi [3,14] (by kernel_rfl) (by decide) ⟨⟨_,rfl,?_⟩,⟨_,rfl,?_⟩,trivial⟩
      · (apply R.callE (Li:=WL bw ov B0);(iterate 3 exact rfl);(focus ((repeat' (exact Ext.here _ _));done));intro w1 hw1;have h9:=number1_ok bw ov B0 hov 1 c.id hf1 hl0 b0 _ _ w1 (hw1.get _ _ (At.mem (by (focus (repeat' first|exact At.head|apply At.tail|apply At.right);done)))) (RdSl.off hw1 (by (focus ((repeat' (exact Ext.here _ _));done))) (At.mem (by (focus (repeat' first|exact At.head|apply At.tail);done))));rw [← hB1] at h9;exact h9;rintro v Lo ⟨ov1,rfl,hov1,rfl⟩);apply R.nil;refine ⟨(by (focus (repeat' first|exact trivial|exact At.head|apply At.tail|apply At.right|refine ⟨?_,?_⟩))),A.cast (by kernel_rfl) (H1_12 _ _ ⟨ov1,b1,b2,hov1,⟨rfl,rfl,rfl,rfl,rfl,rfl,rfl,rfl,trivial⟩,(by (focus (repeat' first|exact Keep.nil _|exact Ext.one _ _|exact Ext.here _ _|apply Keep.cons|apply Keep.app|apply Ext.cons);done))⟩)⟩
      · (((apply R.buildSlice;(iterate 12 exact rfl);intro)));rename_i b3;apply R.nil;refine ⟨(by (focus (repeat' first|exact trivial|exact At.head|apply At.tail|apply At.right|refine ⟨?_,?_⟩))),A.cast (by kernel_rfl) (H0_0123 _ _ ⟨ov,b0,b1,b2,b3,hov,⟨rfl,rfl,rfl,rfl,rfl,rfl,rfl,rfl,rfl,trivial⟩,(by (focus (repeat' first|exact Keep.nil _|exact Ext.one _ _|exact Ext.here _ _|apply Keep.cons|apply Keep.app|apply Ext.cons);done))⟩)⟩
    intro H0_012
    refine A.merge (fun σ L=>∃ (ov:Ov) (b0:Nat) (b1:Nat) (b3:Nat),OvOk 1 ov B0.length (u8s B0)∧Sub [(5,.pointer (some ⟨bw,0,none⟩)),(12,.int .i64 c.id),(16,.int .i64 c.roles),(20,.int .i64 c.exp),(24,.int .i64 c.ser),(13,.slice (some ⟨b0,0,none⟩) 1 1),(17,.slice (some ⟨b1,0,none⟩) 1 1),(25,.slice (some ⟨b3,0,none⟩) 1 1)] σ∧Keep L (WL bw ov B0++[(bc,.cells ⟨[.int .i64 c.id,.int .i64 c.roles,.int .i64 c.exp,.int .i64 c.ser]⟩ 31 (0,0)),(b0,.cells ⟨[.int .i64 c.id]⟩ 3 (0,0)),(b1,.cells ⟨[.int .i64 c.roles]⟩ 3 (0,0)),(b3,.cells ⟨[.int .i64 c.ser]⟩ 3 (0,0))])) 10 #[true,true,true,false,true,true,true,false,true,true,false,false,true,true,true,false,false,false,false,false,false] ?_ ?_
    · rintro σ L ⟨ov,b0,b1,b3,hov,hs,hk⟩
      refine A.weak ?_ hs hk
      refine A.multi [3,10] (by kernel_rfl) (by decide) ⟨⟨_,rfl,?_⟩,⟨_,rfl,?_⟩,trivial⟩
      · (apply R.callE (Li:=WL bw ov B0);(iterate 3 exact rfl);(focus ((repeat' (exact Ext.here _ _));done));intro w1 hw1;have h9:=number1_ok bw ov B0 hov 1 c.id hf1 hl0 b0 _ _ w1 (hw1.get _ _ (At.mem (by (focus (repeat' first|exact At.head|apply At.tail|apply At.right);done)))) (RdSl.off hw1 (by (focus ((repeat' (exact Ext.here _ _));done))) (At.mem (by (focus (repeat' first|exact At.head|apply At.tail);done))));rw [← hB1] at h9;exact h9;rintro v Lo ⟨ov1,rfl,hov1,rfl⟩);apply R.nil;refine ⟨(by (focus (repeat' first|exact trivial|exact At.head|apply At.tail|apply At.right|refine ⟨?_,?_⟩))),A.cast (by kernel_rfl) (H1_13 _ _ ⟨ov1,b1,b3,hov1,⟨rfl,rfl,rfl,rfl,rfl,rfl,rfl,rfl,trivial⟩,(by (focus (repeat' first|exact Keep.nil _|exact Ext.one _ _|exact Ext.here _ _|apply Keep.cons|apply Keep.app|apply Ext.cons);done))⟩)⟩
      · (((apply R.buildSlice;(iterate 12 exact rfl);intro)));rename_i b2;apply R.nil;refine ⟨(by (focus (repeat' first|exact trivial|exact At.head|apply At.tail|apply At.right|refine ⟨?_,?_⟩))),A.cast (by kernel_rfl) (H0_0123 _ _ ⟨ov,b0,b1,b2,b3,hov,⟨rfl,rfl,rfl,rfl,rfl,rfl,rfl,rfl,rfl,trivial⟩,(by (focus (repeat' first|exact Keep.nil _|exact Ext.one _ _|exact Ext.here _ _|apply Keep.cons|apply Keep.app|apply Ext.cons);done))⟩)⟩
    intro H0_013
    refine A.merge (fun σ L=>∃ (ov:Ov) (b0:Nat) (b2:Nat) (b3:Nat),OvOk 1 ov B0.length (u8s B0)∧Sub [(5,.pointer (some ⟨bw,0,none⟩)),(12,.int .i64 c.id),(16,.int .i64 c.roles),(20,.int .i64 c.exp),(24,.int .i64 c.ser),(13,.slice (some ⟨b0,0,none⟩) 1 1),(21,.slice (some ⟨b2,0,none⟩) 1 1),(25,.slice (some ⟨b3,0,none⟩) 1 1)] σ∧Keep L (WL bw ov B0++[(bc,.cells ⟨[.int .i64 c.id,.int .i64 c.roles,.int .i64 c.exp,.int .i64 c.ser]⟩ 31 (0,0)),(b0,.cells ⟨[.int .i64 c.id]⟩ 3 (0,0)),(b2,.cells ⟨[.int .i64 c.exp]⟩ 3 (0,0)),(b3,.cells ⟨[.int .i64 c.ser]⟩ 3 (0,0))])) 10 #[true,true,true,false,true,true,false,false,true,true,true,false,true,true,true,false,false,false,false,false,false] ?_ ?_
    · rintro σ L ⟨ov,b0,b2,b3,hov,hs,hk⟩
      refine A.weak ?_ hs hk
      refine A.multi [3,6] (by kernel_rfl) (by decide) ⟨⟨_,rfl,?_⟩,⟨_,rfl,?_⟩,trivial⟩
      · (apply R.callE (Li:=WL bw ov B0);(iterate 3 exact rfl);(focus ((repeat' (exact Ext.here _ _));done));intro w1 hw1;have h9:=number1_ok bw ov B0 hov 1 c.id hf1 hl0 b0 _ _ w1 (hw1.get _ _ (At.mem (by (focus (repeat' first|exact At.head|apply At.tail|apply At.right);done)))) (RdSl.off hw1 (by (focus ((repeat' (exact Ext.here _ _));done))) (At.mem (by (focus (repeat' first|exact At.head|apply At.tail);done))));rw [← hB1] at h9;exact h9;rintro v Lo ⟨ov1,rfl,hov1,rfl⟩);apply R.nil;refine ⟨(by (focus (repeat' first|exact trivial|exact At.head|apply At.tail|apply At.right|refine ⟨?_,?_⟩))),A.cast (by kernel_rfl) (H1_23 _ _ ⟨ov1,b2,b3,hov1,⟨rfl,rfl,rfl,rfl,rfl,rfl,rfl,rfl,trivial⟩,(by (focus (repeat' first|exact Keep.nil _|exact Ext.one _ _|exact Ext.here _ _|apply Keep.cons|apply Keep.app|apply Ext.cons);done))⟩)⟩
      · (((apply R.buildSlice;(iterate 12 exact rfl);intro)));rename_i b1;apply R.nil;refine ⟨(by (focus (repeat' first|exact trivial|exact At.head|apply At.tail|apply At.right|refine ⟨?_,?_⟩))),A.cast (by kernel_rfl) (H0_0123 _ _ ⟨ov,b0,b1,b2,b3,hov,⟨rfl,rfl,rfl,rfl,rfl,rfl,rfl,rfl,rfl,trivial⟩,(by (focus (repeat' first|exact Keep.nil _|exact Ext.one _ _|exact Ext.here _ _|apply Keep.cons|apply Keep.app|apply Ext.cons);done))⟩)⟩
    intro H0_023
    refine A.merge (fun σ L=>∃ (ov:Ov) (b1:Nat) (b2:Nat) (b3:Nat),OvOk 1 ov B0.length (u8s B0)∧Sub [(5,.pointer (some ⟨bw,0,none⟩)),(12,.int .i64 c.id),(16,.int .i64 c.roles),(20,.int .i64 c.exp),(24,.int .i64 c.ser),(17,.slice (some ⟨b1,0,none⟩) 1 1),(21,.slice (some ⟨b2,0,none⟩) 1 1),(25,.slice (some ⟨b3,0,none⟩) 1 1)] σ∧Keep L (WL bw ov B0++[(bc,.cells ⟨[.int .i64 c.id,.int .i64 c.roles,.int .i64 c.exp,.int .i64 c.ser]⟩ 31 (0,0)),(b1,.cells ⟨[.int .i64 c.roles]⟩ 3 (0,0)),(b2,.cells ⟨[.int .i64 c.exp]⟩ 3 (0,0)),(b3,.cells ⟨[.int .i64 c.ser]⟩ 3 (0,0))])) 10 #[true,true,false,false,true,true,true,false,true,true,true,false,true,true,true,false,false,false,false,false,false] ?_ ?_
    · rintro σ L ⟨ov,b1,b2,b3,hov,hs,hk⟩
      refine A.weak ?_ hs hk
      refine A.multi [2] (by kernel_rfl) (by decide) ⟨⟨_,rfl,?_⟩,trivial⟩
      · (((apply R.buildSlice;(iterate 12 exact rfl);intro)));rename_i b0;apply R.nil;refine ⟨(by (focus (repeat' first|exact trivial|exact At.head|apply At.tail|apply At.right|refine ⟨?_,?_⟩))),A.cast (by kernel_rfl) (H0_0123 _ _ ⟨ov,b0,b1,b2,b3,hov,⟨rfl,rfl,rfl,rfl,rfl,rfl,rfl,rfl,rfl,trivial⟩,(by (focus (repeat' first|exact Keep.nil _|exact Ext.one _ _|exact Ext.here _ _|apply Keep.cons|apply Keep.app|apply Ext.cons);done))⟩)⟩
    intro H0_123
    refine A.merge (fun σ L=>∃ (ov:Ov) (b0:Nat) (b1:Nat),OvOk 1 ov B0.length (u8s B0)∧Sub [(5,.pointer (some ⟨bw,0,none⟩)),(12,.int .i64 c.id),(16,.int .i64 c.roles),(20,.int .i64 c.exp),(24,.int .i64 c.ser),(13,.slice (some ⟨b0,0,none⟩) 1 1),(17,.slice (some ⟨b1,0,none⟩) 1 1)] σ∧Keep L (WL bw ov B0++[(bc,.cells ⟨[.int .i64 c.id,.int .i64 c.roles,.int .i64 c.exp,.int .i64 c.ser]⟩ 31 (0,0)),(b0,.cells ⟨[.int .i64 c.id]⟩ 3 (0,0)),(b1,.cells ⟨[.int .i64 c.roles]⟩ 3 (0,0))])) 11 #[true,true,true,false,true,true,true,false,true,true,false,false,true,true,false,false,false,false,false,false,false] ?_ ?_
    · rintro σ L ⟨ov,b0,b1,hov,hs,hk⟩
      refine A.weak ?_ hs hk
      refine A.multi [3,10,14] (by kernel_rfl) (by decide) ⟨⟨_,rfl,?_⟩,⟨_,rfl,?_⟩,⟨_,rfl,?_⟩,trivial⟩
      · (apply R.callE (Li:=WL bw ov B0);(iterate 3 exact rfl);(focus ((repeat' (exact Ext.here _ _));done));intro w1 hw1;have h9:=number1_ok bw ov B0 hov 1 c.id hf1 hl0 b0 _ _ w1 (hw1.get _ _ (At.mem (by (focus (repeat' first|exact At.head|apply At.tail|apply At.right);done)))) (RdSl.off hw1 (by (focus ((repeat' (exact Ext.here _ _));done))) (At.mem (by (focus (repeat' first|exact At.head|apply At.tail);done))));rw [← hB1] at h9;exact h9;rintro v Lo ⟨ov1,rfl,hov1,rfl⟩);apply R.nil;refine ⟨(by (focus (repeat' first|exact trivial|exact At.head|apply At.tail|apply At.right|refine ⟨?_,?_⟩))),A.cast (by kernel_rfl) (H1_1 _ _ ⟨ov1,b1,hov1,⟨rfl,rfl,rfl,rfl,rfl,rfl,rfl,trivial⟩,(by (focus (repeat' first|exact Keep.nil _|exact Ext.one _ _|exact Ext.here _ _|apply Keep.cons|apply Keep.app|apply Ext.cons);done))⟩)⟩
      · (((apply R.buildSlice;(iterate 12 exact rfl);intro)));rename_i b2;apply R.nil;refine ⟨(by (focus (repeat' first|exact trivial|exact At.head|apply At.tail|apply At.right|refine ⟨?_,?_⟩))),A.cast (by kernel_rfl) (H0_012 _ _ ⟨ov,b0,b1,b2,hov,⟨rfl,rfl,rfl,rfl,rfl,rfl,rfl,rfl,trivial⟩,(by (focus (repeat' first|exact Keep.nil _|exact Ext.one _ _|exact Ext.here _ _|apply Keep.cons|apply Keep.app|apply Ext.cons);done))⟩)⟩
      · (((apply R.buildSlice;(iterate 12 exact rfl);intro)));rename_i b3;apply R.nil;refine ⟨(by (focus (repeat' first|exact trivial|exact At.head|apply At.tail|apply At.right|refine ⟨?_,?_⟩))),A.cast (by kernel_rfl) (H0_013 _ _ ⟨ov,b0,b1,b3,hov,⟨rfl,rfl,rfl,rfl,rfl,rfl,rfl,rfl,trivial⟩,(by (focus (repeat' first|exact Keep.nil _|exact Ext.one _ _|exact Ext.here _ _|apply Keep.cons|apply Keep.app|apply Ext.cons);done))⟩)⟩
    intro H0_01
    refine A.merge (fun σ L=>∃ (ov:Ov) (b0:Nat) (b2:Nat),OvOk 1 ov B0.length (u8s B0)∧Sub [(5,.pointer (some ⟨bw,0,none⟩)),(12,.int .i64 c.id),(16,.int .i64 c.roles),(20,.int .i64 c.exp),(24,.int .i64 c.ser),(13,.slice (some ⟨b0,0,none⟩) 1 1),(21,.slice (some ⟨b2,0,none⟩) 1 1)] σ∧Keep L (WL bw ov B0++[(bc,.cells ⟨[.int .i64 c.id,.int .i64 c.roles,.int .i64 c.exp,.int .i64 c.ser]⟩ 31 (0,0)),(b0,.cells ⟨[.int .i64 c.id]⟩ 3 (0,0)),(b2,.cells ⟨[.int .i64 c.exp]⟩ 3 (0,0))])) 11 #[true,true,true,false,true,true,false,false,true,true,true,false,true,true,false,false,false,false,false,false,false] ?_ ?_
    · rintro σ L ⟨ov,b0,b2,hov,hs,hk⟩
      refine A.weak ?_ hs hk
      refine A.multi [3,6,14] (by kernel_rfl) (by decide) ⟨⟨_,rfl,?_⟩,⟨_,rfl,?_⟩,⟨_,rfl,?_⟩,trivial⟩
      · (apply R.callE (Li:=WL bw ov B0);(iterate 3 exact rfl);(focus ((repeat' (exact Ext.here _ _));done));intro w1 hw1;have h9:=number1_ok bw ov B0 hov 1 c.id hf1 hl0 b0 _ _ w1 (hw1.get _ _ (At.mem (by (focus (repeat' first|exact At.head|apply At.tail|apply At.right);done)))) (RdSl.off hw1 (by (focus ((repeat' (exact Ext.here _ _));done))) (At.mem (by (focus (repeat' first|exact At.head|apply At.tail);done))));rw [← hB1] at h9;exact h9;rintro v Lo ⟨ov1,rfl,hov1,rfl⟩);apply R.nil;refine ⟨(by (focus (repeat' first|exact trivial|exact At.head|apply At.tail|apply At.right|refine ⟨?_,?_⟩))),A.cast (by kernel_rfl) (H1_2 _ _ ⟨ov1,b2,hov1,⟨rfl,rfl,rfl,rfl,rfl,rfl,rfl,trivial⟩,(by (focus (repeat' first|exact Keep.nil _|exact Ext.one _ _|exact Ext.here _ _|apply Keep.cons|apply Keep.app|apply Ext.cons);done))⟩)⟩
      · (((apply R.buildSlice;(iterate 12 exact rfl);intro)));rename_i b1;apply R.nil;refine ⟨(by (focus (repeat' first|exact trivial|exact At.head|apply At.tail|apply At.right|refine ⟨?_,?_⟩))),A.cast (by kernel_rfl) (H0_012 _ _ ⟨ov,b0,b1,b2,hov,⟨rfl,rfl,rfl,rfl,rfl,rfl,rfl,rfl,trivial⟩,(by (focus (repeat' first|exact Keep.nil _|exact Ext.one _ _|exact Ext.here _ _|apply Keep.cons|apply Keep.app|apply Ext.cons);done))⟩)⟩
      · (((apply R.buildSlice;(iterate 12 exact rfl);intro)));rename_i b3;apply R.nil;refine ⟨(by (focus (repeat' first|exact trivial|exact At.head|apply At.tail|apply At.right|refine ⟨?_,?_⟩))),A.cast (by kernel_rfl) (H0_023 _ _ ⟨ov,b0,b2,b3,hov,⟨rfl,rfl,rfl,rfl,rfl,rfl,rfl,rfl,trivial⟩,(by (focus (repeat' first|exact Keep.nil _|exact Ext.one _ _|exact Ext.here _ _|apply Keep.cons|apply Keep.app|apply Ext.cons);done))⟩)⟩
    intro H0_02
    refine A.merge (fun σ L=>∃ (ov:Ov) (b0:Nat) (b3:Nat),OvOk 1 ov B0.length (u8s B0)∧Sub [(5,.pointer (some ⟨bw,0,none⟩)),(12,.int .i64 c.id),(16,.int .i64 c.roles),(20,.int .i64 c.exp),(24,.int .i64 c.ser),(13,.slice (some ⟨b0,0,none⟩) 1 1),(25,.slice (some ⟨b3,0,none⟩) 1 1)] σ∧Keep L (WL bw ov B0++[(bc,.cells ⟨[.int .i64 c.id,.int .i64 c.roles,.int .i64 c.exp,.int .i64 c.ser]⟩ 31 (0,0)),(b0,.cells ⟨[.int .i64 c.id]⟩ 3 (0,0)),(b3,.cells ⟨[.int .i64 c.ser]⟩ 3 (0,0))])) 11 #[true,true,true,false,true,true,false,false,true,true,false,false,true,true,true,false,false,false,false,false,false] ?_ ?_
    · rintro σ L ⟨ov,b0,b3,hov,hs,hk⟩
      refine A.weak ?_ hs hk
      refine A.multi [3,6,10] (by kernel_rfl) (by decide) ⟨⟨_,rfl,?_⟩,⟨_,rfl,?_⟩,⟨_,rfl,?_⟩,trivial⟩
      · (apply R.callE (Li:=WL bw ov B0);(iterate 3 exact rfl);(focus ((repeat' (exact Ext.here _ _));done));intro w1 hw1;have h9:=number1_ok bw ov B0 hov 1 c.id hf1 hl0 b0 _ _ w1 (hw1.get _ _ (At.mem (by (focus (repeat' first|exact At.head|apply At.tail|apply At.right);done)))) (RdSl.off hw1 (by (focus ((repeat' (exact Ext.here _ _));done))) (At.mem (by (focus (repeat' first|exact At.head|apply At.tail);done))));rw [← hB1] at h9;exact h9;rintro v Lo ⟨ov1,rfl,hov1,rfl⟩);apply R.nil;refine ⟨(by (focus (repeat' first|exact trivial|exact At.head|apply At.tail|apply At.right|refine ⟨?_,?_⟩))),A.cast (by kernel_rfl) (H1_3 _ _ ⟨ov1,b3,hov1,⟨rfl,rfl,rfl,rfl,rfl,rfl,rfl,trivial⟩,(by (focus (repeat' first|exact Keep.nil _|exact Ext.one _ _|exact Ext.here _ _|apply Keep.cons|apply Keep.app|apply Ext.cons);done))⟩)⟩
      · (((apply R.buildSlice;(iterate 12 exact rfl);intro)));rename_i b1;apply R.nil;refine ⟨(by (focus (repeat' first|exact trivial|exact At.head|apply At.tail|apply At.right|refine ⟨?_,?_⟩))),A.cast (by kernel_rfl) (H0_013 _ _ ⟨ov,b0,b1,b3,hov,⟨rfl,rfl,rfl,rfl,rfl,rfl,rfl,rfl,trivial⟩,(by (focus (repeat' first|exact Keep.nil _|exact Ext.one _ _|exact Ext.here _ _|apply Keep.cons|apply Keep.app|apply Ext.cons);done))⟩)⟩
      · (((apply R.buildSlice;(iterate 12 exact rfl);intro)));rename_i b2;apply R.nil;refine ⟨(by (focus (repeat' first|exact trivial|exact At.head|apply At.tail|apply At.right|refine ⟨?_,?_⟩))),A.cast (by kernel_rfl) (H0_023 _ _ ⟨ov,b0,b2,b3,hov,⟨rfl,rfl,rfl,rfl,rfl,rfl,rfl,rfl,trivial⟩,(by (focus (repeat' first|exact Keep.nil _|exact Ext.one _ _|exact Ext.here _ _|apply Keep.cons|apply Keep.app|apply Ext.cons);done))⟩)⟩
    intro H0_03
    refine A.merge (fun σ L=>∃ (ov:Ov) (b1:Nat) (b2:Nat),OvOk 1 ov B0.length (u8s B0)∧Sub [(5,.pointer (some ⟨bw,0,none⟩)),(12,.int .i64 c.id),(16,.int .i64 c.roles),(20,.int .i64 c.exp),(24,.int .i64 c.ser),(17,.slice (some ⟨b1,0,none⟩) 1 1),(21,.slice (some ⟨b2,0,none⟩) 1 1)] σ∧Keep L (WL bw ov B0++[(bc,.cells ⟨[.int .i64 c.id,.int .i64 c.roles,.int .i64 c.exp,.int .i64 c.ser]⟩ 31 (0,0)),(b1,.cells ⟨[.int .i64 c.roles]⟩ 3 (0,0)),(b2,.cells ⟨[.int .i64 c.exp]⟩ 3 (0,0))])) 11 #[true,true,false,false,true,true,true,false,true,true,true,false,true,true,false,false,false,false,false,false,false] ?_ ?_
    · rintro σ L ⟨ov,b1,b2,hov,hs,hk⟩
      refine A.weak ?_ hs hk
      refine A.multi [2,14] (by kernel_rfl) (by decide) ⟨⟨_,rfl,?_⟩,⟨_,rfl,?_⟩,trivial⟩
      · (((apply R.buildSlice;(iterate 12 exact rfl);intro)));rename_i b0;apply R.nil;refine ⟨(by (focus (repeat' first|exact trivial|exact At.head|apply At.tail|apply At.right|refine ⟨?_,?_⟩))),A.cast (by kernel_rfl) (H0_012 _ _ ⟨ov,b0,b1,b2,hov,⟨rfl,rfl,rfl,rfl,rfl,rfl,rfl,rfl,trivial⟩,(by (focus (repeat' first|exact Keep.nil _|exact Ext.one _ _|exact Ext.here _ _|apply Keep.cons|apply Keep.app|apply Ext.cons);done))⟩)⟩
      · (((apply R.buildSlice;(iterate 12 exact rfl);intro)));rename_i b3;apply R.nil;refine ⟨(by (focus (repeat' first|exact trivial|exact At.head|apply At.tail|apply At.right|refine ⟨?_,?_⟩))),A.cast (by kernel_rfl) (H0_123 _ _ ⟨ov,b1,b2,b3,hov,⟨rfl,rfl,rfl,rfl,rfl,rfl,rfl,rfl,trivial⟩,(by (focus (repeat' first|exact Keep.nil _|exact Ext.one _ _|exact Ext.here _ _|apply Keep.cons|apply Keep.app|apply Ext.cons);done))⟩)⟩
    intro H0_12
    refine A.merge (fun σ L=>∃ (ov:Ov) (b1:Nat) (b3:Nat),OvOk 1 ov B0.length (u8s B0)∧Sub [(5,.pointer (some ⟨bw,0,none⟩)),(12,.int .i64 c.id),(16,.int .i64 c.roles),(20,.int .i64 c.exp),(24,.int .i64 c.ser),(17,.slice (some ⟨b1,0,none⟩) 1 1),(25,.slice (some ⟨b3,0,none⟩) 1 1)] σ∧Keep L (WL bw ov B0++[(bc,.cells ⟨[.int .i64 c.id,.int .i64 c.roles,.int .i64 c.exp,.int .i64 c.ser]⟩ 31 (0,0)),(b1,.cells ⟨[.int .i64 c.roles]⟩ 3 (0,0)),(b3,.cells ⟨[.int .i64 c.ser]⟩ 3 (0,0))])) 11 #[true,true,false,false,true,true,true,false,true,true,false,false,true,true,true,false,false,false,false,false,false] ?_ ?_
    · rintro σ L ⟨ov,b1,b3,hov,hs,hk⟩
      refine A.weak ?_ hs hk
      refine A.multi [2,10] (by kernel_rfl) (by decide) ⟨⟨_,rfl,?_⟩,⟨_,rfl,?_⟩,trivial⟩
      · (((apply R.buildSlice;(iterate 12 exact rfl);intro)));rename_i b0;apply R.nil;refine ⟨(by (focus (repeat' first|exact trivial|exact At.head|apply At.tail|apply At.right|refine ⟨?_,?_⟩))),A.cast (by kernel_rfl) (H0_013 _ _ ⟨ov,b0,b1,b3,hov,⟨rfl,rfl,rfl,rfl,rfl,rfl,rfl,rfl,trivial⟩,(by (focus (repeat' first|exact Keep.nil _|exact Ext.one _ _|exact Ext.here _ _|apply Keep.cons|apply Keep.app|apply Ext.cons);done))⟩)⟩
      · (((apply R.buildSlice;(iterate 12 exact rfl);intro)));rename_i b2;apply R.nil;refine ⟨(by (focus (repeat' first|exact trivial|exact At.head|apply At.tail|apply At.right|refine ⟨?_,?_⟩))),A.cast (by kernel_rfl) (H0_123 _ _ ⟨ov,b1,b2,b3,hov,⟨rfl,rfl,rfl,rfl,rfl,rfl,rfl,rfl,trivial⟩,(by (focus (repeat' first|exact Keep.nil _|exact Ext.one _ _|exact Ext.here _ _|apply Keep.cons|apply Keep.app|apply Ext.cons);done))⟩)⟩
    intro H0_13
    refine A.merge (fun σ L=>∃ (ov:Ov) (b2:Nat) (b3:Nat),OvOk 1 ov B0.length (u8s B0)∧Sub [(5,.pointer (some ⟨bw,0,none⟩)),(12,.int .i64 c.id),(16,.int .i64 c.roles),(20,.int .i64 c.exp),(24,.int .i64 c.ser),(21,.slice (some ⟨b2,0,none⟩) 1 1),(25,.slice (some ⟨b3,0,none⟩) 1 1)] σ∧Keep L (WL bw ov B0++[(bc,.cells ⟨[.int .i64 c.id,.int .i64 c.roles,.int .i64 c.exp,.int .i64 c.ser]⟩ 31 (0,0)),(b2,.cells ⟨[.int .i64 c.exp]⟩ 3 (0,0)),(b3,.cells ⟨[.int .i64 c.ser]⟩ 3 (0,0))])) 11 #[true,true,false,false,true,true,false,false,true,true,true,false,true,true,true,false,false,false,false,false,false] ?_ ?_
    · rintro σ L ⟨ov,b2,b3,hov,hs,hk⟩
      refine A.weak ?_ hs hk
      refine A.multi [2,6] (by kernel_rfl) (by decide) ⟨⟨_,rfl,?_⟩,⟨_,rfl,?_⟩,trivial⟩
      · (((apply R.buildSlice;(iterate 12 exact rfl);intro)));rename_i b0;apply R.nil;refine ⟨(by (focus (repeat' first|exact trivial|exact At.head|apply At.tail|apply At.right|refine ⟨?_,?_⟩))),A.cast (by kernel_rfl) (H0_023 _ _ ⟨ov,b0,b2,b3,hov,⟨rfl,rfl,rfl,rfl,rfl,rfl,rfl,rfl,trivial⟩,(by (focus (repeat' first|exact Keep.nil _|exact Ext.one _ _|exact Ext.here _ _|apply Keep.cons|apply Keep.app|apply Ext.cons);done))⟩)⟩
      · (((apply R.buildSlice;(iterate 12 exact rfl);intro)));rename_i b1;apply R.nil;refine ⟨(by (focus (repeat' first|exact trivial|exact At.head|apply At.tail|apply At.right|refine ⟨?_,?_⟩))),A.cast (by kernel_rfl) (H0_123 _ _ ⟨ov,b1,b2,b3,hov,⟨rfl,rfl,rfl,rfl,rfl,rfl,rfl,rfl,trivial⟩,(by (focus (repeat' first|exact Keep.nil _|exact Ext.one _ _|exact Ext.here _ _|apply Keep.cons|apply Keep.app|apply Ext.cons);done))⟩)⟩
    intro H0_23
    refine A.merge (fun σ L=>∃ (ov:Ov) (b0:Nat),OvOk 1 ov B0.length (u8s B0)∧Sub [(5,.pointer (some ⟨bw,0,none⟩)),(12,.int .i64 c.id),(16,.int .i64 c.roles),(20,.int .i64 c.exp),(24,.int .i64 c.ser),(13,.slice (some ⟨b0,0,none⟩) 1 1)] σ∧Keep L (WL bw ov B0++[(bc,.cells ⟨[.int .i64 c.id,.int .i64 c.roles,.int .i64 c.exp,.int .i64 c.ser]⟩ 31 (0,0)),(b0,.cells ⟨[.int .i64 c.id]⟩ 3 (0,0))])) 12 #[true,true,true,false,true,true,false,false,true,true,false,false,true,true,false,false,false,false,false,false,false] ?_ ?_
    · rintro σ L ⟨ov,b0,hov,hs,hk⟩
      refine A.weak ?_ hs hk
      refine A.multi [3,6,10,14] (by kernel_rfl) (by decide) ⟨⟨_,rfl,?_⟩,⟨_,rfl,?_⟩,⟨_,rfl,?_⟩,⟨_,rfl,?_⟩,trivial⟩
      · (apply R.callE (Li:=WL bw ov B0);(iterate 3 exact rfl);(focus ((repeat' (exact Ext.here _ _));done));intro w1 hw1;have h9:=number1_ok bw ov B0 hov 1 c.id hf1 hl0 b0 _ _ w1 (hw1.get _ _ (At.mem (by (focus (repeat' first|exact At.head|apply At.tail|apply At.right);done)))) (RdSl.off hw1 (by (focus ((repeat' (exact Ext.here _ _));done))) (At.mem (by (focus (repeat' first|exact At.head|apply At.tail);done))));rw [← hB1] at h9;exact h9;rintro v Lo ⟨ov1,rfl,hov1,rfl⟩);apply R.nil;refine ⟨(by (focus (repeat' first|exact trivial|exact At.head|apply At.tail|apply At.right|refine ⟨?_,?_⟩))),A.cast (by kernel_rfl) (H1_ _ _ ⟨ov1,hov1,⟨rfl,rfl,rfl,rfl,rfl,rfl,trivial⟩,(by (focus (repeat' first|exact Keep.nil _|exact Ext.one _ _|exact Ext.here _ _|apply Keep.cons|apply Keep.app);done))⟩)⟩
      · (((apply R.buildSlice;(iterate 12 exact rfl);intro)));rename_i b1;apply R.nil;refine ⟨(by (focus (repeat' first|exact trivial|exact At.head|apply At.tail|apply At.right|refine ⟨?_,?_⟩))),A.cast (by kernel_rfl) (H0_01 _ _ ⟨ov,b0,b1,hov,⟨rfl,rfl,rfl,rfl,rfl,rfl,rfl,trivial⟩,(by (focus (repeat' first|exact Keep.nil _|exact Ext.one _ _|exact Ext.here _ _|apply Keep.cons|apply Keep.app|apply Ext.cons);done))⟩)⟩
      · (((apply R.buildSlice;(iterate 12 exact rfl);intro)));rename_i b2;apply R.nil;refine ⟨(by (focus (repeat' first|exact trivial|exact At.head|apply At.tail|apply At.right|refine ⟨?_,?_⟩))),A.cast (by kernel_rfl) (H0_02 _ _ ⟨ov,b0,b2,hov,⟨rfl,rfl,rfl,rfl,rfl,rfl,rfl,trivial⟩,(by (focus (repeat' first|exact Keep.nil _|exact Ext.one _ _|exact Ext.here _ _|apply Keep.cons|apply Keep.app|apply Ext.cons);done))⟩)⟩
      · (((apply R.buildSlice;(iterate 12 exact rfl);intro)));rename_i b3;apply R.nil;refine ⟨(by (focus (repeat' first|exact trivial|exact At.head|apply At.tail|apply At.right|refine ⟨?_,?_⟩))),A.cast (by kernel_rfl) (H0_03 _ _ ⟨ov,b0,b3,hov,⟨rfl,rfl,rfl,rfl,rfl,rfl,rfl,trivial⟩,(by (focus (repeat' first|exact Keep.nil _|exact Ext.one _ _|exact Ext.here _ _|apply Keep.cons|apply Keep.app|apply Ext.cons);done))⟩)⟩
    intro H0_0
    refine A.merge (fun σ L=>∃ (ov:Ov) (b1:Nat),OvOk 1 ov B0.length (u8s B0)∧Sub [(5,.pointer (some ⟨bw,0,none⟩)),(12,.int .i64 c.id),(16,.int .i64 c.roles),(20,.int .i64 c.exp),(24,.int .i64 c.ser),(17,.slice (some ⟨b1,0,none⟩) 1 1)] σ∧Keep L (WL bw ov B0++[(bc,.cells ⟨[.int .i64 c.id,.int .i64 c.roles,.int .i64 c.exp,.int .i64 c.ser]⟩ 31 (0,0)),(b1,.cells ⟨[.int .i64 c.roles]⟩ 3 (0,0))])) 12 #[true,true,false,false,true,true,true,false,true,true,false,false,true,true,false,false,false,false,false,false,false] ?_ ?_
    · rintro σ L ⟨ov,b1,hov,hs,hk⟩
      refine A.weak ?_ hs hk
      refine A.multi [2,10,14] (by kernel_rfl) (by decide) ⟨⟨_,rfl,?_⟩,⟨_,rfl,?_⟩,⟨_,rfl,?_⟩,trivial⟩
      · (((apply R.buildSlice;(iterate 12 exact rfl);intro)));rename_i b0;apply R.nil;refine ⟨(by (focus (repeat' first|exact trivial|exact At.head|apply At.tail|apply At.right|refine ⟨?_,?_⟩))),A.cast (by kernel_rfl) (H0_01 _ _ ⟨ov,b0,b1,hov,⟨rfl,rfl,rfl,rfl,rfl,rfl,rfl,trivial⟩,(by (focus (repeat' first|exact Keep.nil _|exact Ext.one _ _|exact Ext.here _ _|apply Keep.cons|apply Keep.app|apply Ext.cons);done))⟩)⟩
      · (((apply R.buildSlice;(iterate 12 exact rfl);intro)));rename_i b2;apply R.nil;refine ⟨(by (focus (repeat' first|exact trivial|exact At.head|apply At.tail|apply At.right|refine ⟨?_,?_⟩))),A.cast (by kernel_rfl) (H0_12 _ _ ⟨ov,b1,b2,hov,⟨rfl,rfl,rfl,rfl,rfl,rfl,rfl,trivial⟩,(by (focus (repeat' first|exact Keep.nil _|exact Ext.one _ _|exact Ext.here _ _|apply Keep.cons|apply Keep.app|apply Ext.cons);done))⟩)⟩
      · (((apply R.buildSlice;(iterate 12 exact rfl);intro)));rename_i b3;apply R.nil;refine ⟨(by (focus (repeat' first|exact trivial|exact At.head|apply At.tail|apply At.right|refine ⟨?_,?_⟩))),A.cast (by kernel_rfl) (H0_13 _ _ ⟨ov,b1,b3,hov,⟨rfl,rfl,rfl,rfl,rfl,rfl,rfl,trivial⟩,(by (focus (repeat' first|exact Keep.nil _|exact Ext.one _ _|exact Ext.here _ _|apply Keep.cons|apply Keep.app|apply Ext.cons);done))⟩)⟩
    intro H0_1
    refine A.merge (fun σ L=>∃ (ov:Ov) (b2:Nat),OvOk 1 ov B0.length (u8s B0)∧Sub [(5,.pointer (some ⟨bw,0,none⟩)),(12,.int .i64 c.id),(16,.int .i64 c.roles),(20,.int .i64 c.exp),(24,.int .i64 c.ser),(21,.slice (some ⟨b2,0,none⟩) 1 1)] σ∧Keep L (WL bw ov B0++[(bc,.cells ⟨[.int .i64 c.id,.int .i64 c.roles,.int .i64 c.exp,.int .i64 c.ser]⟩ 31 (0,0)),(b2,.cells ⟨[.int .i64 c.exp]⟩ 3 (0,0))])) 12 #[true,true,false,false,true,true,false,false,true,true,true,false,true,true,false,false,false,false,false,false,false] ?_ ?_
    · rintro σ L ⟨ov,b2,hov,hs,hk⟩
      refine A.weak ?_ hs hk
      refine A.multi [2,6,14] (by kernel_rfl) (by decide) ⟨⟨_,rfl,?_⟩,⟨_,rfl,?_⟩,⟨_,rfl,?_⟩,trivial⟩
      · (((apply R.buildSlice;(iterate 12 exact rfl);intro)));rename_i b0;apply R.nil;refine ⟨(by (focus (repeat' first|exact trivial|exact At.head|apply At.tail|apply At.right|refine ⟨?_,?_⟩))),A.cast (by kernel_rfl) (H0_02 _ _ ⟨ov,b0,b2,hov,⟨rfl,rfl,rfl,rfl,rfl,rfl,rfl,trivial⟩,(by (focus (repeat' first|exact Keep.nil _|exact Ext.one _ _|exact Ext.here _ _|apply Keep.cons|apply Keep.app|apply Ext.cons);done))⟩)⟩
      · (((apply R.buildSlice;(iterate 12 exact rfl);intro)));rename_i b1;apply R.nil;refine ⟨(by (focus (repeat' first|exact trivial|exact At.head|apply At.tail|apply At.right|refine ⟨?_,?_⟩))),A.cast (by kernel_rfl) (H0_12 _ _ ⟨ov,b1,b2,hov,⟨rfl,rfl,rfl,rfl,rfl,rfl,rfl,trivial⟩,(by (focus (repeat' first|exact Keep.nil _|exact Ext.one _ _|exact Ext.here _ _|apply Keep.cons|apply Keep.app|apply Ext.cons);done))⟩)⟩
      · (((apply R.buildSlice;(iterate 12 exact rfl);intro)));rename_i b3;apply R.nil;refine ⟨(by (focus (repeat' first|exact trivial|exact At.head|apply At.tail|apply At.right|refine ⟨?_,?_⟩))),A.cast (by kernel_rfl) (H0_23 _ _ ⟨ov,b2,b3,hov,⟨rfl,rfl,rfl,rfl,rfl,rfl,rfl,trivial⟩,(by (focus (repeat' first|exact Keep.nil _|exact Ext.one _ _|exact Ext.here _ _|apply Keep.cons|apply Keep.app|apply Ext.cons);done))⟩)⟩
    intro H0_2
    refine A.merge (fun σ L=>∃ (ov:Ov) (b3:Nat),OvOk 1 ov B0.length (u8s B0)∧Sub [(5,.pointer (some ⟨bw,0,none⟩)),(12,.int .i64 c.id),(16,.int .i64 c.roles),(20,.int .i64 c.exp),(24,.int .i64 c.ser),(25,.slice (some ⟨b3,0,none⟩) 1 1)] σ∧Keep L (WL bw ov B0++[(bc,.cells ⟨[.int .i64 c.id,.int .i64 c.roles,.int .i64 c.exp,.int .i64 c.ser]⟩ 31 (0,0)),(b3,.cells ⟨[.int .i64 c.ser]⟩ 3 (0,0))])) 12 #[true,true,false,false,true,true,false,false,true,true,false,false,true,true,true,false,false,false,false,false,false] ?_ ?_
    · rintro σ L ⟨ov,b3,hov,hs,hk⟩
      refine A.weak ?_ hs hk
      refine A.multi [2,6,10] (by kernel_rfl) (by decide) ⟨⟨_,rfl,?_⟩,⟨_,rfl,?_⟩,⟨_,rfl,?_⟩,trivial⟩
      · (((apply R.buildSlice;(iterate 12 exact rfl);intro)));rename_i b0;apply R.nil;refine ⟨(by (focus (repeat' first|exact trivial|exact At.head|apply At.tail|apply At.right|refine ⟨?_,?_⟩))),A.cast (by kernel_rfl) (H0_03 _ _ ⟨ov,b0,b3,hov,⟨rfl,rfl,rfl,rfl,rfl,rfl,rfl,trivial⟩,(by (focus (repeat' first|exact Keep.nil _|exact Ext.one _ _|exact Ext.here _ _|apply Keep.cons|apply Keep.app|apply Ext.cons);done))⟩)⟩
      · (((apply R.buildSlice;(iterate 12 exact rfl);intro)));rename_i b1;apply R.nil;refine ⟨(by (focus (repeat' first|exact trivial|exact At.head|apply At.tail|apply At.right|refine ⟨?_,?_⟩))),A.cast (by kernel_rfl) (H0_13 _ _ ⟨ov,b1,b3,hov,⟨rfl,rfl,rfl,rfl,rfl,rfl,rfl,trivial⟩,(by (focus (repeat' first|exact Keep.nil _|exact Ext.one _ _|exact Ext.here _ _|apply Keep.cons|apply Keep.app|apply Ext.cons);done))⟩)⟩
      · (((apply R.buildSlice;(iterate 12 exact rfl);intro)));rename_i b2;apply R.nil;refine ⟨(by (focus (repeat' first|exact trivial|exact At.head|apply At.tail|apply At.right|refine ⟨?_,?_⟩))),A.cast (by kernel_rfl) (H0_23 _ _ ⟨ov,b2,b3,hov,⟨rfl,rfl,rfl,rfl,rfl,rfl,rfl,trivial⟩,(by (focus (repeat' first|exact Keep.nil _|exact Ext.one _ _|exact Ext.here _ _|apply Keep.cons|apply Keep.app|apply Ext.cons);done))⟩)⟩
    intro H0_3
    refine A.merge (fun σ L=>∃ (ov:Ov),OvOk 1 ov B0.length (u8s B0)∧Sub [(5,.pointer (some ⟨bw,0,none⟩)),(12,.int .i64 c.id),(16,.int .i64 c.roles),(20,.int .i64 c.exp),(24,.int .i64 c.ser)] σ∧Keep L (WL bw ov B0++[(bc,.cells ⟨[.int .i64 c.id,.int .i64 c.roles,.int .i64 c.exp,.int .i64 c.ser]⟩ 31 (0,0))])) 13 #[true,true,false,false,true,true,false,false,true,true,false,false,true,true,false,false,false,false,false,false,false] ?_ ?_
    · rintro σ L ⟨ov,hov,hs,hk⟩
      refine A.weak ?_ hs hk
      refine A.multi [2,6,10,14] (by kernel_rfl) (by decide) ⟨⟨_,rfl,?_⟩,⟨_,rfl,?_⟩,⟨_,rfl,?_⟩,⟨_,rfl,?_⟩,trivial⟩
      · (((apply R.buildSlice;(iterate 12 exact rfl);intro)));rename_i b0;apply R.nil;refine ⟨(by (focus (repeat' first|exact trivial|exact At.head|apply At.tail|apply At.right|refine ⟨?_,?_⟩))),A.cast (by kernel_rfl) (H0_0 _ _ ⟨ov,b0,hov,⟨rfl,rfl,rfl,rfl,rfl,rfl,trivial⟩,(by (focus (repeat' first|exact Keep.nil _|exact Ext.one _ _|exact Ext.here _ _|apply Keep.cons|apply Keep.app|apply Ext.cons);done))⟩)⟩
      · (((apply R.buildSlice;(iterate 12 exact rfl);intro)));rename_i b1;apply R.nil;refine ⟨(by (focus (repeat' first|exact trivial|exact At.head|apply At.tail|apply At.right|refine ⟨?_,?_⟩))),A.cast (by kernel_rfl) (H0_1 _ _ ⟨ov,b1,hov,⟨rfl,rfl,rfl,rfl,rfl,rfl,trivial⟩,(by (focus (repeat' first|exact Keep.nil _|exact Ext.one _ _|exact Ext.here _ _|apply Keep.cons|apply Keep.app|apply Ext.cons);done))⟩)⟩
      · (((apply R.buildSlice;(iterate 12 exact rfl);intro)));rename_i b2;apply R.nil;refine ⟨(by (focus (repeat' first|exact trivial|exact At.head|apply At.tail|apply At.right|refine ⟨?_,?_⟩))),A.cast (by kernel_rfl) (H0_2 _ _ ⟨ov,b2,hov,⟨rfl,rfl,rfl,rfl,rfl,rfl,trivial⟩,(by (focus (repeat' first|exact Keep.nil _|exact Ext.one _ _|exact Ext.here _ _|apply Keep.cons|apply Keep.app|apply Ext.cons);done))⟩)⟩
      · (((apply R.buildSlice;(iterate 12 exact rfl);intro)));rename_i b3;apply R.nil;refine ⟨(by (focus (repeat' first|exact trivial|exact At.head|apply At.tail|apply At.right|refine ⟨?_,?_⟩))),A.cast (by kernel_rfl) (H0_3 _ _ ⟨ov,b3,hov,⟨rfl,rfl,rfl,rfl,rfl,rfl,trivial⟩,(by (focus (repeat' first|exact Keep.nil _|exact Ext.one _ _|exact Ext.here _ _|apply Keep.cons|apply Keep.app|apply Ext.cons);done))⟩)⟩
    intro H0_
    exact A.cast (by kernel_rfl) (H0_ _ _ ⟨none,hw0,⟨rfl,rfl,rfl,rfl,rfl,trivial⟩,(by (focus (repeat' first|exact Keep.nil _|exact Ext.one _ _|apply Keep.cons);done))⟩)
  rintro σ L ⟨ov,hov,hs,hk⟩
  refine A.weak ?_ hs hk
  clear hs hk
  (apply A.one 16;kernel_rfl;exact rfl;(((simp only [WL,List.cons_append];apply R.callE;(iterate 3 exact rfl);exact Ext.none _;intro w1 hw1;exact wout_ok bw ov B4 hov (by rw [hB,clI_len];decide) w1 (hw1.get _ _ (At.mem (by exact At.head))) (rdown hov hw1 (Ext.mem (by (focus (repeat' first|exact Ext.here _ _|apply Ext.cons);done))));rintro v Lo ⟨ov9,hov9,rfl,rfl⟩)));apply R.nil;refine ⟨?_,?_⟩;(focus (repeat' first|exact trivial|exact At.head|apply At.tail|apply At.right|refine ⟨?_,?_⟩)))<;>(apply A.tk 17;exact rfl;kernel_rfl;(apply Ok1.extract;exact rfl;exact rfl))<;>(apply A.tk 18;exact rfl;kernel_rfl;(apply Ok1.extract;exact rfl;exact rfl))<;>(apply A.tk 19;exact rfl;kernel_rfl;(apply Ok1.assign;exact rfl))<;>(apply A.tk 20;exact rfl;kernel_rfl;(apply Ok1.assign;exact rfl))<;>(apply A.done;kernel_rfl)
  rw [hB,clI_len] at hov9
  repeat' ((apply T.is;apply T.ret))
  (apply RetOk.tt;exact rfl;exact rfl)
  refine ⟨_,?_,ov9,hov9,by rw [hB,clI_len],rfl⟩
  rw [hB]
  (focus (repeat' first|exact Ext.here _ _|apply Keep.last);done)
end Go.Proofs.YtcfdgnajepilbaaGreat
