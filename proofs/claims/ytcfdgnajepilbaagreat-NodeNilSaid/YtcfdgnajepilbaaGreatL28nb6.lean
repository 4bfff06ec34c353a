/- Texts of the proof: Nd7, Nt2, Nn1, Cn1, Nn2, Lcj. -/
import Derived.Test.YtcfdgnajepilbaaGreatL28nb5
import Derived.JoinedOf
set_option linter.unusedSimpArgs false
set_option linter.unusedVariables false
namespace Go.Proofs.YtcfdgnajepilbaaGreat
open Go.RowKit Go.Shelf Go.Sort
set_option maxRecDepth 100000
structure NST.ok (t:NST) (x:NI):Prop where
  st:t.st=0 ∨ t.st=1
  sd:0≤t.sdd∧t.sdd < x.S
  la:0≤t.la∧t.la≤1073741824
  cnt:0≤t.cnt
  now:0≤t.now∧t.now≤1073741824
/-- What a tick makes. -/
def NTick (x:NI) (t:NST) (tick:Int) (v:Value) (L:Lst):Prop :=
  ((tick≤t.now ∨ 1073741824 < tick)∧v = .slice none 0 0∧L=x.L t) ∨
  (¬ (tick≤t.now ∨ 1073741824 < tick)∧∃ t2:NST,t2.now=tick∧t2.ok x ∧
    ((t.st=1∧t2.cnt=t.cnt∧v = .slice none 0 0∧L=x.L t2) ∨
     (t2.cnt=t.cnt+1∧∃ ob j junk ov,junk.length=j * 2∧OvOk 1 ov (wrG x.c x.s 1 t2.sdd x.boot t2.cnt []).length (u8s (wrG x.c x.s 1 t2.sdd x.boot t2.cnt []))∧v = .slice (some ⟨ob,0,none⟩) 1 (1+j)∧L=(ob,.cells ⟨[.int .i64 (65536+t2.sdd),.slice (ovp ov) (wrG x.c x.s 1 t2.sdd x.boot t2.cnt []).length (ovc ov (wrG x.c x.s 1 t2.sdd x.boot t2.cnt []).length)]++junk⟩ 53 (0,0))::(blkL 5 ov (u8s (wrG x.c x.s 1 t2.sdd x.boot t2.cnt []))++x.L t2))))
theorem ntick_bad (x:NI) (hx:x.ok) (t:NST) (ht:t.ok x) (hcnt:t.cnt≤1000) (tick:Int) (hq:tick≤t.now ∨ 1073741824 < tick) (w:World):CallM Tryz.prog 10 [.pointer (some ⟨x.bN,0,none⟩),.int .i64 tick] (x.L t) w (NTick x t tick):=by
  obtain ⟨hst,⟨hsd0,hsd1⟩,⟨hla0,hla1⟩,hc0,hn0,hn1⟩:=ht
  obtain ⟨hS1,hS4⟩:=hx.S
  have hnr:NR x.boot (t.cnt+1):=by have:=hx.boot;unfold NR;omega
  refine enterK (tb:=tb) Tryz.func10 rfl Tryz.ntmps10 rfl ?_
  unfold NI.L NI.N NI.cs
  generalize hK:x.K=KB at *
  repeat' (first|(apply R.is1;first|(apply R.isBin;first|(apply R.pure;exact rfl;first|(apply Ok1.eqlP;(iterate 5 exact rfl))|(apply Ok1.gtr_t;exact rfl;exact rfl;omega))|(apply R.leq rfl rfl rfl<;>intro))|(apply R.pure;exact rfl;first|(apply Ok1.load;exact rfl;(apply Ld.own1;exact rfl;exact rfl;exact At.head;exact rfl))|(apply Ok1.move;exact rfl)|(apply Ok1.fieldAddr;(iterate 5 exact rfl))|(apply Ok1.assign;exact rfl)|(apply Ok1.pick_t;exact rfl;exact rfl)|(apply Ok1.pick_f;exact rfl;exact rfl)|(apply Ok1.nilCheck;exact rfl)))|(apply R.isG;first|(apply R.guard_run;exact rfl;exact rfl)|(apply R.guard_not;(iterate 3 exact rfl)))|apply R.nil|(apply T.is;first|apply T.seq|apply T.region|apply T.ret|(apply T.cond_t;exact rfl)))
  all_goals skip
  all_goals (apply RetOk.t;exact rfl)
  all_goals exact ⟨x.L t,by unfold NI.L NI.N NI.cs;rw [hK];(focus (repeat' first|exact Ext.one _ _|exact Ext.all _|apply Keep.cons|apply Keep.last);done),.inl ⟨hq,rfl,rfl⟩⟩
theorem ntick_out (x:NI) (hx:x.ok) (t:NST) (ht:t.ok x) (hcnt:t.cnt≤1000) (tick:Int) (hq:¬ (tick≤t.now ∨ 1073741824 < tick)) (hst:t.st=0) (w:World):CallM Tryz.prog 10 [.pointer (some ⟨x.bN,0,none⟩),.int .i64 tick] (x.L t) w (NTick x t tick):=by
  obtain ⟨_,⟨hsd0,hsd1⟩,⟨hla0,hla1⟩,hc0,hn0,hn1⟩:=ht
  obtain ⟨hS1,hS4⟩:=hx.S
  have hnr:NR x.boot (t.cnt+1):=by have:=hx.boot;unfold NR;omega
  have hq1:t.now < tick:=by omega
  have hq2:tick≤1073741824:=by omega
  have hsw:=fun w1=>nsweep_ok x hx tick w1
  have hbl:=fun w1=>dbelow_ok x.bd t.D x.S hS1 hS4 w1
  have hgt:∀ {w1:World} {S:List Nat} {L Li Lr:Lst} {q:Nat × Obj},Hp w S L w1→Ext L Li Lr→q∈Lr→w1.heap[q.1]? = some q.2:=fun hw he hq=>hw.get _ _ (he.perm.subset (List.mem_append_right _ hq))
  have hsta:=fun st sd la {w1:World} {S:List Nat} {L:Lst} (hw:Hp w S L w1) (hJ:JN x.bj x.bc x.S st sd la none 0 0∈L)=>jstate_ok x.bj x.bc x.S st sd la none 0 0 w1 ⟨_,_,hw.get _ _ hJ⟩
  have hseat:=fun o now st sd la (h0:0≤sd) (h1:sd≤3) {w1:World} {S:List Nat} {L:Lst} (hw:Hp w S L w1) (hN:x.N o now∈L) (hJ:JN x.bj x.bc x.S st sd la none 0 0∈L)=>nseat_ok x o now w1 (hw.get _ _ hN) st sd la h0 h1 (hw.get _ _ hJ)
  have hini:=fun o now st sd la (hs:st≠3) {w1:World} {S:List Nat} {L:Lst} (hw:Hp w S L w1) (hN:x.N o now∈L) (hJ:JN x.bj x.bc x.S st sd la none 0 0∈L)=>nin_ok x o now w1 (hw.get _ _ hN) st sd la hs (hw.get _ _ hJ)
  have hempty:=fun o (ho:o.oneCell'=true) w1=>empty9_ok x o ho tick w1
  have hpost:=fun p n cap G hn hb q a w1 hp (hpo:G≠[]→Off p (blks [x.N (.slice none 0 0) tick])) hq (hqo:Off q (blks [x.N (.slice none 0 0) tick]))=>post9_ok x tick p n cap G hn hb q a w1 hp hpo hq hqo
  have hGl:∀ seed,(wrG x.c x.s 1 seed x.boot (t.cnt+1) []).length=52:=fun seed=>pkB_len _ _ _ _ _ _ (wrT_len ..)
  obtain ⟨KR,hKR⟩:∃ KR,x.K=x.C::x.R::KR:=⟨_,rfl⟩
  rw [hKR] at hsw
  have hstart:∀ seed,0≤seed→seed < x.S→∀ {w1:World} {S:List Nat} {L Lr:Lst},Hp w S L w1→Ext L [JN x.bj x.bc x.S t.st t.sdd t.la none 0 0,CN x.bn x.boot t.cnt] Lr→x.C∈Lr→x.R∈Lr→CallM Tryz.prog 36 [.pointer (some ⟨x.bj,0,none⟩),.int .i64 seed,.int .i64 tick] [JN x.bj x.bc x.S t.st t.sdd t.la none 0 0,CN x.bn x.boot t.cnt] w1 fun v L=>∃ ov,OvOk 1 ov (wrG x.c x.s 1 seed x.boot (t.cnt+1) []).length (u8s (wrG x.c x.s 1 seed x.boot (t.cnt+1) []))∧v = .tuple #[slV ov (wrG x.c x.s 1 seed x.boot (t.cnt+1) []).length,.int .i64 0]∧L=JN x.bj x.bc x.S 1 seed tick none 0 0::CN x.bn x.boot (t.cnt+1)::blkL 5 ov (u8s (wrG x.c x.s 1 seed x.boot (t.cnt+1) [])):=by
    intro seed h0 h1 w1 S L Lr hw he hC hR
    refine (jstart_ok x.bj x.bc x.bn x.br x.bb x.bdr x.sd _ _ x.c hx.c x.s hx.s hx.b x.m1 x.m2 _ x.S t.st t.sdd t.la hS4 none 0 0 x.boot t.cnt hnr hc0 seed tick w1 (hgt hw he hC) (hgt hw he hR) (RdSl.off hw he hC) (RdSl.off hw he hR)).imp ?_
    rintro v L9 (⟨g,_⟩|⟨_,Lo,⟨ov,g1,g2,g3⟩,g4⟩)
    · exact absurd (by unfold jstE;rw [if_neg (by omega),if_neg (by omega)]) g
    · exact ⟨ov,g1,g2,by rw [g4,g3]⟩
  refine enterK (tb:=tb) Tryz.func10 rfl Tryz.ntmps10 rfl ?_
  unfold NI.L
  rw [hKR]
  unfold NI.N NI.cs NI.C NI.R at *
  repeat' (first|(apply R.is1;first|(apply R.isBin;(apply R.pure;exact rfl;first|(apply Ok1.eqlP;(iterate 5 exact rfl))|(apply Ok1.leq_f;exact rfl;exact rfl;omega)|(apply Ok1.gtr_f;exact rfl;exact rfl;omega)))|(apply R.pure;exact rfl;first|(apply Ok1.load;exact rfl;(apply Ld.own1;exact rfl;exact rfl;exact At.head;exact rfl))|(apply Ok1.move;exact rfl)|(apply Ok1.fieldAddr;(iterate 5 exact rfl))|(apply Ok1.assign;exact rfl)|(apply Ok1.pick_f;exact rfl;exact rfl)|(apply Ok1.nilCheck;exact rfl)))|(apply R.is0;(apply R.store;(iterate 6 exact rfl);exact Upd.head;exact rfl))|(apply R.isG;(apply R.guard_run;exact rfl;exact rfl))|apply R.nil|(apply T.is;first|(apply T.stop1 4)|apply T.seq|apply T.region|apply T.skip|(apply T.cond_f;exact rfl)))
  all_goals refine ⟨?_⟩
  refine T.weakK (σ':=[(0,.pointer (some ⟨x.bN,0,none⟩)),(1,.int .i64 tick)]) (L':=((x.bN,.cells ⟨x.cs (.slice none 0 0) tick⟩ 111 (0,0))::(x.bc,.cells ⟨chC x.bn x.br x.bb x.bdr x.sd⟩ 173 (0,0))::(x.br,.cells ⟨ringC x.c x.s x.m1 x.m2⟩ 177 (0,0))::KR)++[JN x.bj x.bc x.S t.st t.sdd t.la none 0 0,CN x.bn x.boot t.cnt,dwB x.bd t.D]) ?_ (by unfold NI.cs;simp only [List.cons_append];(focus (repeat' first|exact Keep.nil _|exact Ext.one _ _|exact Ext.all _|apply Keep.cons|apply Keep.app|apply Ext.cons);done)) ⟨rfl,rfl,trivial⟩
  unfold NI.cs
  repeat' (first|(apply R.is1;first|(apply R.isBin;(apply R.pure;exact rfl;(apply Ok1.eql_t;exact rfl;exact rfl;omega)))|(apply R.isCall;first|(apply R.callE (vs:=[.pointer (some ⟨x.bN,0,none⟩)]);(iterate 3 exact rfl);exact Ext.here _ _;intro w1 hw1;exact hsw w1;rintro v Lo rfl)|(apply R.callV (vs:=[.pointer (some ⟨x.bj,0,none⟩)]);(iterate 3 exact rfl);intro w1 hw1;exact hsta _ _ _ hw1 (At.mem (by (focus (repeat' first|exact At.head|apply At.tail|apply At.right);done)))))|(apply R.pure;exact rfl;first|(apply Ok1.load;exact rfl;(apply Ld.own1;exact rfl;exact rfl;exact At.head;exact rfl))|(apply Ok1.move;exact rfl)|(apply Ok1.fieldAddr;(iterate 5 exact rfl))|(apply Ok1.nilCheck;exact rfl)))|apply R.nil|(apply T.is;first|(apply T.stop 7)|(apply T.drawC (id:=6) [0] (by decide);((apply A.tk 0;exact rfl;kernel_rfl;(apply Ok1.move;exact rfl))<;>(apply A.tk 1;exact rfl;kernel_rfl;(apply Ok1.nilCheck;exact rfl))<;>(apply A.tk 2;exact rfl;kernel_rfl;(apply Ok1.fieldAddr;(iterate 5 exact rfl)))<;>(apply A.tk 3;exact rfl;kernel_rfl;(apply Ok1.load;exact rfl;(apply Ld.own1;exact rfl;exact rfl;exact At.head;exact rfl)))<;>(apply A.tk 4;exact rfl;kernel_rfl;(apply Ok1.move;exact rfl))<;>(apply A.tk 5;exact rfl;kernel_rfl;(apply Ok1.nilCheck;exact rfl))<;>(apply A.tk 6;exact rfl;kernel_rfl;(apply Ok1.fieldAddr;(iterate 5 exact rfl)))<;>(apply A.tk 7;exact rfl;kernel_rfl;(apply Ok1.load;exact rfl;(apply Ld.own1;exact rfl;exact rfl;exact At.head;exact rfl)))<;>(apply A.one 8;kernel_rfl;exact rfl;(((apply R.callE (Li:=[dwB x.bd t.D]) (vs:=[.pointer (some ⟨x.bd,0,none⟩),.int .i64 x.S]);(iterate 3 exact rfl);(focus (repeat' first|exact Ext.one _ _|apply Ext.cons|apply Ext.app);done);intro w1 hw1;exact hbl w1;rintro v Lo ⟨seed,D2,hsd0,hsd1,rfl,rfl⟩)));apply R.nil;refine ⟨?_,?_⟩;(focus (repeat' first|exact trivial|exact At.head|apply At.tail|refine ⟨?_,?_⟩)))<;>(apply A.tk 9;exact rfl;kernel_rfl;(apply Ok1.assign;exact rfl))<;>(apply A.done;kernel_rfl)))|apply T.seq|apply T.region|(apply T.cond_t;exact rfl)))
  refine ⟨?_⟩
  have hstart2:=fun {w1:World} {S:List Nat} {L Lr:Lst} (hw:Hp w S L w1) he hC hR=>hstart seed hsd0 hsd1 (Lr:=Lr) hw he hC hR
  have hGl9:=hGl seed
  obtain ⟨G,hG⟩:∃ G,G=wrG x.c x.s 1 seed x.boot (t.cnt+1) []:=⟨_,rfl⟩
  rw [← hG] at hstart2 hGl9
  repeat' (first|(apply R.is1;first|(apply R.isBin;(apply R.pure;exact rfl;(apply Ok1.eql_t;exact rfl;exact rfl;omega)))|(apply R.isCall;first|(apply R.callE (Li:=[JN x.bj x.bc x.S t.st t.sdd t.la none 0 0,CN x.bn x.boot t.cnt]) (vs:=[.pointer (some ⟨x.bj,0,none⟩),.int .i64 seed,.int .i64 tick]);(iterate 3 exact rfl);(focus (repeat' first|exact Ext.all _|apply Ext.cons|apply Ext.app);done);intro w1 hw1;exact hstart2 hw1 (by (focus (repeat' first|exact Ext.all _|apply Ext.cons|apply Ext.app);done)) (At.mem (by (focus (repeat' first|exact At.head|apply At.tail);done))) (At.mem (by (focus (repeat' first|exact At.head|apply At.tail);done)));rintro v Lo ⟨ov,hov,rfl,hq9⟩;(obtain ⟨UB,hUB,hub⟩:∃ UB,blkL 5 ov (u8s G)=UB∧∀ q∈blkL 5 ov (u8s G),q∈UB:=⟨_,rfl,fun q h=>h⟩);rw [hq9,hUB,slV_eq hov];simp only [List.cons_append])|(apply R.callE (Li:=[(x.bN,.cells ⟨[.pointer (some ⟨x.bc,0,none⟩),.slice (some ⟨ob,0,none⟩) 1 (1+jn),.pointer (some ⟨x.bj,0,none⟩),.pointer (some ⟨x.bf,0,none⟩),.pointer (some ⟨x.bv,0,none⟩),.map none,.slice none 0 0,.int .i64 0,.map none,.pointer (some ⟨x.bh,0,none⟩),.pointer (some ⟨x.bst,0,none⟩),.slice none 0 0,.int .i64 0,.pointer (some ⟨x.bd,0,none⟩),.map (some x.bp),.map (some x.bq),.int .i64 0,.int .i64 tick,.int .i64 (-16),.int .i64 0,.int .i64 0,.int .i64 0,.int .i64 0,.bool false,.int .i64 x.S]⟩ 111 (0,0))]) (vs:=[.pointer (some ⟨x.bN,_,none⟩)]);(iterate 3 exact rfl);(focus ((repeat' (exact Ext.one _ _));done));intro w1 hw1;exact hempty (.slice (some ⟨ob,0,none⟩) 1 (1+jn)) rfl w1;rintro v Lo ⟨rfl,rfl⟩))|(apply R.pure;exact rfl;first|(apply Ok1.load;exact rfl;(apply Ld.own1;exact rfl;exact rfl;(focus (repeat' first|exact At.head|apply At.tail);done);exact rfl))|(apply Ok1.move;exact rfl)|(apply Ok1.fieldAddr;(iterate 5 exact rfl))|(apply Ok1.assign;exact rfl)|(apply Ok1.extract;exact rfl;exact rfl)|(apply Ok1.nilCheck;exact rfl)))|apply R.nil|(apply T.is;first|(apply T.drawC (id:=9) [] (by decide);((apply A.tk 0;exact rfl;kernel_rfl;(apply Ok1.move;exact rfl))<;>(apply A.tk 1;exact rfl;kernel_rfl;(apply Ok1.nilCheck;exact rfl))<;>(apply A.tk 2;exact rfl;kernel_rfl;(apply Ok1.fieldAddr;(iterate 5 exact rfl)))<;>(apply A.tk 3;exact rfl;kernel_rfl;(apply Ok1.move;exact rfl))<;>(apply A.tk 4;exact rfl;kernel_rfl;(apply Ok1.move;exact rfl))<;>(apply A.one 5;kernel_rfl;exact rfl;(((apply R.callV (vs:=[.pointer (some ⟨x.bN,0,none⟩)]);(iterate 3 exact rfl);intro w1 hw1;exact hseat (.slice none 0 0) tick 1 seed tick (by omega) (by omega) hw1 (At.mem (by (focus (repeat' first|exact At.head|apply At.tail|apply At.right);done))) (At.mem (by exact At.head)))));apply R.nil;refine ⟨?_,?_⟩;(focus ((repeat' (exact trivial)))))<;>(apply A.one 6;kernel_rfl;exact rfl;(((apply R.buildSlice;(iterate 12 exact rfl);intro)));apply R.nil;refine ⟨?_,?_⟩;(focus ((repeat' (exact trivial)))))<;>(apply A.one 7;kernel_rfl;exact rfl;(((apply R.callE (Li:=[(x.bN,.cells ⟨[.pointer (some ⟨x.bc,0,none⟩),.slice none 0 0,.pointer (some ⟨x.bj,0,none⟩),.pointer (some ⟨x.bf,0,none⟩),.pointer (some ⟨x.bv,0,none⟩),.map none,.slice none 0 0,.int .i64 0,.map none,.pointer (some ⟨x.bh,0,none⟩),.pointer (some ⟨x.bst,0,none⟩),.slice none 0 0,.int .i64 0,.pointer (some ⟨x.bd,0,none⟩),.map (some x.bp),.map (some x.bq),.int .i64 0,.int .i64 tick,.int .i64 (-16),.int .i64 0,.int .i64 0,.int .i64 0,.int .i64 0,.bool false,.int .i64 x.S]⟩ 111 (0,0))]) (vs:=[.pointer (some ⟨x.bN,_,none⟩),.slice _ _ _,.slice (some ⟨_,0,none⟩) 1 1]);(iterate 3 exact rfl);(focus (repeat' first|exact Ext.one _ _|apply Ext.cons|apply Ext.app);done);intro w1 hw1;exact hpost (ovp ov) G.length (ovc ov G.length) G rfl (by omega) _ (65536+seed) w1 (rdown hov hw1 (fun q hq=>Ext.mem (by (focus (repeat' first|exact Ext.here _ _|apply Ext.cons);done)) q (hub q hq))) (fun _=>ovoff hw1 (by (focus (repeat' first|exact Ext.one _ _|apply Ext.cons|apply Ext.app);done)) (fun q hq=>Ext.mem (by (focus (repeat' first|exact Ext.here _ _|apply Ext.cons);done)) q (hub q hq))) (RdSl.ofMem (junk:=[]) hw1 (At.mem (by exact At.head)) rfl) (Off.of hw1 (by (focus (repeat' first|exact Ext.one _ _|apply Ext.cons|apply Ext.app);done)) (by exact At.head));rintro v Lo ⟨ov2,ob,jn,junk,hov2,hjn,rfl⟩;simp only [List.cons_append])));apply R.nil;refine ⟨?_,?_⟩;(focus ((repeat' (exact trivial)))))<;>(apply A.done;kernel_rfl)))|apply T.seq|apply T.region|apply T.ret|(apply T.cond_t;exact rfl)))
  (apply RetOk.t;exact rfl)
  refine ⟨(ob,.cells ⟨[.int .i64 (65536+seed),.slice (ovp ov2) G.length (ovc ov2 G.length)]++junk⟩ 53 (0,0))::(blkL 5 ov2 (u8s G)++x.L ⟨1,seed,tick,t.cnt+1,tick,D2⟩),?_,.inr ⟨hq,⟨1,seed,tick,t.cnt+1,tick,D2⟩,rfl,⟨.inr rfl,⟨hsd0,hsd1⟩,⟨by simp only;omega,by simp only;omega⟩,by simp only;omega,⟨by simp only;omega,by simp only;omega⟩⟩,.inr ⟨rfl,ob,jn,junk,ov2,hjn,?_,rfl,?_⟩⟩⟩
  · unfold NI.L
    rw [hKR]
    unfold NI.N NI.cs
    generalize blkL 5 ov2 (u8s G)=U2
    simp only [List.cons_append,List.nil_append]
    (focus (repeat' first|exact Ext.one _ _|exact Ext.here _ _|apply Keep.cons|apply Keep.app|apply Keep.last|apply Ext.cons|apply Ext.app);done)
  · rw [← hG];exact hov2
  · rw [← hG]
theorem ntick_wait (x:NI) (hx:x.ok) (t:NST) (ht:t.ok x) (hcnt:t.cnt≤1000) (tick:Int) (hq:¬ (tick≤t.now ∨ 1073741824 < tick)) (hst:t.st=1) (hdu:tick < t.la+16) (w:World):CallM Tryz.prog 10 [.pointer (some ⟨x.bN,0,none⟩),.int .i64 tick] (x.L t) w (NTick x t tick):=by
  obtain ⟨_,⟨hsd0,hsd1⟩,⟨hla0,hla1⟩,hc0,hn0,hn1⟩:=ht
  obtain ⟨hS1,hS4⟩:=hx.S
  have hnr:NR x.boot (t.cnt+1):=by have:=hx.boot;unfold NR;omega
  have hq1:t.now < tick:=by omega
  have hq2:tick≤1073741824:=by omega
  have hsw:=fun w1=>nsweep_ok x hx tick w1
  have hbl:=fun w1=>dbelow_ok x.bd t.D x.S hS1 hS4 w1
  have hgt:∀ {w1:World} {S:List Nat} {L Li Lr:Lst} {q:Nat × Obj},Hp w S L w1→Ext L Li Lr→q∈Lr→w1.heap[q.1]? = some q.2:=fun hw he hq=>hw.get _ _ (he.perm.subset (List.mem_append_right _ hq))
  have hsta:=fun st sd la {w1:World} {S:List Nat} {L:Lst} (hw:Hp w S L w1) (hJ:JN x.bj x.bc x.S st sd la none 0 0∈L)=>jstate_ok x.bj x.bc x.S st sd la none 0 0 w1 ⟨_,_,hw.get _ _ hJ⟩
  have hseat:=fun o now st sd la (h0:0≤sd) (h1:sd≤3) {w1:World} {S:List Nat} {L:Lst} (hw:Hp w S L w1) (hN:x.N o now∈L) (hJ:JN x.bj x.bc x.S st sd la none 0 0∈L)=>nseat_ok x o now w1 (hw.get _ _ hN) st sd la h0 h1 (hw.get _ _ hJ)
  have hini:=fun o now st sd la (hs:st≠3) {w1:World} {S:List Nat} {L:Lst} (hw:Hp w S L w1) (hN:x.N o now∈L) (hJ:JN x.bj x.bc x.S st sd la none 0 0∈L)=>nin_ok x o now w1 (hw.get _ _ hN) st sd la hs (hw.get _ _ hJ)
  have hempty:=fun o (ho:o.oneCell'=true) w1=>empty9_ok x o ho tick w1
  have hpost:=fun p n cap G hn hb q a w1 hp (hpo:G≠[]→Off p (blks [x.N (.slice none 0 0) tick])) hq (hqo:Off q (blks [x.N (.slice none 0 0) tick]))=>post9_ok x tick p n cap G hn hb q a w1 hp hpo hq hqo
  have hGl:∀ seed,(wrG x.c x.s 1 seed x.boot (t.cnt+1) []).length=52:=fun seed=>pkB_len _ _ _ _ _ _ (wrT_len ..)
  obtain ⟨KR,hKR⟩:∃ KR,x.K=x.C::x.R::KR:=⟨_,rfl⟩
  rw [hKR] at hsw
  have hdj:∀ {w1:World} {S:List Nat} {L Lr:Lst},Hp w S L w1→Ext L [JN x.bj x.bc x.S t.st t.sdd t.la none 0 0,CN x.bn x.boot t.cnt] Lr→x.C∈Lr→x.R∈Lr→CallM Tryz.prog 40 [.pointer (some ⟨x.bj,0,none⟩),.int .i64 tick] [JN x.bj x.bc x.S t.st t.sdd t.la none 0 0,CN x.bn x.boot t.cnt] w1 (JDue x.bj x.bc x.bn x.c x.s x.S t.st t.sdd t.la none 0 0 x.boot t.cnt tick):=by
    intro w1 S L Lr hw he hC hR
    exact jdue_ok x.bj x.bc x.bn x.br x.bb x.bdr x.sd _ _ x.c hx.c x.s hx.s hx.b x.m1 x.m2 _ x.S t.st t.sdd t.la hS1 hS4 hsd0 (by omega) hla0 (by omega) none 0 0 x.boot t.cnt hnr hc0 tick w1 (hgt hw he hC) (hgt hw he hR) (RdSl.off hw he hC) (RdSl.off hw he hR)
  have hdue:=fun {w1:World} {S:List Nat} {L Lr:Lst} (hw:Hp w S L w1) he hC hR=>(hdj (Lr:=Lr) hw he hC hR).imp (R':=fun v L=>v = .tuple #[.slice none 0 0,.bool false]∧L=[JN x.bj x.bc x.S t.st t.sdd t.la none 0 0,CN x.bn x.boot t.cnt]) (by
    rintro v L9 (⟨_,g1,g2⟩|⟨g,_⟩)
    · exact ⟨g1,g2⟩
    · exact absurd (.inr (.inr hdu)) g)
  clear hseat hpost hbl hGl hdj hgt
  refine enterK (tb:=tb) Tryz.func10 rfl Tryz.ntmps10 rfl ?_
  unfold NI.L
  rw [hKR]
  unfold NI.N NI.cs NI.C NI.R at *
  repeat' (first|(apply R.is1;first|(apply R.isBin;(apply R.pure;exact rfl;first|(apply Ok1.eqlP;(iterate 5 exact rfl))|(apply Ok1.leq_f;exact rfl;exact rfl;omega)|(apply Ok1.gtr_f;exact rfl;exact rfl;omega)))|(apply R.pure;exact rfl;first|(apply Ok1.load;exact rfl;(apply Ld.own1;exact rfl;exact rfl;exact At.head;exact rfl))|(apply Ok1.move;exact rfl)|(apply Ok1.fieldAddr;(iterate 5 exact rfl))|(apply Ok1.assign;exact rfl)|(apply Ok1.pick_f;exact rfl;exact rfl)|(apply Ok1.nilCheck;exact rfl)))|(apply R.is0;(apply R.store;(iterate 6 exact rfl);exact Upd.head;exact rfl))|(apply R.isG;(apply R.guard_run;exact rfl;exact rfl))|apply R.nil|(apply T.is;first|(apply T.stop1 4)|apply T.seq|apply T.region|apply T.skip|(apply T.cond_f;exact rfl)))
  all_goals refine ⟨?_⟩
  refine T.weakK (σ':=[(0,.pointer (some ⟨x.bN,0,none⟩)),(1,.int .i64 tick)]) (L':=((x.bN,.cells ⟨x.cs (.slice none 0 0) tick⟩ 111 (0,0))::(x.bc,.cells ⟨chC x.bn x.br x.bb x.bdr x.sd⟩ 173 (0,0))::(x.br,.cells ⟨ringC x.c x.s x.m1 x.m2⟩ 177 (0,0))::KR)++[JN x.bj x.bc x.S t.st t.sdd t.la none 0 0,CN x.bn x.boot t.cnt,dwB x.bd t.D]) ?_ (by unfold NI.cs;simp only [List.cons_append];(focus (repeat' first|exact Keep.nil _|exact Ext.one _ _|exact Ext.all _|apply Keep.cons|apply Keep.app|apply Ext.cons);done)) ⟨rfl,rfl,trivial⟩
  unfold NI.cs
  repeat' (first|(apply R.is1;first|(apply R.isCall;(apply R.callE (vs:=[.pointer (some ⟨x.bN,0,none⟩)]);(iterate 3 exact rfl);exact Ext.here _ _;intro w1 hw1;exact hsw w1;rintro v Lo rfl))|(apply R.pure;exact rfl;(apply Ok1.move;exact rfl)))|apply R.nil|(apply T.is;first|(apply T.stop 5)|apply T.seq|apply T.region))
  refine ⟨?_⟩
  refine T.weakK (σ':=[(0,.pointer (some ⟨x.bN,0,none⟩)),(1,.int .i64 tick)]) (L':=JN x.bj x.bc x.S t.st t.sdd t.la none 0 0::CN x.bn x.boot t.cnt::dwB x.bd t.D::(x.bN,.cells ⟨x.cs (.slice none 0 0) tick⟩ 111 (0,0))::(x.bc,.cells ⟨chC x.bn x.br x.bb x.bdr x.sd⟩ 173 (0,0))::(x.br,.cells ⟨ringC x.c x.s x.m1 x.m2⟩ 177 (0,0))::KR) ?_ (by unfold NI.cs;simp only [List.cons_append];(focus (repeat' first|exact Ext.one _ _|exact Ext.here _ _|apply Keep.cons|apply Keep.last|apply Ext.cons|apply Ext.app);done)) ⟨rfl,rfl,trivial⟩
  unfold NI.cs
  repeat' (first|(apply R.is1;first|(apply R.isBin;(apply R.pure;exact rfl;(apply Ok1.eql_f;exact rfl;exact rfl;omega)))|(apply R.isCall;first|(apply R.callV (vs:=[.pointer (some ⟨x.bj,0,none⟩)]);(iterate 3 exact rfl);intro w1 hw1;exact hsta _ _ _ hw1 (At.mem (by exact At.head)))|(apply R.callE (Li:=[JN x.bj x.bc x.S t.st t.sdd t.la none 0 0,CN x.bn x.boot t.cnt]) (vs:=[.pointer (some ⟨x.bj,0,none⟩),.int .i64 tick]);(iterate 3 exact rfl);exact Ext.two _ (Ext.one _ _) (Ext.one _ _);intro w1 hw1;exact hdue hw1 (Ext.two _ (Ext.one _ _) (Ext.one _ _)) (At.mem (by (focus (repeat' first|exact At.head|apply At.tail);done))) (At.mem (by (focus (repeat' first|exact At.head|apply At.tail);done)));rintro v Lo ⟨rfl,rfl⟩;simp only [List.cons_append,List.nil_append])|(apply R.callV (vs:=[.pointer (some ⟨x.bN,0,none⟩)]);(iterate 3 exact rfl);intro w1 hw1;exact hini _ tick (t.st) (t.sdd) (t.la) (by omega) hw1 (At.mem (by (focus (repeat' first|exact At.head|apply At.tail);done))) (At.mem (by exact At.head)))|(apply R.callE (Li:=[(x.bN,.cells ⟨[.pointer (some ⟨x.bc,0,none⟩),.slice none 0 0,.pointer (some ⟨x.bj,0,none⟩),.pointer (some ⟨x.bf,0,none⟩),.pointer (some ⟨x.bv,0,none⟩),.map none,.slice none 0 0,.int .i64 0,.map none,.pointer (some ⟨x.bh,0,none⟩),.pointer (some ⟨x.bst,0,none⟩),.slice none 0 0,.int .i64 0,.pointer (some ⟨x.bd,0,none⟩),.map (some x.bp),.map (some x.bq),.int .i64 0,.int .i64 tick,.int .i64 (-16),.int .i64 0,.int .i64 0,.int .i64 0,.int .i64 0,.bool false,.int .i64 x.S]⟩ 111 (0,0))]) (vs:=[.pointer (some ⟨x.bN,_,none⟩)]);(iterate 3 exact rfl);(focus (repeat' first|exact Ext.one _ _|apply Ext.cons);done);intro w1 hw1;exact hempty (.slice none 0 0) rfl w1;rintro v Lo ⟨rfl,rfl⟩))|(apply R.pure;exact rfl;first|(apply Ok1.load;exact rfl;(apply Ld.own1;exact rfl;exact rfl;(focus (repeat' first|exact At.head|apply At.tail);done);exact rfl))|(apply Ok1.move;exact rfl)|(apply Ok1.fieldAddr;(iterate 5 exact rfl))|(apply Ok1.assign;exact rfl)|(apply Ok1.extract;exact rfl;exact rfl)|(apply Ok1.pick_t;exact rfl;exact rfl)|(apply Ok1.not_f;exact rfl)|(apply Ok1.nilCheck;exact rfl)))|(apply R.isG;(apply R.guard_not;(iterate 3 exact rfl)))|apply R.nil|(apply T.is;first|apply T.seq|apply T.region|apply T.skip|apply T.ret|(apply T.cond_t;exact rfl)|(apply T.cond_f;exact rfl)))
  all_goals skip
  (apply RetOk.t;exact rfl)
  refine ⟨x.L ⟨t.st,t.sdd,t.la,t.cnt,tick,t.D⟩,?_,.inr ⟨hq,⟨t.st,t.sdd,t.la,t.cnt,tick,t.D⟩,rfl,⟨.inr hst,⟨hsd0,hsd1⟩,⟨hla0,hla1⟩,hc0,⟨by simp only;omega,by simp only;omega⟩⟩,.inl ⟨hst,rfl,rfl,rfl⟩⟩⟩
  unfold NI.L
  rw [hKR]
  unfold NI.N NI.cs
  simp only [List.cons_append,List.nil_append]
  (focus (repeat' first|exact Ext.one _ _|exact Ext.all _|apply Keep.cons|apply Keep.last);done)
theorem ntick_due (x:NI) (hx:x.ok) (t:NST) (ht:t.ok x) (hcnt:t.cnt≤1000) (tick:Int) (hq:¬ (tick≤t.now ∨ 1073741824 < tick)) (hst:t.st=1) (hdu:¬ tick < t.la+16) (w:World):CallM Tryz.prog 10 [.pointer (some ⟨x.bN,0,none⟩),.int .i64 tick] (x.L t) w (NTick x t tick):=by
  obtain ⟨_,⟨hsd0,hsd1⟩,⟨hla0,hla1⟩,hc0,hn0,hn1⟩:=ht
  obtain ⟨hS1,hS4⟩:=hx.S
  have hnr:NR x.boot (t.cnt+1):=by have:=hx.boot;unfold NR;omega
  have hq1:t.now < tick:=by omega
  have hq2:tick≤1073741824:=by omega
  have hsw:=fun w1=>nsweep_ok x hx tick w1
  have hbl:=fun w1=>dbelow_ok x.bd t.D x.S hS1 hS4 w1
  have hgt:∀ {w1:World} {S:List Nat} {L Li Lr:Lst} {q:Nat × Obj},Hp w S L w1→Ext L Li Lr→q∈Lr→w1.heap[q.1]? = some q.2:=fun hw he hq=>hw.get _ _ (he.perm.subset (List.mem_append_right _ hq))
  have hsta:=fun st sd la {w1:World} {S:List Nat} {L:Lst} (hw:Hp w S L w1) (hJ:JN x.bj x.bc x.S st sd la none 0 0∈L)=>jstate_ok x.bj x.bc x.S st sd la none 0 0 w1 ⟨_,_,hw.get _ _ hJ⟩
  have hseat:=fun o now st sd la (h0:0≤sd) (h1:sd≤3) {w1:World} {S:List Nat} {L:Lst} (hw:Hp w S L w1) (hN:x.N o now∈L) (hJ:JN x.bj x.bc x.S st sd la none 0 0∈L)=>nseat_ok x o now w1 (hw.get _ _ hN) st sd la h0 h1 (hw.get _ _ hJ)
  have hini:=fun o now st sd la (hs:st≠3) {w1:World} {S:List Nat} {L:Lst} (hw:Hp w S L w1) (hN:x.N o now∈L) (hJ:JN x.bj x.bc x.S st sd la none 0 0∈L)=>nin_ok x o now w1 (hw.get _ _ hN) st sd la hs (hw.get _ _ hJ)
  have hempty:=fun o (ho:o.oneCell'=true) w1=>empty9_ok x o ho tick w1
  have hpost:=fun p n cap G hn hb q a w1 hp (hpo:G≠[]→Off p (blks [x.N (.slice none 0 0) tick])) hq (hqo:Off q (blks [x.N (.slice none 0 0) tick]))=>post9_ok x tick p n cap G hn hb q a w1 hp hpo hq hqo
  have hGl:∀ seed,(wrG x.c x.s 1 seed x.boot (t.cnt+1) []).length=52:=fun seed=>pkB_len _ _ _ _ _ _ (wrT_len ..)
  obtain ⟨KR,hKR⟩:∃ KR,x.K=x.C::x.R::KR:=⟨_,rfl⟩
  rw [hKR] at hsw
  have hdj:∀ {w1:World} {S:List Nat} {L Lr:Lst},Hp w S L w1→Ext L [JN x.bj x.bc x.S t.st t.sdd t.la none 0 0,CN x.bn x.boot t.cnt] Lr→x.C∈Lr→x.R∈Lr→CallM Tryz.prog 40 [.pointer (some ⟨x.bj,0,none⟩),.int .i64 tick] [JN x.bj x.bc x.S t.st t.sdd t.la none 0 0,CN x.bn x.boot t.cnt] w1 (JDue x.bj x.bc x.bn x.c x.s x.S t.st t.sdd t.la none 0 0 x.boot t.cnt tick):=by
    intro w1 S L Lr hw he hC hR
    exact jdue_ok x.bj x.bc x.bn x.br x.bb x.bdr x.sd _ _ x.c hx.c x.s hx.s hx.b x.m1 x.m2 _ x.S t.st t.sdd t.la hS1 hS4 hsd0 (by omega) hla0 (by omega) none 0 0 x.boot t.cnt hnr hc0 tick w1 (hgt hw he hC) (hgt hw he hR) (RdSl.off hw he hC) (RdSl.off hw he hR)
  obtain ⟨seed,hsdd⟩:∃ seed,seed=(t.sdd+1) % x.S:=⟨_,rfl⟩
  obtain ⟨D2,hD2⟩:∃ D2,D2=t.D:=⟨_,rfl⟩
  have hsd0:0≤seed:=by rw [hsdd];exact Int.emod_nonneg _ (by omega)
  have hsd1:seed < x.S:=by rw [hsdd];exact Int.emod_lt_of_pos _ (by omega)
  have hGl9:=hGl seed
  have hdue2:=fun {w1:World} {S:List Nat} {L Lr:Lst} (hw:Hp w S L w1) he hC hR=>(hdj (Lr:=Lr) hw he hC hR).imp (R':=fun v L=>∃ ov,OvOk 1 ov (wrG x.c x.s 1 seed x.boot (t.cnt+1) []).length (u8s (wrG x.c x.s 1 seed x.boot (t.cnt+1) []))∧v = .tuple #[slV ov (wrG x.c x.s 1 seed x.boot (t.cnt+1) []).length,.bool true]∧L=JN x.bj x.bc x.S 1 seed tick none 0 0::CN x.bn x.boot (t.cnt+1)::blkL 5 ov (u8s (wrG x.c x.s 1 seed x.boot (t.cnt+1) []))) (by
    rintro v L9 (⟨g,_⟩|⟨_,Lo,⟨ov,g1,g2,g3⟩,g4⟩)
    · exact absurd g (by omega)
    · exact ⟨ov,by rw [hsdd];exact g1,by rw [hsdd];exact g2,by rw [g4,g3,hsdd]⟩)
  obtain ⟨G,hG⟩:∃ G,G=wrG x.c x.s 1 seed x.boot (t.cnt+1) []:=⟨_,rfl⟩
  rw [← hG] at hdue2 hGl9
  clear hbl hGl hdj hgt hsdd
  refine enterK (tb:=tb) Tryz.func10 rfl Tryz.ntmps10 rfl ?_
  unfold NI.L
  rw [hKR]
  unfold NI.N NI.cs NI.C NI.R at *
  repeat' (first|(apply R.is1;first|(apply R.isBin;(apply R.pure;exact rfl;first|(apply Ok1.eqlP;(iterate 5 exact rfl))|(apply Ok1.leq_f;exact rfl;exact rfl;omega)|(apply Ok1.gtr_f;exact rfl;exact rfl;omega)))|(apply R.pure;exact rfl;first|(apply Ok1.load;exact rfl;(apply Ld.own1;exact rfl;exact rfl;exact At.head;exact rfl))|(apply Ok1.move;exact rfl)|(apply Ok1.fieldAddr;(iterate 5 exact rfl))|(apply Ok1.assign;exact rfl)|(apply Ok1.pick_f;exact rfl;exact rfl)|(apply Ok1.nilCheck;exact rfl)))|(apply R.is0;(apply R.store;(iterate 6 exact rfl);exact Upd.head;exact rfl))|(apply R.isG;(apply R.guard_run;exact rfl;exact rfl))|apply R.nil|(apply T.is;first|(apply T.stop1 4)|apply T.seq|apply T.region|apply T.skip|(apply T.cond_f;exact rfl)))
  all_goals refine ⟨?_⟩
  refine T.weakK (σ':=[(0,.pointer (some ⟨x.bN,0,none⟩)),(1,.int .i64 tick)]) (L':=((x.bN,.cells ⟨x.cs (.slice none 0 0) tick⟩ 111 (0,0))::(x.bc,.cells ⟨chC x.bn x.br x.bb x.bdr x.sd⟩ 173 (0,0))::(x.br,.cells ⟨ringC x.c x.s x.m1 x.m2⟩ 177 (0,0))::KR)++[JN x.bj x.bc x.S t.st t.sdd t.la none 0 0,CN x.bn x.boot t.cnt,dwB x.bd t.D]) ?_ (by unfold NI.cs;simp only [List.cons_append];(focus (repeat' first|exact Keep.nil _|exact Ext.one _ _|exact Ext.all _|apply Keep.cons|apply Keep.app|apply Ext.cons);done)) ⟨rfl,rfl,trivial⟩
  unfold NI.cs
  repeat' (first|(apply R.is1;first|(apply R.isCall;(apply R.callE (vs:=[.pointer (some ⟨x.bN,0,none⟩)]);(iterate 3 exact rfl);exact Ext.here _ _;intro w1 hw1;exact hsw w1;rintro v Lo rfl))|(apply R.pure;exact rfl;(apply Ok1.move;exact rfl)))|apply R.nil|(apply T.is;first|(apply T.stop 5)|apply T.seq|apply T.region))
  refine ⟨?_⟩
  refine T.weakK (σ':=[(0,.pointer (some ⟨x.bN,0,none⟩)),(1,.int .i64 tick)]) (L':=JN x.bj x.bc x.S t.st t.sdd t.la none 0 0::CN x.bn x.boot t.cnt::dwB x.bd t.D::(x.bN,.cells ⟨x.cs (.slice none 0 0) tick⟩ 111 (0,0))::(x.bc,.cells ⟨chC x.bn x.br x.bb x.bdr x.sd⟩ 173 (0,0))::(x.br,.cells ⟨ringC x.c x.s x.m1 x.m2⟩ 177 (0,0))::KR) ?_ (by unfold NI.cs;simp only [List.cons_append];(focus (repeat' first|exact Ext.one _ _|exact Ext.here _ _|apply Keep.cons|apply Keep.last|apply Ext.cons|apply Ext.app);done)) ⟨rfl,rfl,trivial⟩
  unfold NI.cs
  repeat' (first|(apply R.is1;first|(apply R.isBin;(apply R.pure;exact rfl;(apply Ok1.eql_f;exact rfl;exact rfl;omega)))|(apply R.isCall;first|(apply R.callV (vs:=[.pointer (some ⟨x.bj,0,none⟩)]);(iterate 3 exact rfl);intro w1 hw1;exact hsta _ _ _ hw1 (At.mem (by exact At.head)))|(apply R.callE (Li:=[JN x.bj x.bc x.S t.st t.sdd t.la none 0 0,CN x.bn x.boot t.cnt]) (vs:=[.pointer (some ⟨x.bj,0,none⟩),.int .i64 tick]);(iterate 3 exact rfl);exact Ext.two _ (Ext.one _ _) (Ext.one _ _);intro w1 hw1;exact hdue2 hw1 (Ext.two _ (Ext.one _ _) (Ext.one _ _)) (At.mem (by (focus (repeat' first|exact At.head|apply At.tail);done))) (At.mem (by (focus (repeat' first|exact At.head|apply At.tail);done)));rintro v Lo ⟨ov,hov,rfl,hq9⟩;(obtain ⟨UB,hUB,hub⟩:∃ UB,blkL 5 ov (u8s G)=UB∧∀ q∈blkL 5 ov (u8s G),q∈UB:=⟨_,rfl,fun q h=>h⟩);rw [hq9,hUB,slV_eq hov];simp only [List.cons_append])|(apply R.callE (Li:=[(x.bN,.cells ⟨[.pointer (some ⟨x.bc,0,none⟩),.slice (some ⟨ob,0,none⟩) 1 (1+jn),.pointer (some ⟨x.bj,0,none⟩),.pointer (some ⟨x.bf,0,none⟩),.pointer (some ⟨x.bv,0,none⟩),.map none,.slice none 0 0,.int .i64 0,.map none,.pointer (some ⟨x.bh,0,none⟩),.pointer (some ⟨x.bst,0,none⟩),.slice none 0 0,.int .i64 0,.pointer (some ⟨x.bd,0,none⟩),.map (some x.bp),.map (some x.bq),.int .i64 0,.int .i64 tick,.int .i64 (-16),.int .i64 0,.int .i64 0,.int .i64 0,.int .i64 0,.bool false,.int .i64 x.S]⟩ 111 (0,0))]) (vs:=[.pointer (some ⟨x.bN,_,none⟩)]);(iterate 3 exact rfl);(focus ((repeat' (exact Ext.one _ _));done));intro w1 hw1;exact hempty (.slice (some ⟨ob,0,none⟩) 1 (1+jn)) rfl w1;rintro v Lo ⟨rfl,rfl⟩)|(apply R.callV (vs:=[.pointer (some ⟨x.bN,0,none⟩)]);(iterate 3 exact rfl);intro w1 hw1;exact hini _ tick (1) (seed) (tick) (by omega) hw1 (At.mem (by exact At.head)) (At.mem (by (focus (repeat' first|exact At.head|apply At.tail|apply At.right);done)))))|(apply R.pure;exact rfl;first|(apply Ok1.load;exact rfl;(apply Ld.own1;exact rfl;exact rfl;(focus (repeat' first|exact At.head|apply At.tail);done);exact rfl))|(apply Ok1.move;exact rfl)|(apply Ok1.fieldAddr;(iterate 5 exact rfl))|(apply Ok1.assign;exact rfl)|(apply Ok1.extract;exact rfl;exact rfl)|(apply Ok1.pick_t;exact rfl;exact rfl)|(apply Ok1.not_f;exact rfl)|(apply Ok1.nilCheck;exact rfl)))|(apply R.isG;(apply R.guard_not;(iterate 3 exact rfl)))|apply R.nil|(apply T.is;first|(apply T.drawC (id:=13) [] (by decide);((apply A.tk 0;exact rfl;kernel_rfl;(apply Ok1.move;exact rfl))<;>(apply A.tk 1;exact rfl;kernel_rfl;(apply Ok1.nilCheck;exact rfl))<;>(apply A.tk 2;exact rfl;kernel_rfl;(apply Ok1.fieldAddr;(iterate 5 exact rfl)))<;>(apply A.tk 3;exact rfl;kernel_rfl;(apply Ok1.move;exact rfl))<;>(apply A.tk 4;exact rfl;kernel_rfl;(apply Ok1.move;exact rfl))<;>(apply A.one 5;kernel_rfl;exact rfl;(((apply R.callV (vs:=[.pointer (some ⟨x.bN,0,none⟩)]);(iterate 3 exact rfl);intro w1 hw1;exact hseat (.slice none 0 0) tick 1 seed tick (by omega) (by omega) hw1 (At.mem (by (focus (repeat' first|exact At.head|apply At.tail|apply At.right);done))) (At.mem (by exact At.head)))));apply R.nil;refine ⟨?_,?_⟩;(focus ((repeat' (exact trivial)))))<;>(apply A.one 6;kernel_rfl;exact rfl;(((apply R.buildSlice;(iterate 12 exact rfl);intro)));apply R.nil;refine ⟨?_,?_⟩;(focus ((repeat' (exact trivial)))))<;>(apply A.one 7;kernel_rfl;exact rfl;(((apply R.callE (Li:=[(x.bN,.cells ⟨[.pointer (some ⟨x.bc,0,none⟩),.slice none 0 0,.pointer (some ⟨x.bj,0,none⟩),.pointer (some ⟨x.bf,0,none⟩),.pointer (some ⟨x.bv,0,none⟩),.map none,.slice none 0 0,.int .i64 0,.map none,.pointer (some ⟨x.bh,0,none⟩),.pointer (some ⟨x.bst,0,none⟩),.slice none 0 0,.int .i64 0,.pointer (some ⟨x.bd,0,none⟩),.map (some x.bp),.map (some x.bq),.int .i64 0,.int .i64 tick,.int .i64 (-16),.int .i64 0,.int .i64 0,.int .i64 0,.int .i64 0,.bool false,.int .i64 x.S]⟩ 111 (0,0))]) (vs:=[.pointer (some ⟨x.bN,_,none⟩),.slice _ _ _,.slice (some ⟨_,0,none⟩) 1 1]);(iterate 3 exact rfl);(focus (repeat' first|exact Ext.one _ _|apply Ext.cons|apply Ext.app);done);intro w1 hw1;exact hpost (ovp ov) G.length (ovc ov G.length) G rfl (by omega) _ (65536+seed) w1 (rdown hov hw1 (fun q hq=>Ext.mem (by (focus (repeat' first|exact Ext.here _ _|apply Ext.cons);done)) q (hub q hq))) (fun _=>ovoff hw1 (by (focus (repeat' first|exact Ext.one _ _|apply Ext.cons|apply Ext.app);done)) (fun q hq=>Ext.mem (by (focus (repeat' first|exact Ext.here _ _|apply Ext.cons);done)) q (hub q hq))) (RdSl.ofMem (junk:=[]) hw1 (At.mem (by exact At.head)) rfl) (Off.of hw1 (by (focus (repeat' first|exact Ext.one _ _|apply Ext.cons|apply Ext.app);done)) (by exact At.head));rintro v Lo ⟨ov2,ob,jn,junk,hov2,hjn,rfl⟩;simp only [List.cons_append])));apply R.nil;refine ⟨?_,?_⟩;(focus ((repeat' (exact trivial)))))<;>(apply A.done;kernel_rfl)))|apply T.seq|apply T.region|apply T.skip|apply T.ret|(apply T.cond_t;exact rfl)|(apply T.cond_f;exact rfl)))
  all_goals skip
  (apply RetOk.t;exact rfl)
  refine ⟨(ob,.cells ⟨[.int .i64 (65536+seed),.slice (ovp ov2) G.length (ovc ov2 G.length)]++junk⟩ 53 (0,0))::(blkL 5 ov2 (u8s G)++x.L ⟨1,seed,tick,t.cnt+1,tick,D2⟩),?_,.inr ⟨hq,⟨1,seed,tick,t.cnt+1,tick,D2⟩,rfl,⟨.inr rfl,⟨hsd0,hsd1⟩,⟨by simp only;omega,by simp only;omega⟩,by simp only;omega,⟨by simp only;omega,by simp only;omega⟩⟩,.inr ⟨rfl,ob,jn,junk,ov2,hjn,?_,rfl,?_⟩⟩⟩
  · rw [hD2]
    unfold NI.L
    rw [hKR]
    unfold NI.N NI.cs
    generalize blkL 5 ov2 (u8s G)=U2
    simp only [List.cons_append,List.nil_append]
    (focus (repeat' first|exact Ext.one _ _|exact Ext.here _ _|exact Ext.all _|apply Keep.cons|apply Keep.app|apply Keep.last|apply Ext.cons|apply Ext.app);done)
  · rw [← hG];exact hov2
  · rw [← hG]
theorem ntick_ok (x:NI) (hx:x.ok) (t:NST) (ht:t.ok x) (hcnt:t.cnt≤1000) (tick:Int) (w:World):CallM Tryz.prog 10 [.pointer (some ⟨x.bN,0,none⟩),.int .i64 tick] (x.L t) w (NTick x t tick):=by
  by_cases hq:tick≤t.now ∨ 1073741824 < tick
  · exact ntick_bad x hx t ht hcnt tick hq w
  rcases ht.st with hst|hst
  · exact ntick_out x hx t ht hcnt tick hq hst w
  by_cases hdu:tick < t.la+16
  · exact ntick_wait x hx t ht hcnt tick hq hst hdu w
  · exact ntick_due x hx t ht hcnt tick hq hst hdu w
end Go.Proofs.YtcfdgnajepilbaaGreat
set_option linter.unusedSimpArgs false
set_option linter.unusedVariables false
namespace Go.Proofs.YtcfdgnajepilbaaGreat
open Go.RowKit Go.Shelf Go.Sort
set_option maxRecDepth 100000
def c28:Cl:=⟨5,0,100,1⟩
def k28:List Int:=[48,49,50,51,52,53,54,55,56,57,97,98,99,100,101,102]
theorem hello_E (c:Cl) (to boot cnt:Int) (hr:c.right) (h0:0≤to) (h1:to≤3) (hnr:NR boot cnt):pckE 1 c to boot cnt ([]:List Int).length (zI 32)=0:=by
  unfold pckE
  rw [if_neg (fun h=>h ⟨by decide,by decide⟩),if_neg (fun h=>h ⟨hr,by omega,by omega,hnr⟩),if_neg (by decide),if_neg (fun h=>h.2 rfl)]
theorem zI_byt:Byt (zI 32):=fun y hy=>by have:=List.eq_of_mem_replicate hy;omega
/-- A hello's bytes are read. -/
theorem hello_parse (c:Cl) (s:List Int) (to boot cnt:Int) (hr:c.right) (h0:0≤to) (h1:to≤3) (hnr:NR boot cnt) (p:Option Addr) (n cap:Nat) (hn:n=(wrG c s 1 to boot cnt []).length) (w:World) (hp:RdSl w p u8V (wrG c s 1 to boot cnt [])) :
    CallM Tryz.prog 11 [.slice p n cap] [] w fun v L=>∃ ov,OvOk 1 ov 0 (u8s [])∧v = .tuple #[.agg ⟨pkC 1 c to boot cnt (ovp ov) 0 (ovc ov 0) (zI 32)⟩,.int .i64 0]∧L=blkL 5 ov (u8s []) :=
  parse_wr p n cap 1 c to boot cnt [] (zI 32) rfl zI_byt byt_nil (hello_E c to boot cnt hr h0 h1 hnr) hn w hp
theorem known28_ok:CallP Tryz.prog 14 [] (.bool true):=by
  have hkb:Byt k28:=by intro x hx;simp only [k28,List.mem_cons,List.not_mem_nil,or_false] at hx;omega
  have hkl:k28.length=16:=rfl
  have hr:c28.right:=by decide
  have hsl:=secret_len k28 c28
  have hsb:=secret_byt k28 c28
  have hmk:=fun bk w1 hk=>make_ok c28 hr bk k28 (by decide) hkb w1 hk
  have hcell:u8s k28++[]=[.int .u8 48,.int .u8 49,.int .u8 50,.int .u8 51,.int .u8 52,.int .u8 53,.int .u8 54,.int .u8 55,.int .u8 56,.int .u8 57,.int .u8 97,.int .u8 98,.int .u8 99,.int .u8 100,.int .u8 101,.int .u8 102]:=rfl
  generalize hd:secretI k28 c28=d at *
  have htl:=tk_len (c:=c28) hsl
  have hto:=tk_one c28 d
  have hnn:=fun w1=>nnew_ok c28 hr d hsl hsb 1 2 (by decide) (by decide) 7 w1
  refine enterP (tb:=tb) Tryz.func14 rfl Tryz.ntmps14 rfl fun w0=>?_
  repeat' (first|(apply R.is1;first|(apply R.convSame;(iterate 6 exact rfl);exact Upd.head)|(apply R.isCall;first|(apply R.callE (vs:=[.slice (some ⟨_,0,none⟩) 16 16]);(iterate 3 exact rfl);exact Ext.none _;intro w1 hw1;exact new_ok (some ⟨_,0,none⟩) 16 16 k28 hkl.symm (by decide) w1 (RdSl.of (junk:=[]) hw1 (by exact At.head) (by rw [fl_u8];exact hcell.symm));rintro v Lo ⟨bk,ov,rfl,hov,_,rfl⟩)|(apply R.callV (vs:=[.pointer (some ⟨bk,0,none⟩),.agg _]);(iterate 3 exact rfl);intro w1 hw1;exact hmk bk w1 (KeyR.of hov hw1 (Ext.mem (by (focus ((repeat' (exact Ext.here _ _));done))))))|(apply R.callE (vs:=[.agg ⟨tkC c28 d⟩,.int .i64 1,.int .i64 2,.int .u64 7]);(iterate 3 exact rfl);exact Ext.none _;intro w1 hw1;exact hnn w1;rintro v Lo ⟨x,hx,hxc,hxs,hxb,hxS,rfl,hL⟩))|(apply R.pure;exact rfl;first|(apply Ok1.load;exact rfl;(apply Ld.ownk;exact rfl;exact rfl;exact At.head;exact subE_all htl))|(apply Ok1.move;exact rfl)|(apply Ok1.assign;exact rfl)|(apply Ok1.build;(iterate 5 exact rfl))|(apply Ok1.extract;exact rfl;exact rfl))|(apply R.alloc;(iterate 3 exact rfl);intro)|(apply R.buildSlice;(iterate 12 exact rfl);intro))|(apply R.is0;(apply R.store;(iterate 4 exact rfl);exact htl;exact hto;exact Upd.head;exact setE_all htl))|apply R.nil|(apply T.is;first|(apply T.stop1 3)|apply T.seq|apply T.region))
  refine ⟨?_⟩
  have ht0:NST.ok ⟨0,0,0,0,0,7⟩ x:=⟨.inl rfl,⟨Int.le_refl _,by rw [hxS];decide⟩,⟨by decide,by decide⟩,by decide,⟨by decide,by decide⟩⟩
  have htk:∀ w1,CallM Tryz.prog 10 [.pointer (some ⟨x.bN,0,none⟩),.int .i64 1] Lo w1 fun v L=>∃ (sd:Int) (G:List Int) (ob j:Nat) (junk:List Value) (ov:Ov),0≤sd∧sd < 2∧G=wrG x.c x.s 1 sd x.boot 1 []∧OvOk 1 ov G.length (u8s G)∧v = .slice (some ⟨ob,0,none⟩) 1 (1+j)∧∃ Lr,L=(ob,.cells ⟨[.int .i64 (65536+sd),.slice (ovp ov) G.length (ovc ov G.length)]++junk⟩ 53 (0,0))::(blkL 5 ov (u8s G)++Lr):=by
    intro w1
    rw [hL]
    refine (ntick_ok x hx _ ht0 (by decide) 1 w1).imp ?_
    rintro v L (⟨g,_⟩|⟨_,t2,h1,h2,(⟨g,_⟩|⟨h3,ob,j,junk,ov,h4,h5,h6,h7⟩)⟩)
    · exact absurd g (by decide)
    · exact absurd g (by decide)
    · have e1:t2.cnt=1:=h3
      rw [e1] at h5 h7
      have:=h2.sd
      rw [hxS] at this
      exact ⟨t2.sdd,_,ob,j,junk,ov,this.1,this.2,rfl,h5,h6,_,h7⟩
  have hps:=fun sd (h0:0≤sd) (h1:sd < 2) p n cap hn w1 hp=>hello_parse x.c x.s sd x.boot 1 hx.c h0 (by omega) (show NR x.boot 1 by rw [hxb];decide) p n cap hn w1 hp
  have hl1:=fun sd p2 cap2=>pk_len 1 x.c sd x.boot 1 p2 0 cap2 (t:=zI 32) rfl
  have ho1:=fun sd p2 cap2=>pk_one 1 x.c sd x.boot 1 p2 0 cap2 (zI 32)
  clear hnn hmk hkb hcell
  rename_i b9 b1
  generalize KL bk ov k28=KK at *
  repeat' (first|(apply R.is1;first|(apply R.isBin;(apply R.pure;exact rfl;(apply Ok1.neq_f;exact rfl;exact rfl;omega)))|(apply R.isCall;first|(apply R.callE (Li:=Lo) (vs:=[.pointer (some ⟨x.bN,0,none⟩),.int .i64 1]);(iterate 3 exact rfl);exact Ext.here _ _;intro w1 hw1;exact htk w1;rintro v Lq ⟨sd,G,ob,jn,junk,ovw,hs0,hs1,hG,hovw,rfl,Lr,rfl⟩;simp only [List.cons_append,List.append_assoc])|(apply R.callE (vs:=[.slice (ovp ovw) G.length (ovc ovw G.length)]);(iterate 3 exact rfl);exact Ext.none _;intro w1 hw1;exact hps sd hs0 hs1 (ovp ovw) G.length (ovc ovw G.length) (by rw [hG]) w1 (by rw [← hG];exact rdown hovw hw1 (Ext.mem (by (focus (repeat' first|exact Ext.here _ _|apply Ext.cons);done))));rintro v Lq ⟨ovp2,hovp2,rfl,rfl⟩)|(apply R.pure;exact rfl;(apply Ok1.lenS;(iterate 3 exact rfl))))|(apply R.pure;exact rfl;first|(apply Ok1.load;exact rfl;(apply Ld.own1;exact rfl;exact rfl;exact At.head;exact rfl))|(apply Ok1.move;exact rfl)|(apply Ok1.fieldAddr;(iterate 5 exact rfl))|(apply Ok1.assign;exact rfl)|(apply Ok1.indexAddr;(iterate 5 exact rfl);omega;omega)|(apply Ok1.extract;exact rfl;exact rfl)|(apply Ok1.pick_f;exact rfl;exact rfl))|(apply R.alloc;(iterate 3 exact rfl);intro))|(apply R.is0;(apply R.store;(iterate 4 exact rfl);exact (hl1 _ _ _);exact (ho1 _ _ _);exact Upd.head;exact setE_all (hl1 _ _ _)))|(apply R.isG;(apply R.guard_run;exact rfl;exact rfl))|apply R.nil|(apply T.is;first|(apply T.stop1 7)|apply T.seq|apply T.region|apply T.skip|(apply T.cond_f;exact rfl)))
  rename_i b6
  refine ⟨?_⟩
  refine T.weakK (σ':=[(5,.slice (some ⟨ob,0,none⟩) 1 (1+jn)),(6,.pointer (some ⟨b6,0,none⟩)),(7,.int .i64 0)]) (L':=[(b6,.cells ⟨pkC 1 x.c sd x.boot 1 (ovp ovp2) 0 (ovc ovp2 0) (zI 32)⟩ 48 (0,0)),(ob,.cells ⟨[.int .i64 (65536+sd),.slice (ovp ovw) G.length (ovc ovw G.length)]++junk⟩ 53 (0,0))]) ?_ (by (focus (repeat' first|exact Keep.nil _|exact Ext.one _ _|apply Keep.cons|apply Ext.app);done)) ⟨rfl,rfl,rfl,trivial⟩
  repeat' ((apply T.is;first|(apply T.drawC (id:=7) [0,1] (by decide);((apply A.tk 0;exact rfl;kernel_rfl;(apply Ok1.move;exact rfl))<;>((apply A.tk 1;exact rfl;kernel_rfl;(apply Ok1.eql_t;exact rfl;exact rfl;omega)))<;>(apply A.tk 2;exact rfl;kernel_rfl;(apply Ok1.move;exact rfl))<;>((apply A.tkG 3;(iterate 3 exact rfl);kernel_rfl;(apply Ok1.fieldAddr;(iterate 5 exact rfl))))<;>((apply A.tkG 4;(iterate 3 exact rfl);kernel_rfl;(apply Ok1.load;exact rfl;(apply Ld.own1;exact rfl;exact rfl;exact At.head;exact rfl))))<;>((apply A.tkG 5;(iterate 3 exact rfl);kernel_rfl;(apply Ok1.eql_t;exact rfl;exact rfl;omega)))<;>(apply A.tk 6;exact rfl;kernel_rfl;(apply Ok1.pick_t;exact rfl;exact rfl))<;>(apply A.tk 7;exact rfl;kernel_rfl;(apply Ok1.move;exact rfl))<;>((apply A.tkG 8;(iterate 3 exact rfl);kernel_rfl;(apply Ok1.move;exact rfl)))<;>((apply A.tkG 9;(iterate 3 exact rfl);kernel_rfl;(apply Ok1.indexAddr;(iterate 5 exact rfl);omega;omega)))<;>((apply A.tkG 10;(iterate 3 exact rfl);kernel_rfl;(apply Ok1.fieldAddr;(iterate 5 exact rfl))))<;>((apply A.tkG 11;(iterate 3 exact rfl);kernel_rfl;(apply Ok1.load;exact rfl;(apply Ld.own1;exact rfl;exact rfl;(focus (repeat' first|exact At.head|apply At.tail);done);exact rfl))))<;>((apply A.tkG 12;(iterate 3 exact rfl);kernel_rfl;(apply Ok1.fieldAddr;(iterate 5 exact rfl))))<;>((apply A.tkG 13;(iterate 3 exact rfl);kernel_rfl;(apply Ok1.load;exact rfl;(apply Ld.own1;exact rfl;exact rfl;exact At.head;exact rfl))))<;>((apply A.tkG 14;(iterate 3 exact rfl);kernel_rfl;(apply Ok1.add64;exact rfl;exact rfl;omega;omega)))<;>((apply A.tkG 15;(iterate 3 exact rfl);kernel_rfl;(apply Ok1.eql_t;exact rfl;exact rfl;omega)))<;>(apply A.tk 16;exact rfl;kernel_rfl;(apply Ok1.pick_t;exact rfl;exact rfl))<;>(apply A.tk 17;exact rfl;kernel_rfl;(apply Ok1.move;exact rfl))<;>((apply A.tkG 18;(iterate 3 exact rfl);kernel_rfl;(apply Ok1.fieldAddr;(iterate 5 exact rfl))))<;>((apply A.tkG 19;(iterate 3 exact rfl);kernel_rfl;(apply Ok1.load;exact rfl;(apply Ld.own1;exact rfl;exact rfl;exact At.head;exact rfl))))<;>((apply A.tkG 20;(iterate 3 exact rfl);kernel_rfl;(apply Ok1.lss_t;exact rfl;exact rfl;omega)))<;>(apply A.tk 21;exact rfl;kernel_rfl;(apply Ok1.pick_t;exact rfl;exact rfl))<;>(apply A.tk 22;exact rfl;kernel_rfl;(apply Ok1.assign;exact rfl))<;>(apply A.done;kernel_rfl)))|apply T.seq|apply T.ret))
  all_goals skip
  all_goals (apply RetOk.t;exact rfl)
  all_goals rfl
end Go.Proofs.YtcfdgnajepilbaaGreat
set_option linter.unusedSimpArgs false
set_option linter.unusedVariables false
namespace Go.Proofs.YtcfdgnajepilbaaGreat
open Go.RowKit Go.Shelf
set_option maxRecDepth 100000
theorem nntick_nil:CallP Tryz.prog 10 [.pointer none,.int .i64 1] (.slice none 0 0):=by
  refine enterP (tb:=tb) Tryz.func10 rfl Tryz.ntmps10 rfl fun w=>?_
  repeat' (first|(apply R.is1;first|(apply R.isBin;(apply R.pure;exact rfl;(apply Ok1.eqlP;(iterate 5 exact rfl))))|(apply R.pure;exact rfl;first|(apply Ok1.move;exact rfl)|(apply Ok1.assign;exact rfl)|(apply Ok1.pick_t;exact rfl;exact rfl)))|(apply R.isG;(apply R.guard_not;(iterate 3 exact rfl)))|apply R.nil|(apply T.is;first|apply T.seq|apply T.region|apply T.ret|(apply T.cond_t;exact rfl)))
  all_goals (apply RetOk.t;exact rfl)
  all_goals rfl
theorem nntake_nil (p:Option Addr) (n cap:Nat):CallP Tryz.prog 24 [.pointer none,.int .i64 1,.slice p n cap] (.slice none 0 0):=by
  refine enterP (tb:=tb) Tryz.func24 rfl Tryz.ntmps24 rfl fun w=>?_
  repeat' (first|(apply R.is1;first|(apply R.isBin;(apply R.pure;exact rfl;(apply Ok1.eqlP;(iterate 5 exact rfl))))|(apply R.pure;exact rfl;first|(apply Ok1.move;exact rfl)|(apply Ok1.assign;exact rfl)))|apply R.nil|(apply T.is;first|apply T.seq|apply T.region|apply T.ret|(apply T.cond_t;exact rfl)))
  all_goals (apply RetOk.t;exact rfl)
  all_goals rfl
theorem nnset_nil (p:Option Addr) (n cap:Nat):CallP Tryz.prog 15 [.pointer none,.int .i64 1,.slice p n cap] (.int .i64 11):=by
  refine enterP (tb:=tb) Tryz.func15 rfl Tryz.ntmps15 rfl fun w=>?_
  repeat' (first|(apply R.is1;first|(apply R.isBin;(apply R.pure;exact rfl;(apply Ok1.eqlP;(iterate 5 exact rfl))))|(apply R.pure;exact rfl;first|(apply Ok1.move;exact rfl)|(apply Ok1.assign;exact rfl)))|apply R.nil|(apply T.is;first|apply T.seq|apply T.region|apply T.ret|(apply T.cond_t;exact rfl)))
  all_goals (apply RetOk.t;exact rfl)
  all_goals rfl
theorem nnmembers_nil:CallP Tryz.prog 17 [.pointer none,.int .i64 255] (.slice none 0 0):=by
  refine enterP (tb:=tb) Tryz.func17 rfl Tryz.ntmps17 rfl fun w=>?_
  repeat' (first|(apply R.is1;first|(apply R.isBin;(apply R.pure;exact rfl;(apply Ok1.eqlP;(iterate 5 exact rfl))))|(apply R.pure;exact rfl;first|(apply Ok1.move;exact rfl)|(apply Ok1.assign;exact rfl)))|apply R.nil|(apply T.is;first|apply T.seq|apply T.region|apply T.ret|(apply T.cond_t;exact rfl)))
  all_goals (apply RetOk.t;exact rfl)
  all_goals rfl
theorem nnnotes_nil:CallP Tryz.prog 18 [.pointer none,.int .i64 255] (.slice none 0 0):=by
  refine enterP (tb:=tb) Tryz.func18 rfl Tryz.ntmps18 rfl fun w=>?_
  repeat' (first|(apply R.is1;first|(apply R.isBin;(apply R.pure;exact rfl;(apply Ok1.eqlP;(iterate 5 exact rfl))))|(apply R.pure;exact rfl;first|(apply Ok1.move;exact rfl)|(apply Ok1.assign;exact rfl)))|apply R.nil|(apply T.is;first|apply T.seq|apply T.region|apply T.ret|(apply T.cond_t;exact rfl)))
  all_goals (apply RetOk.t;exact rfl)
  all_goals rfl
theorem nnevents_nil:CallP Tryz.prog 19 [.pointer none,.int .i64 255] (.slice none 0 0):=by
  refine enterP (tb:=tb) Tryz.func19 rfl Tryz.ntmps19 rfl fun w=>?_
  repeat' (first|(apply R.is1;first|(apply R.isBin;(apply R.pure;exact rfl;(apply Ok1.eqlP;(iterate 5 exact rfl))))|(apply R.pure;exact rfl;first|(apply Ok1.move;exact rfl)|(apply Ok1.assign;exact rfl)))|apply R.nil|(apply T.is;first|apply T.seq|apply T.region|apply T.ret|(apply T.cond_t;exact rfl)))
  all_goals (apply RetOk.t;exact rfl)
  all_goals rfl
theorem nnview_nil:CallP Tryz.prog 25 [.pointer none] (.slice none 0 0):=by
  refine enterP (tb:=tb) Tryz.func25 rfl Tryz.ntmps25 rfl fun w=>?_
  repeat' (first|(apply R.is1;first|(apply R.isBin;(apply R.pure;exact rfl;(apply Ok1.eqlP;(iterate 5 exact rfl))))|(apply R.pure;exact rfl;first|(apply Ok1.move;exact rfl)|(apply Ok1.assign;exact rfl)))|apply R.nil|(apply T.is;first|apply T.seq|apply T.region|apply T.ret|(apply T.cond_t;exact rfl)))
  all_goals (apply RetOk.t;exact rfl)
  all_goals rfl
theorem nndrops_nil:CallP Tryz.prog 26 [.pointer none] (.pointer none):=by
  refine enterP (tb:=tb) Tryz.func26 rfl Tryz.ntmps26 rfl fun w=>?_
  repeat' (first|(apply R.is1;first|(apply R.isBin;(apply R.pure;exact rfl;(apply Ok1.eqlP;(iterate 5 exact rfl))))|(apply R.pure;exact rfl;first|(apply Ok1.move;exact rfl)|(apply Ok1.assign;exact rfl)))|apply R.nil|(apply T.is;first|apply T.seq|apply T.region|apply T.ret|(apply T.cond_t;exact rfl)))
  all_goals (apply RetOk.t;exact rfl)
  all_goals rfl
theorem nnstate_nil:CallP Tryz.prog 27 [.pointer none] (.int .i64 0):=by
  refine enterP (tb:=tb) Tryz.func27 rfl Tryz.ntmps27 rfl fun w=>?_
  repeat' (first|(apply R.is1;first|(apply R.isBin;(apply R.pure;exact rfl;(apply Ok1.eqlP;(iterate 5 exact rfl))))|(apply R.pure;exact rfl;first|(apply Ok1.move;exact rfl)|(apply Ok1.assign;exact rfl)))|apply R.nil|(apply T.is;first|apply T.seq|apply T.region|apply T.ret|(apply T.cond_t;exact rfl)))
  all_goals (apply RetOk.t;exact rfl)
  all_goals rfl
theorem nnfresh_nil:CallP Tryz.prog 28 [.pointer none,.int .i64 1] (.bool false):=by
  refine enterP (tb:=tb) Tryz.func28 rfl Tryz.ntmps28 rfl fun w=>?_
  repeat' (first|(apply R.is1;(apply R.pure;exact rfl;(apply Ok1.assign;exact rfl)))|apply R.nil|(apply T.is;first|(apply T.drawC (id:=1) [] (by decide);((apply A.tk 0;exact rfl;kernel_rfl;(apply Ok1.move;exact rfl))<;>((apply A.tk 1;exact rfl;kernel_rfl;(apply Ok1.neqP;(iterate 5 exact rfl))))<;>(apply A.tk 2;exact rfl;kernel_rfl;(apply Ok1.move;exact rfl))<;>((apply A.skG 3;(iterate 3 exact rfl);kernel_rfl))<;>((apply A.skG 4;(iterate 3 exact rfl);kernel_rfl))<;>((apply A.skG 5;(iterate 3 exact rfl);kernel_rfl))<;>((apply A.skG 6;(iterate 3 exact rfl);kernel_rfl))<;>((apply A.skG 7;(iterate 3 exact rfl);kernel_rfl))<;>((apply A.skG 8;(iterate 3 exact rfl);kernel_rfl))<;>((apply A.skG 9;(iterate 3 exact rfl);kernel_rfl))<;>((apply A.skG 10;(iterate 3 exact rfl);kernel_rfl))<;>((apply A.skG 11;(iterate 3 exact rfl);kernel_rfl))<;>(apply A.one 12;kernel_rfl;exact rfl;(((apply R.isG;(apply R.guard_not;(iterate 3 exact rfl)))));apply R.nil;refine ⟨?_,?_⟩;(focus ((repeat' (exact trivial)))))<;>(apply A.tk 13;exact rfl;kernel_rfl;(apply Ok1.pick_f;exact rfl;exact rfl))<;>(apply A.tk 14;exact rfl;kernel_rfl;(apply Ok1.assign;exact rfl))<;>(apply A.done;kernel_rfl)))|apply T.seq|apply T.region|apply T.ret))
  all_goals (apply RetOk.t;exact rfl)
  all_goals rfl
theorem nnrevoked_nil:CallP Tryz.prog 29 [.pointer none] (.pointer none):=by
  refine enterP (tb:=tb) Tryz.func29 rfl Tryz.ntmps29 rfl fun w=>?_
  repeat' (first|(apply R.is1;first|(apply R.isBin;(apply R.pure;exact rfl;(apply Ok1.eqlP;(iterate 5 exact rfl))))|(apply R.pure;exact rfl;first|(apply Ok1.move;exact rfl)|(apply Ok1.assign;exact rfl)))|apply R.nil|(apply T.is;first|apply T.seq|apply T.region|apply T.ret|(apply T.cond_t;exact rfl)))
  all_goals (apply RetOk.t;exact rfl)
  all_goals rfl
theorem nnown_nil:CallP Tryz.prog 8 [.pointer none] (kvC cl0):=by
  refine enterP (tb:=tb) Tryz.func8 rfl Tryz.ntmps8 rfl fun w=>?_
  repeat' (first|(apply R.is1;first|(apply R.isBin;(apply R.pure;exact rfl;(apply Ok1.eqlP;(iterate 5 exact rfl))))|(apply R.pure;exact rfl;first|(apply Ok1.move;exact rfl)|(apply Ok1.build;(iterate 5 exact rfl)))|(apply R.alloc;(iterate 3 exact rfl);intro))|(apply R.is0;(apply R.store;(iterate 6 exact rfl);exact Upd.head;exact rfl))|apply R.nil|(apply T.is;first|apply T.seq|apply T.region|apply T.ret|(apply T.cond_t;exact rfl)))
  all_goals (apply RetOk.c;exact rfl;(apply Ld.ownk;exact rfl;exact rfl;exact At.head;exact rfl))
  all_goals rfl
theorem nnnow_nil:CallP Tryz.prog 9 [.pointer none] (.int .i64 0):=by
  refine enterP (tb:=tb) Tryz.func9 rfl Tryz.ntmps9 rfl fun w=>?_
  repeat' (first|(apply R.is1;first|(apply R.isBin;(apply R.pure;exact rfl;(apply Ok1.eqlP;(iterate 5 exact rfl))))|(apply R.pure;exact rfl;first|(apply Ok1.move;exact rfl)|(apply Ok1.assign;exact rfl)))|apply R.nil|(apply T.is;first|apply T.seq|apply T.region|apply T.ret|(apply T.cond_t;exact rfl)))
  all_goals (apply RetOk.t;exact rfl)
  all_goals rfl
theorem nnleave_nil:CallP Tryz.prog 20 [.pointer none] (.slice none 0 0):=by
  refine enterP (tb:=tb) Tryz.func20 rfl Tryz.ntmps20 rfl fun w=>?_
  repeat' (first|(apply R.is1;first|(apply R.isBin;(apply R.pure;exact rfl;(apply Ok1.eqlP;(iterate 5 exact rfl))))|(apply R.pure;exact rfl;first|(apply Ok1.move;exact rfl)|(apply Ok1.assign;exact rfl)))|apply R.nil|(apply T.is;first|apply T.seq|apply T.region|apply T.ret|(apply T.cond_t;exact rfl)))
  all_goals (apply RetOk.t;exact rfl)
  all_goals rfl
theorem chnew_bad (c:Cl) (s:List Int) (hs:s.length=32) (boot:Int) (h:¬ (c.right∧NR boot 1)) (w:World):CallM Tryz.prog 76 [.agg ⟨tkC c s⟩,.int .i64 boot] [] w fun v L=>v = .tuple #[.pointer none,.int .i64 10]∧L=[]:=by
  have htl:=tk_len (c:=c) hs
  by_cases hr:c.right
  · have hb:=wstart_bad boot (fun g=>h ⟨hr,g⟩)
    have h1:=fun w1=>ring_new c hr s hs w1
    refine enterK (tb:=tb) Tryz.func76 rfl Tryz.ntmps76 rfl ?_
    repeat' (first|(apply R.is1;first|(apply R.isBin;(apply R.pure;exact rfl;first|(apply Ok1.neq_t;exact rfl;exact rfl;omega)|(apply Ok1.neq_f;exact rfl;exact rfl;omega)))|(apply R.isCall;first|(apply R.callE (vs:=[.agg ⟨tkC c s⟩]);(iterate 3 exact rfl);exact Ext.none _;intro w1 hw1;exact h1 w1;rintro x Lo ⟨br,m1,m2,rfl,rfl⟩)|apply R.callP rfl rfl rfl hb)|(apply R.pure;exact rfl;first|(apply Ok1.load;exact rfl;(apply Ld.ownk;exact rfl;exact rfl;exact At.head;exact subE_all htl))|(apply Ok1.move;exact rfl)|(apply Ok1.assign;exact rfl)|(apply Ok1.extract;exact rfl;exact rfl))|(apply R.box;(iterate 3 exact rfl);intro))|apply R.nil|(apply T.is;first|apply T.seq|apply T.region|apply T.skip|apply T.ret|(apply T.cond_t;exact rfl)|(apply T.cond_f;exact rfl)))
    all_goals (apply RetOk.tt;exact rfl;exact rfl)
    all_goals exact ⟨_,by (focus ((repeat' (exact Keep.nil _));done)),rfl,rfl⟩
  · have h1:=ring_bad c hr s hs
    refine enterK (tb:=tb) Tryz.func76 rfl Tryz.ntmps76 rfl ?_
    repeat' (first|(apply R.is1;first|(apply R.isBin;(apply R.pure;exact rfl;(apply Ok1.neq_t;exact rfl;exact rfl;omega)))|(apply R.isCall;apply R.callP rfl rfl rfl h1)|(apply R.pure;exact rfl;first|(apply Ok1.load;exact rfl;(apply Ld.ownk;exact rfl;exact rfl;exact At.head;exact subE_all htl))|(apply Ok1.move;exact rfl)|(apply Ok1.assign;exact rfl)|(apply Ok1.extract;exact rfl;exact rfl))|(apply R.box;(iterate 3 exact rfl);intro))|apply R.nil|(apply T.is;first|apply T.seq|apply T.region|apply T.ret|(apply T.cond_t;exact rfl)))
    all_goals (apply RetOk.tt;exact rfl;exact rfl)
    all_goals exact ⟨_,by (focus ((repeat' (exact Keep.nil _));done)),rfl,rfl⟩
end Go.Proofs.YtcfdgnajepilbaaGreat
set_option linter.unusedSimpArgs false
set_option linter.unusedVariables false
namespace Go.Proofs.YtcfdgnajepilbaaGreat
open Go.RowKit Go.Shelf Go.Sort
set_option maxRecDepth 100000
theorem nnew_bad (c:Cl) (s:List Int) (hs:s.length=32) (boot S D:Int) (hbad:¬ (c.right∧1≤boot∧boot≤65535∧1≤S∧S≤4)) (w:World) :
    CallM Tryz.prog 21 [.agg ⟨tkC c s⟩,.int .i64 boot,.int .i64 S,.int .u64 D] [] w fun v L=>v = .tuple #[.pointer none,.int .i64 (if c.right∧NR boot 1 then 1 else 10)]∧L=[]:=by
  have htl:=tk_len (c:=c) hs
  by_cases h1:c.right∧NR boot 1
  case neg =>
    rw [if_neg h1]
    have hcn:=fun w1=>chnew_bad c s hs boot h1 w1
    refine enterK (tb:=tb) Tryz.func21 rfl Tryz.ntmps21 rfl ?_
    repeat' (first|(apply R.is1;first|(apply R.isBin;(apply R.pure;exact rfl;(apply Ok1.neq_t;exact rfl;exact rfl;omega)))|(apply R.isCall;(apply R.callE (vs:=[.agg ⟨tkC c s⟩,.int .i64 boot]);(iterate 3 exact rfl);exact Ext.none _;intro w1 hw1;exact hcn w1;rintro v Lo ⟨rfl,rfl⟩))|(apply R.pure;exact rfl;first|(apply Ok1.load;exact rfl;(apply Ld.ownk;exact rfl;exact rfl;exact At.head;exact subE_all htl))|(apply Ok1.move;exact rfl)|(apply Ok1.assign;exact rfl)|(apply Ok1.extract;exact rfl;exact rfl))|(apply R.box;(iterate 3 exact rfl);intro))|apply R.nil|(apply T.is;first|apply T.seq|apply T.region|apply T.ret|(apply T.cond_t;exact rfl)))
    all_goals (apply RetOk.tt;exact rfl;exact rfl)
    all_goals exact ⟨_,by (focus ((repeat' (exact Keep.nil _));done)),rfl,rfl⟩
  rw [if_pos h1]
  obtain ⟨hr,hnr⟩:=h1
  have hS:S < 1 ∨ 4 < S:=by
    unfold NR at hnr
    rcases Decidable.em (S < 1 ∨ 4 < S) with h|h
    · exact h
    · exact absurd ⟨hr,by omega,by omega,by omega,by omega⟩ hbad
  have hcn:=fun w1=>chnew_ok c hr s hs boot hnr w1
  have hjn:=fun bc=>jnew_bad (some ⟨bc,0,none⟩) S hS
  refine enterK (tb:=tb) Tryz.func21 rfl Tryz.ntmps21 rfl ?_
  repeat' (first|(apply R.is1;first|(apply R.isBin;(apply R.pure;exact rfl;first|(apply Ok1.neq_t;exact rfl;exact rfl;omega)|(apply Ok1.neq_f;exact rfl;exact rfl;omega)))|(apply R.isCall;first|(apply R.callE (vs:=[.agg ⟨tkC c s⟩,.int .i64 boot]);(iterate 3 exact rfl);exact Ext.none _;intro w1 hw1;exact hcn w1;rintro v Lo ⟨bc,bn,br,bb,bdr,bm,m1,m2,sd,dr,rfl,hCB⟩)|apply R.callP rfl rfl rfl (hjn _))|(apply R.pure;exact rfl;first|(apply Ok1.load;exact rfl;(apply Ld.ownk;exact rfl;exact rfl;exact At.head;exact subE_all htl))|(apply Ok1.move;exact rfl)|(apply Ok1.assign;exact rfl)|(apply Ok1.extract;exact rfl;exact rfl))|(apply R.box;(iterate 3 exact rfl);intro))|apply R.nil|(apply T.is;first|apply T.seq|apply T.region|apply T.skip|apply T.ret|(apply T.cond_t;exact rfl)|(apply T.cond_f;exact rfl)))
  all_goals (apply RetOk.tt;exact rfl;exact rfl)
  all_goals exact ⟨_,by (focus ((repeat' (exact Keep.nil _));done)),rfl,rfl⟩
theorem nodeNil_ok (c:Cl) (boot S:Int) (p:Option Addr) (n cap:Nat) (w:World):CallW Tryz.prog 5 [kvC c,.int .i64 boot,.int .i64 S,.slice p n cap] w fun v _=>v = .bool true:=by
  have hto:=to5_ok c.id c.roles c.exp c.ser
  have hrg:=right_ok c.id c.roles c.exp c.ser
  have hkn:=known28_ok
  have e1:=nntick_nil
  have e2:=fun p n cap=>nntake_nil p n cap
  have e3:=fun p n cap=>nnset_nil p n cap
  have e4:=nnmembers_nil
  have e5:=nnnotes_nil
  have e6:=nnevents_nil
  have e7:=nnview_nil
  have e8:=nndrops_nil
  have e9:=nnstate_nil
  have e10:=nnfresh_nil
  have e11:=nnrevoked_nil
  have e12:=nnown_nil
  have e13:=nnnow_nil
  have e14:=nnleave_nil
  have hsl:(zI 32).length=32:=rfl
  have hex:∃ (q:Option Addr) (E:Int),(∀ w1,CallM Tryz.prog 21 [.agg ⟨tkC c (zI 32)⟩,.int .i64 boot,.int .i64 S,.int .u64 1] [] w1 fun v L=>∃ q2:Option Addr,q2.isSome=q.isSome∧v = .tuple #[.pointer q2,.int .i64 E])∧((c.right∧1≤boot∧boot≤65535∧1≤S∧S≤4∧E=0∧q.isSome=true) ∨ (¬ (c.right∧1≤boot∧boot≤65535∧1≤S∧S≤4)∧E≠0∧q.isSome=false)):=by
    by_cases hg:c.right∧1≤boot∧boot≤65535∧1≤S∧S≤4
    · obtain ⟨h1,h2,h3,h4,h5⟩:=hg
      refine ⟨some ⟨0,0,none⟩,0,fun w1=>(nnew_ok c h1 (zI 32) rfl zI_byt boot S ⟨h2,h3⟩ ⟨h4,h5⟩ 1 w1).imp ?_,.inl ⟨h1,h2,h3,h4,h5,rfl,rfl⟩⟩
      rintro v L ⟨x,_,_,_,_,_,hv,_⟩
      exact ⟨some ⟨x.bN,0,none⟩,rfl,hv⟩
    · have hb9:=fun w1=>nnew_bad c (zI 32) rfl boot S 1 hg w1
      generalize hE9:(if c.right∧NR boot 1 then (1:Int) else 10)=E9 at hb9
      refine ⟨none,E9,fun w1=>(hb9 w1).imp ?_,.inr ⟨hg,?_,rfl⟩⟩
      · rintro v L ⟨hv,_⟩
        exact ⟨none,rfl,hv⟩
      · rw [← hE9]
        split<;>decide
  obtain ⟨q,E,hnn,hcs⟩:=hex
  have htl:=tk_len (c:=c) hsl
  have e0:decide (Cl.right ⟨c.id,c.roles,c.exp,c.ser⟩)=decide c.right:=rfl
  rw [e0] at hrg
  have hcs2:(decide c.right=true∧1≤boot∧boot≤65535∧1≤S∧S≤4∧E=0∧q.isSome=true) ∨ ((decide c.right=false ∨ ¬ (1≤boot∧boot≤65535∧1≤S∧S≤4))∧E≠0∧q.isSome=false):=by
    rcases hcs with ⟨h1,h2⟩|⟨h1,h2⟩
    · exact .inl ⟨decide_eq_true h1,h2⟩
    · refine .inr ⟨?_,h2⟩
      by_cases g:c.right
      · exact .inr fun g2=>h1 ⟨g,g2⟩
      · exact .inl (decide_eq_false g)
  clear hcs e0
  generalize decide c.right=qr at *
  simp only [kvC] at e12 ⊢
  rcases hcs2 with ⟨rfl,h1,h2,h3,h4,rfl,hq⟩|⟨hb,hE,hq⟩
  case' inr=>cases qr
  case' inr.true=>replace hb:¬ (1≤boot∧boot≤65535∧1≤S∧S≤4):=hb.resolve_left (by decide)
  all_goals refine enterW (tb:=tb) Tryz.func5 rfl Tryz.ntmps5 rfl ?_
  all_goals repeat' (first|(apply R.is1;first|(apply R.isBin;first|(apply R.pure;exact rfl;first|(apply Ok1.neqP;(iterate 4 exact rfl);exact (congrArg Value.bool hq2).symm)|(apply Ok1.eqlP;(iterate 5 exact rfl))|(apply Ok1.eqlB2;(iterate 4 exact rfl))|(apply Ok1.lss_t;exact rfl;exact rfl;omega)|(apply Ok1.lss_f;exact rfl;exact rfl;omega)|(apply Ok1.gtr_t;exact rfl;exact rfl;omega)|(apply Ok1.eql_t;exact rfl;exact rfl;omega)|(apply Ok1.eql_f;exact rfl;exact rfl;omega))|(apply R.lss rfl rfl rfl<;>intro)|(apply R.gtr rfl rfl rfl<;>intro)|(apply R.eqlF;(iterate 8 exact rfl);all_goals intro))|(apply R.isCall;first|apply R.callP rfl rfl rfl hto|apply R.callP rfl rfl rfl hrg|apply R.callP rfl rfl rfl hkn|apply R.callP rfl rfl rfl e1|apply R.callP rfl rfl rfl (e2 _ _ _)|apply R.callP rfl rfl rfl (e3 _ _ _)|apply R.callP rfl rfl rfl e4|apply R.callP rfl rfl rfl e5|apply R.callP rfl rfl rfl e6|apply R.callP rfl rfl rfl e7|apply R.callP rfl rfl rfl e8|apply R.callP rfl rfl rfl e9|apply R.callP rfl rfl rfl e10|apply R.callP rfl rfl rfl e11|apply R.callP rfl rfl rfl e12|apply R.callP rfl rfl rfl e13|apply R.callP rfl rfl rfl e14|(apply R.callE (vs:=[.agg ⟨tkC c (zI 32)⟩,.int .i64 boot,.int .i64 S,.int .u64 1]);(iterate 3 exact rfl);exact Ext.none _;intro w1 hw1;exact hnn w1;rintro v Lo ⟨q2,hq2,rfl⟩;rw [hq] at hq2)|(apply R.pure;exact rfl;(apply Ok1.lenS;(iterate 3 exact rfl))))|(apply R.pure;exact rfl;first|(apply Ok1.load;exact rfl;(apply Ld.ownk;exact rfl;exact rfl;(focus (repeat' first|exact At.head|apply At.right);done);exact rfl))|(apply Ok1.move;exact rfl)|(apply Ok1.assign;exact rfl)|(apply Ok1.build;(iterate 5 exact rfl))|(apply Ok1.extract;exact rfl;exact rfl)|(apply Ok1.pick_t;exact rfl;exact rfl)|(apply Ok1.pick_f;exact rfl;exact rfl)|(apply Ok1.not_f;exact rfl))|(apply R.box;(iterate 3 exact rfl);intro))|(apply R.isG;first|(apply R.guard_run;exact rfl;exact rfl)|(apply R.guard_not;(iterate 3 exact rfl)))|apply R.nil|(apply T.is;first|apply T.seq|apply T.region|apply T.ret))
  all_goals first|(exfalso;exact absurd rfl (by assumption))|skip
  all_goals (apply RetOk.t;exact rfl)
  all_goals rfl
end Go.Proofs.YtcfdgnajepilbaaGreat
set_option linter.unusedSimpArgs false
set_option linter.unusedVariables false
namespace Go.Proofs.YtcfdgnajepilbaaGreat
open Go.ChangeShapes Go.WideShapes Go.ChangeAt Go.RowKit
theorem ownJ:ownKnob Tryz.prog.godebug=none:=by kernel_rfl
theorem laidJ:laidOutB Tryz.prog=true:=by kernel_rfl
theorem and_tt {a b:Bool} (h1:a=true) (h2:b=true):(a && b)=true:=by rw [h1,h2];rfl
theorem joined_of {P:Program} {f:FuncId} {fn:Func} {s:ChangeSpec} {c:OpenClaim} (k0:(c.wf (OpenSpec.ofChange s))=true) (k1:(laidOutB P)=true) (k2:(mapsRowed P)=true) (k3:(fn.params.all (P.readableRec ·))=true) (k4:(namedTie P c.named s.vars)=true) (k5:(c.stops == [])=true) (k6:(P.stops == [])=true) (k7:(c.knobs == [])=true) (k8:(P.stopKnobs == [])=true) (k9:(c.inPlace == P.inPlace f)=true) (k10:(c.unfollowed == P.unfollowed f)=true) (k11:(c.recurses == P.recurses f)=true) (k12:(c.named == P.varsNamed f)=true) (k13:(c.maps == (fn.params.toList++s.plain.varTypes P).any (P.mapsRec ·))=true) (k14:(c.ifaces == (fn.params.toList++s.plain.varTypes P).any (P.ifacesRec ·))=true) (k15:(c.mapsOut == P.mapsAmong fn.resultTypes.toList)=true) (k16:(c.loops == (fn.params.toList++s.plain.varTypes P).any (P.loopsFrom ·))=true) (k17:(c.wideKeys == (fn.params.toList++s.plain.varTypes P++fn.resultTypes.toList).any (P.wideKeysFrom ·))=true) (k18:(s.vars.all (P.varReadable ·))=true) (k19:(fn.resultTypes.all (fun t=>P.readableRec t && decide (t < P.types.size)))=true) (k20:(c.ifacesOut == fn.resultTypes.toList.any (P.ifacesRec ·))=true) (k21:(c.loopsOut == fn.resultTypes.toList.any (P.loopsFrom ·))=true) (k22:(c.plainKeys == P.plainKeys)=true) (k23:(c.shortTexts.isNone)=true) (k24:(P.stopsHeard)=true) (k25:(P.mayEnter)=true) (k26:(c.lifted == P.liftsFinal)=true) (k27:(P.make == some c.make)=true) (k28:(c.kinds == (if c.domain.isEmpty then [] else fn.params.toList.map fun t=>match P.underlying t with|some (.int k)=>some k|_=>none))=true) (k29:(c.pinned == c.pinnedBy)=true) (k30:(c.veiled == (fn.params.toList++s.plain.varTypes P++fn.resultTypes.toList).any (P.veiledRec ·))=true) (k31:(c.veiledFits P fn.params.toList (fn.params.toList++s.plain.varTypes P++fn.resultTypes.toList))=true):joinedFacts P f fn s c=true:=by
  unfold joinedFacts
  exact and_tt (and_tt (and_tt (and_tt (and_tt (and_tt (and_tt (and_tt (and_tt (and_tt (and_tt (and_tt (and_tt (and_tt (and_tt (and_tt (and_tt (and_tt (and_tt (and_tt (and_tt (and_tt (and_tt (and_tt (and_tt (and_tt (and_tt (and_tt (and_tt (and_tt (and_tt (k0) k1) k2) k3) k4) k5) k6) k7) k8) k9) k10) k11) k12) k13) k14) k15) k16) k17) k18) k19) k20) k21) k22) k23) k24) k25) k26) k27) k28) k29) k30) k31
def clKsJ:List TK:=[.int .i64,.int .i64,.int .i64,.int .i64]
theorem cl_decJ:∀ cs,allW clKsJ cs→∃ c:Cl,c.v=cs:=by
  rintro cs h
  simp only [clKsJ] at h
  match cs,h with
  | [.int k1 a,.int k2 b,.int k3 c,.int k4 d],h =>
    obtain ⟨⟨rfl,_⟩,⟨rfl,_⟩,⟨rfl,_⟩,⟨rfl,_⟩,_⟩:=h
    exact ⟨⟨a,b,c,d⟩,rfl⟩
def byKsJ:List TK:=[.int .u8]
theorem by_decJ:∀ cs,allW byKsJ cs→∃ x:Int,u8V x=cs:=by
  rintro cs h
  simp only [byKsJ] at h
  match cs,h with
  | [.int k1 a],h =>
    obtain ⟨⟨rfl,_⟩,_⟩:=h
    exact ⟨a,rfl⟩
end Go.Proofs.YtcfdgnajepilbaaGreat
