/- Texts of the proof: K2, Eng29, Kr1, Kr5, Rg1, Kr6, Cp3, Cp4, Cp5, Cp6, Cp7, Cp8, Cp9, Cp10, Cp11, Cp12, Cp13. -/
import Derived.Test.YtijbmkjebidanaaL15pb2
set_option linter.unusedSimpArgs false
set_option linter.unusedVariables false
namespace Go.Proofs.Ytijbmkjebidanaa
open Go.RowKit Go.Shelf Go.Sort
set_option maxRecDepth 100000
/-- The claims of those of which Q says yes,sorted. -/
def ARes (Q:Cl × Nat × Nat→Bool) (b bm:Nat) (es:BS) (clk:Nat) (v:Value) (L:Lst):Prop:=∃ ov cs,cs.Perm (((bms es).filter Q).map (·.1))∧Asc cmpCl cs∧OvOk 4 ov cs.length (fl Cl.v cs)∧v=slV ov cs.length∧L=blkL 34 ov (fl Cl.v cs)++BL b bm es clk
theorem ball_ok (b bm:Nat) (es:BS) (clk:Nat) (hwf:MWf (bms es,clk)) (hlen:es.length≤1000) (f:FuncId) (cb:List Value) (hf:tb.fns.contains f=true) (Q:Cl × Nat × Nat→Bool) (w:World)
    (hcall:∀ m∈bms es,∀ W,Hp w (blks (BL b bm es clk)) (BL b bm es clk) W→CallW Try.prog f ([vvP m.2.1]++cb) W fun v _=>v = .bool (Q m)) :
    CallM Try.prog 49 [.pointer (some ⟨b,0,none⟩),.func (.func f) #[] cb.toArray] (BL b bm es clk) w (ARes Q b bm es clk):=by
  refine enterK (tb:=tb) Try.func49 rfl Try.ntmps49 rfl ?_
  have hbl:=bms_len es
  obtain ⟨S,hS⟩:∃ S,S=blks (BL b bm es clk):=⟨_,rfl⟩
  rw [← hS] at hcall ⊢
  simp only [BL] at hcall ⊢
  repeat' (first|(apply R.is1;first|(apply R.range (kv:=kvC) (vv:=vvP) (ms:=bms es) (clk:=clk);(iterate 4 exact rfl);(focus (repeat' first|exact At.head|apply At.tail|apply At.right);done);intro c)|(apply R.isBin;first|(apply R.pure;exact rfl;first|(apply Ok1.eql_t;exact rfl;exact rfl;omega)|(apply Ok1.eql_f;exact rfl;exact rfl;omega)|(apply Ok1.eqlP;(iterate 5 exact rfl))|(apply Ok1.eqlM;(iterate 5 exact rfl))|(apply Ok1.eqlS;(iterate 5 exact rfl)))|(apply R.eql rfl rfl rfl<;>intro)|(apply R.eqlF;(iterate 8 exact rfl);all_goals intro))|(apply R.pure;exact rfl;first|(apply Ok1.move;exact rfl)|(apply Ok1.fieldAddr;(iterate 5 exact rfl))|(apply Ok1.load;exact rfl;first|(apply Ld.own1;exact rfl;exact rfl;(focus (repeat' first|exact At.head|apply At.tail|apply At.right);done);exact rfl)|(apply Ld.ownk;exact rfl;exact rfl;(focus (repeat' first|exact At.head|apply At.tail|apply At.right);done);exact rfl)|(apply Ld.old1;exact rfl;exact rfl;assumption;(first|exact List.not_mem_nil|assumption))|(apply Ld.blk1;exact rfl;exact rfl;assumption;(first|exact List.not_mem_nil|assumption);exact rfl)|(apply Ld.blkk;exact rfl;exact rfl;assumption;(first|exact List.not_mem_nil|assumption);exact rfl))|(apply Ok1.assign;exact rfl)|(apply Ok1.extract;exact rfl;exact rfl)|(apply Ok1.nilCheck;exact rfl)|(apply Ok1.nilCheckF;exact rfl))|(apply R.alloc;(iterate 3 exact rfl);intro)|(apply R.buildSlice;(iterate 12 exact rfl);intro))|(apply R.is0;first|(apply R.store;(iterate 6 exact rfl);(focus (repeat' first|exact Upd.head|apply Upd.tail|apply Upd.right);done);exact rfl)|fail)|(apply R.isG;first|(apply R.guard_run;exact rfl;exact rfl)|(apply R.guard_not;(iterate 3 exact rfl))|(apply R.guard_not0;exact rfl;exact rfl)|(apply R.guard_un;(iterate 3 exact rfl))|(apply R.guard_un0;exact rfl;exact rfl)|(apply R.guard rfl rfl ?_ (fun h=>⟨rfl,?_⟩)<;>try intro))|apply R.nil|(apply T.is;first|apply T.seq|apply T.region|apply T.block|apply T.scope|apply T.label|apply T.skip|apply T.exit|apply T.ret|(apply T.cond_t;exact rfl)|(apply T.cond_f;exact rfl)|(apply T.cond_h;exact rfl;assumption)|(apply T.cond_n;exact rfl;assumption)|(apply T.cond rfl<;>intro))|apply Rnd.step)
  obtain ⟨flt,hflt⟩:∃ flt:Ms Cl Nat→List Cl,flt=fun vis=>(vis.filter Q).map (·.1):=⟨_,rfl⟩
  have hf1:∀ vis e,Q e=true→flt (vis++[e])=flt vis++[e.1]:=by intro vis e h;subst hflt;simp [h]
  have hf0:∀ vis e,Q e=false→flt (vis++[e])=flt vis:=by intro vis e h;subst hflt;simp [h]
  have hfl:∀ vis,(flt vis).length≤vis.length:=by
    intro vis;subst hflt;rw [List.length_map];exact List.length_filter_le ..
  have hfp:∀ vis,vis.Perm (bms es)→(flt vis).Perm (((bms es).filter Q).map (·.1)):=by
    intro vis h;subst hflt;exact (h.filter Q).map _
  have hfe:flt []=[]:=by subst hflt;rfl
  clear hflt
  apply T.loopK (α:=Ms Cl Nat × Ov) (I:=fun x=>Met (bms es) x.1∧OvOk 4 x.2 (flt x.1).length (fl Cl.v (flt x.1))) (σi:=fun x=>[(1,.func (.func f) #[] cb.toArray),(5,slV x.2 (flt x.1).length),(14,.pointer (some ⟨c,0,none⟩))])
    (Li:=fun x=>(c,.mapIter (some bm) clk ⟨x.1.map (·.2.2)⟩ clk)::(b,.cells ⟨[.map (some bm)]⟩ 96 (0,0))::(bm,mobj kvC vvP (bms es) clk)::(bls es++blkL 34 x.2 (fl Cl.v (flt x.1)))) (μ:=fun x=>(bms es).length - x.1.length) (i0:=([],none))
  · simp only [hfe];exact ⟨Met.start _,OvOk.start 4⟩
  · simp only [hfe];exact ⟨rfl,rfl,rfl,trivial⟩
  · simp only [blkL,List.append_nil]
    (focus (repeat' first|exact Keep.nil _|exact Ext.one _ _|exact Ext.here _ _|exact Ext.all _|apply Keep.cons|apply Keep.app|apply Keep.last|apply Ext.cons|apply Ext.app);done)
  · rintro ⟨vis,ov⟩ ⟨hmet,hov⟩
    simp only at hmet hov ⊢
    have hvl:vis.length≤(bms es).length:=nodup_sub_len (nodup_map_born hmet.nd) hmet.sub
    have hfl1:=hfl vis
    repeat' (first|(apply R.is1;first|(apply R.next (kv:=kvC) (vv:=vvP) (ms:=bms es);exact rfl;exact rfl;(focus (repeat' first|exact At.head|apply At.tail|apply At.right);done);(focus (repeat' first|exact At.head|apply At.tail|apply At.right);done);exact hwf.bnd;intro hall;rotate_left 1;intro e he hne;apply Exists.intro;apply And.intro;(focus (repeat' first|exact Upd.head|apply Upd.tail|apply Upd.right);done))|(apply R.isBin;first|(apply R.pure;exact rfl;first|(apply Ok1.eql_t;exact rfl;exact rfl;omega)|(apply Ok1.eql_f;exact rfl;exact rfl;omega)|(apply Ok1.eqlP;(iterate 5 exact rfl))|(apply Ok1.eqlM;(iterate 5 exact rfl))|(apply Ok1.eqlS;(iterate 5 exact rfl)))|(apply R.eql rfl rfl rfl<;>intro)|(apply R.eqlF;(iterate 8 exact rfl);all_goals intro))|(apply R.isCall;first|(apply R.callFV (fa:=[]) (cb:=cb);exact rfl;exact hf;exact rfl;exact rfl;intro w1 hw1;exact hcall e he w1 (hw1.keep (by (focus (repeat' first|exact Keep.nil _|exact Ext.one _ _|exact Ext.here _ _|exact Ext.all _|apply Keep.cons|apply Keep.app|apply Keep.last|apply Ext.cons|apply Ext.app);done))))|(apply R.append1;(iterate 12 exact rfl);(focus (repeat' first|exact OwnAt.mid hov|exact OwnAt.base hov|exact OwnAt.nil _|apply OwnAt.tail|apply OwnAt.right);done);(focus (repeat' first|exact At.head|apply At.tail|apply At.right);done);exact rfl;exact rfl;omega;omega;intro b2 j2 k2 hj2))|(apply R.pure;exact rfl;first|(apply Ok1.entry;exact rfl;(focus (repeat' first|exact At.head|apply At.tail|apply At.right);done);(focus (repeat' first|exact At.head|apply At.tail|apply At.right);done);assumption;exact hwf.nd)|(apply Ok1.move;exact rfl)|(apply Ok1.fieldAddr;(iterate 5 exact rfl))|(apply Ok1.load;exact rfl;first|(apply Ld.own1;exact rfl;exact rfl;(focus (repeat' first|exact At.head|apply At.tail|apply At.right);done);exact rfl)|(apply Ld.ownk;exact rfl;exact rfl;(focus (repeat' first|exact At.head|apply At.tail|apply At.right);done);exact rfl)|(apply Ld.old1;exact rfl;exact rfl;assumption;(first|exact List.not_mem_nil|assumption))|(apply Ld.blk1;exact rfl;exact rfl;assumption;(first|exact List.not_mem_nil|assumption);exact rfl)|(apply Ld.blkk;exact rfl;exact rfl;assumption;(first|exact List.not_mem_nil|assumption);exact rfl))|(apply Ok1.assign;exact rfl)|(apply Ok1.extract;exact rfl;exact rfl)|(apply Ok1.nilCheck;exact rfl)|(apply Ok1.nilCheckF;exact rfl))|(apply R.alloc;(iterate 3 exact rfl);intro)|(apply R.buildSlice;(iterate 12 exact rfl);intro))|(apply R.is0;first|(apply R.store;(iterate 6 exact rfl);(focus (repeat' first|exact Upd.head|apply Upd.tail|apply Upd.right);done);exact rfl)|fail)|(apply R.isG;first|(apply R.guard_run;exact rfl;exact rfl)|(apply R.guard_not;(iterate 3 exact rfl))|(apply R.guard_not0;exact rfl;exact rfl)|(apply R.guard_un;(iterate 3 exact rfl))|(apply R.guard_un0;exact rfl;exact rfl)|(apply R.guard rfl rfl ?_ (fun h=>⟨rfl,?_⟩)<;>try intro))|apply R.nil|(apply T.is;first|apply T.seq|apply T.region|apply T.block|apply T.scope|apply T.label|apply T.skip|apply T.exit|apply T.ret|(apply T.cond_t;exact rfl)|(apply T.cond_f;exact rfl)|(apply T.cond_h;exact rfl;assumption)|(apply T.cond_n;exact rfl;assumption)|(apply T.cond rfl<;>intro))|apply Rnd.step)
    · refine ⟨(vis++[e],some (b2,j2,k2)),⟨hmet.step he hne,?_⟩,?_,?_,?_⟩
      · have:=hov.some (b:=b2) (ys:=Cl.v e.1) (m:=1) rfl hj2
        simpa only [hf1 vis e ‹_›,List.length_append,List.length_cons,List.length_nil,fl_snoc] using this
      · have:=hmet.le hwf.nd he hne
        simp only [List.length_append,List.length_cons,List.length_nil]
        omega
      · simp only [hf1 vis e ‹_›,List.length_append,List.length_cons,List.length_nil]
        exact ⟨rfl,rfl,rfl,trivial⟩
      · simp only [hf1 vis e ‹_›,List.map_append,List.map_cons,List.map_nil,fl_snoc]
        (focus (repeat' first|exact Keep.nil _|exact Ext.one _ _|exact Ext.here _ _|exact Ext.all _|apply Keep.cons|apply Keep.app|apply Keep.last|apply Ext.cons|apply Ext.app);done)
    · refine ⟨(vis++[e],ov),⟨hmet.step he hne,?_⟩,?_,?_,?_⟩
      · simp only [hf0 vis e ‹_›];exact hov
      · have:=hmet.le hwf.nd he hne
        simp only [List.length_append,List.length_cons,List.length_nil]
        omega
      · simp only [hf0 vis e ‹_›];exact ⟨rfl,rfl,rfl,trivial⟩
      · simp only [hf0 vis e ‹_›,List.map_append,List.map_cons,List.map_nil]
        (focus (repeat' first|exact Keep.nil _|exact Ext.one _ _|exact Ext.here _ _|exact Ext.all _|apply Keep.cons|apply Keep.app|apply Keep.last|apply Ext.cons|apply Ext.app);done)
    · have hperm:vis.Perm (bms es):=hmet.perm hwf.nd hall
      have hsort:=fun w1=>sortC_ok (flt vis) (by omega) ov hov w1
      repeat' (first|(apply R.is1;first|(apply R.isBin;first|(apply R.pure;exact rfl;first|(apply Ok1.eql_t;exact rfl;exact rfl;omega)|(apply Ok1.eql_f;exact rfl;exact rfl;omega)|(apply Ok1.eqlP;(iterate 5 exact rfl))|(apply Ok1.eqlM;(iterate 5 exact rfl))|(apply Ok1.eqlS;(iterate 5 exact rfl)))|(apply R.eql rfl rfl rfl<;>intro)|(apply R.eqlF;(iterate 8 exact rfl);all_goals intro))|(apply R.isCall;first|(apply R.callE;(iterate 3 exact rfl);(focus (exact Ext.cons _ (Ext.cons _ (Ext.cons _ (Ext.app _ (Ext.all _))))));intro w1 hw1;exact hsort w1;rintro v Lo ⟨rfl,cs,hp',hasc,rfl⟩))|(apply R.pure;exact rfl;first|(apply Ok1.move;exact rfl)|(apply Ok1.fieldAddr;(iterate 5 exact rfl))|(apply Ok1.load;exact rfl;first|(apply Ld.own1;exact rfl;exact rfl;(focus (repeat' first|exact At.head|apply At.tail|apply At.right);done);exact rfl)|(apply Ld.ownk;exact rfl;exact rfl;(focus (repeat' first|exact At.head|apply At.tail|apply At.right);done);exact rfl)|(apply Ld.old1;exact rfl;exact rfl;assumption;(first|exact List.not_mem_nil|assumption))|(apply Ld.blk1;exact rfl;exact rfl;assumption;(first|exact List.not_mem_nil|assumption);exact rfl)|(apply Ld.blkk;exact rfl;exact rfl;assumption;(first|exact List.not_mem_nil|assumption);exact rfl))|(apply Ok1.assign;exact rfl)|(apply Ok1.extract;exact rfl;exact rfl)|(apply Ok1.nilCheck;exact rfl)|(apply Ok1.nilCheckF;exact rfl))|(apply R.alloc;(iterate 3 exact rfl);intro)|(apply R.buildSlice;(iterate 12 exact rfl);intro))|(apply R.is0;first|(apply R.store;(iterate 6 exact rfl);(focus (repeat' first|exact Upd.head|apply Upd.tail|apply Upd.right);done);exact rfl)|fail)|(apply R.isG;first|(apply R.guard_run;exact rfl;exact rfl)|(apply R.guard_not;(iterate 3 exact rfl))|(apply R.guard_not0;exact rfl;exact rfl)|(apply R.guard_un;(iterate 3 exact rfl))|(apply R.guard_un0;exact rfl;exact rfl)|(apply R.guard rfl rfl ?_ (fun h=>⟨rfl,?_⟩)<;>try intro))|apply R.nil|(apply T.is;first|apply T.seq|apply T.region|apply T.block|apply T.scope|apply T.label|apply T.skip|apply T.exit|apply T.ret|(apply T.cond_t;exact rfl)|(apply T.cond_f;exact rfl)|(apply T.cond_h;exact rfl;assumption)|(apply T.cond_n;exact rfl;assumption)|(apply T.cond rfl<;>intro))|apply Rnd.step)
      have hl:(flt vis).length=cs.length:=hp'.length_eq.symm
      (apply RetOk.t;exact rfl)
      refine ⟨blkL 34 ov (fl Cl.v cs)++BL b bm es clk,?_,ov,cs,hp'.trans (hfp vis hperm),hasc,?_,by rw [hl],rfl⟩
      · simp only [BL,List.append_nil]
        (focus (repeat' first|exact Keep.nil _|exact Ext.one _ _|exact Ext.here _ _|exact Ext.all _|apply Keep.cons|apply Keep.app|apply Keep.last|apply Ext.cons|apply Ext.app);done)
      · rw [← hl];exact ⟨by rw [fl_len Cl.v_len,← hl],hov.2⟩
theorem wanted1_ok (a:Nat) (x:En) (fz:Nat × Nat) (w:World) (hb:w.heap[a]? = some (.cells ⟨x.v⟩ 103 fz)):CallW Try.prog 79 [vvP a] w fun v _=>v = .bool x.key.isNone:=by
  refine enterW (tb:=tb) Try.func79 rfl Try.ntmps79 rfl ?_
  simp only [vvP]
  simp only [En.v] at hb
  repeat' (first|(apply R.is1;first|(apply R.isBin;first|(apply R.pure;exact rfl;first|(apply Ok1.eql_t;exact rfl;exact rfl;omega)|(apply Ok1.eql_f;exact rfl;exact rfl;omega)|(apply Ok1.eqlP;(iterate 5 exact rfl))|(apply Ok1.eqlM;(iterate 5 exact rfl))|(apply Ok1.eqlS;(iterate 5 exact rfl)))|(apply R.eql rfl rfl rfl<;>intro)|(apply R.eqlF;(iterate 8 exact rfl);all_goals intro))|(apply R.pure;exact rfl;first|(apply Ok1.move;exact rfl)|(apply Ok1.fieldAddr;(iterate 5 exact rfl))|(apply Ok1.load;exact rfl;first|(apply Ld.own1;exact rfl;exact rfl;(focus (repeat' first|exact At.head|apply At.tail|apply At.right);done);exact rfl)|(apply Ld.ownk;exact rfl;exact rfl;(focus (repeat' first|exact At.head|apply At.tail|apply At.right);done);exact rfl)|(apply Ld.old1;exact rfl;exact rfl;assumption;(first|exact List.not_mem_nil|assumption))|(apply Ld.blk1;exact rfl;exact rfl;assumption;(first|exact List.not_mem_nil|assumption);exact rfl)|(apply Ld.blkk;exact rfl;exact rfl;assumption;(first|exact List.not_mem_nil|assumption);exact rfl))|(apply Ok1.assign;exact rfl)|(apply Ok1.nilCheck;exact rfl)|(apply Ok1.nilCheckF;exact rfl)))|(apply R.is0;first|fail)|(apply R.isG;first|(apply R.guard_run;exact rfl;exact rfl)|(apply R.guard_not;(iterate 3 exact rfl))|(apply R.guard_not0;exact rfl;exact rfl)|(apply R.guard_un;(iterate 3 exact rfl))|(apply R.guard_un0;exact rfl;exact rfl)|(apply R.guard rfl rfl ?_ (fun h=>⟨rfl,?_⟩)<;>try intro))|apply R.nil|(apply T.is;first|apply T.seq|apply T.region|apply T.block|apply T.scope|apply T.label|apply T.skip|apply T.exit|apply T.ret|(apply T.cond_t;exact rfl)|(apply T.cond_f;exact rfl)|(apply T.cond_h;exact rfl;assumption)|(apply T.cond_n;exact rfl;assumption)|(apply T.cond rfl<;>intro))|apply Rnd.step)
  (apply RetOk.t;exact rfl)
  rfl
theorem bms_mem {es:BS} {m:Cl × Nat × Nat} (h:m∈bms es):∃ x∈es,m=(x.c,x.blk,x.born):=by
  obtain ⟨x,hx,e⟩:=List.mem_map.1 h
  exact ⟨x,hx,e.symm⟩
theorem BL_mem {b bm:Nat} {es:BS} {clk:Nat} {x:BE} (h:x∈es):(x.blk,Obj.cells ⟨x.e.v⟩ 103 (0,0))∈BL b bm es clk:=List.mem_cons_of_mem _ (List.mem_cons_of_mem _ (List.mem_map.2 ⟨x,h,rfl⟩))
end Go.Proofs.Ytijbmkjebidanaa
set_option linter.unusedSimpArgs false
set_option linter.unusedVariables false
namespace Go.Proofs.Ytijbmkjebidanaa
open Go.RowKit Go.Shelf
section
variable {X:Cx} {σ:Env} {L:Lst} {ty t:TypeId} {pos:String} {af:Array Edge} {x y:Operand} {r:TRow}
end
section
variable {X:Cx} {σ:Env} {L:Lst} {ty t:TypeId} {pos:String} {af:Array Edge} {x y:Operand} {r:TRow} {xs ys:List Value} {ks:List TK}
end
/-- The walk stops here. -/
structure Stop (p:Prop):Prop where
  of:p
section
variable {X:Cx} {Q:Post} {σ:Env} {L:Lst}
theorem T.stop (i:Nat) {ops:Array Oper} {g:Bool} {c d:Code} (h:Stop (T X (.seq (.seq (.region i ops g) c) d) Q σ L)):T X (.seq (.seq (.region i ops g) c) d) Q σ L:=h.of
theorem T.stop1 (i:Nat) {ops:Array Oper} {g:Bool} {d:Code} (h:Stop (T X (.seq (.region i ops g) d) Q σ L)):T X (.seq (.region i ops g) d) Q σ L:=h.of
end
section
variable {X:Cx} {σ:Env} {L Lr:Lst} {d:Option Nat} {dd:Nat} {ty:TypeId} {pos:String} {af:Array Edge} {g:Option (Nat × Bool)} {x y:Operand} {t t2 e:TypeId} {r r2 re:TRow}
variable {all:Array Oper} {rest:List Oper} {K:Env→Lst→Prop} {p:Option Addr} {n cap i:Nat}
end
section
variable {X:Cx} {σ:Env} {L Lr:Lst} {d:Option Nat} {ty:TypeId} {pos:String} {af:Array Edge} {g:Option (Nat × Bool)} {x:Operand} {t e:TypeId} {r re:TRow} {p:Option Addr} {n m cap b o i:Nat}
end
set_option maxRecDepth 100000
/-- A key in blocks of one's own. -/
structure KE where
  bk:Nat
  ov:Ov
  K:List Int
def KE.L (x:KE):Lst:=KL x.bk x.ov x.K
def KE.ok (x:KE):Prop:=OvOk 1 x.ov x.K.length (u8s x.K)
section
variable (br:Nat) (c:Cl) (s:List Int) (hs:s.length=32) (m1 m2:Nat) (e9:TypeId) (f9:Nat × Nat)
end
end Go.Proofs.Ytijbmkjebidanaa
set_option linter.unusedSimpArgs false
set_option linter.unusedVariables false
set_option linter.unusedSectionVars false
namespace Go.Proofs.Ytijbmkjebidanaa
open Go.RowKit Go.Shelf Go.Sort
set_option maxRecDepth 100000
theorem lessCl_iff7 (c d:Cl):lessCl c d=true ↔ ltC c d:=by
  unfold lessCl ltC
  repeat' split
  all_goals simp only [decide_eq_true_eq,Bool.false_eq_true,false_iff]
  all_goals omega
theorem sortedC_one7 {xs a b:List Cl} (pa:a.Perm xs) (pb:b.Perm xs) (ha:Asc cmpCl a) (hb:Asc cmpCl b):a=b:=by
  refine List.Perm.eq_of_pairwise (le:=fun x y=>¬ cmpCl y x < 0) (fun x y _ _ h1 h2=>?_) ha hb (pa.trans pb.symm)
  rw [cmpCl_neg] at h1 h2
  exact ltC_total h2 h1
theorem ltC_asym {a b:Cl} (h:ltC a b):¬ ltC b a:=by unfold ltC at *;omega
theorem ltC_trans {a b c:Cl} (h:ltC a b) (h2:ltC b c):ltC a c:=by unfold ltC at *;omega
theorem asc_iff {l:List Cl}:Asc cmpCl l ↔ l.Pairwise (fun a b=>¬ ltC b a):=by
  unfold Asc
  simp only [cmpCl_neg]
end Go.Proofs.Ytijbmkjebidanaa
set_option linter.unusedSimpArgs false
set_option linter.unusedVariables false
namespace Go.Proofs.Ytijbmkjebidanaa
open Go.RowKit Go.Shelf
set_option maxRecDepth 100000
theorem ovoff {ov:Ov} {xs:List Value} {e:Nat} {w0 w:World} {S:List Nat} {L Li Lr:Lst} (hw:Hp w0 S L w) (he:Ext L Li Lr) (hin:∀ z∈blkL e ov xs,z∈Lr):Off (ovp ov) (blks Li):=by
  intro a ha
  cases ov with
  | none=>cases ha
  | some q =>
    obtain ⟨b,j,junk⟩:=q
    cases ha
    exact RdSl.off hw he (hin _ List.mem_cons_self)
theorem u64_range7 (v:Int):0≤IntKind.u64.wrap v∧IntKind.u64.wrap v≤18446744073709551615:=by
  have:IntKind.u64.wrap v=v % 18446744073709551616:=by simp [IntKind.wrap,IntKind.bits,IntKind.signed]
  omega
theorem KeyR.stay7 {ov:Ov} {bk:Nat} {xs:List Int} (hov:OvOk 1 ov xs.length (u8s xs)) {w0 w:World} {S:List Nat} {L Li Lr:Lst} (hw:Hp w0 S L w) (he:Ext L Li Lr) (hin:∀ z∈KL bk ov xs,z∈Lr):∀ w1,Chg (blks Li) w w1→KeyR w1 bk xs:=fun w1 hc=>by
  refine ⟨ovp ov,ovc ov xs.length,?_,(rdown hov hw fun z hz=>he.perm.subset (List.mem_append_right _ (hin z (List.mem_cons_of_mem _ hz)))).chg' hc fun _=>ovoff hw he fun z hz=>hin z (List.mem_cons_of_mem _ hz)⟩
  rw [← slV_eq hov]
  exact hc.heap (hw.get _ _ (he.perm.subset (List.mem_append_right _ (hin _ List.mem_cons_self)))) (RdSl.off hw he (hin _ List.mem_cons_self))
/-- A book's two blocks;the same with an entry's. -/
def B2L (b bm:Nat) (ms:Ms Cl Nat) (clk:Nat):Lst:=[(b,.cells ⟨[.map (some bm)]⟩ 96 (0,0)),(bm,mobj kvC vvP ms clk)]
def B3L (b bm:Nat) (ms:Ms Cl Nat) (clk blk:Nat) (x:En):Lst:=[(b,.cells ⟨[.map (some bm)]⟩ 96 (0,0)),(bm,mobj kvC vvP ms clk),(blk,.cells ⟨x.v⟩ 103 (0,0))]
section
variable (b bm:Nat) (ms:Ms Cl Nat) (clk:Nat) (c:Cl)
theorem lenC_ok (w:World):CallM Try.prog 55 [.pointer (some ⟨b,0,none⟩)] (B2L b bm ms clk) w fun v L=>v = .int .i64 ms.length∧L=B2L b bm ms clk:=by
  refine enterK (tb:=tb) Try.func55 rfl Try.ntmps55 rfl ?_
  simp only [B2L]
  repeat' (first|(apply R.is1;first|(apply R.isBin;(apply R.pure;exact rfl;(apply Ok1.eqlP;(iterate 5 exact rfl))))|(apply R.isCall;(apply R.pure;exact rfl;(apply Ok1.lenMm;(iterate 3 exact rfl);(focus (repeat' first|exact At.head|apply At.tail);done))))|(apply R.pure;exact rfl;first|(apply Ok1.load;exact rfl;(apply Ld.own1;exact rfl;exact rfl;exact At.head;exact rfl))|(apply Ok1.move;exact rfl)|(apply Ok1.fieldAddr;(iterate 5 exact rfl))|(apply Ok1.assign;exact rfl)|(apply Ok1.nilCheck;exact rfl)))|apply R.nil|(apply T.is;first|apply T.seq|apply T.region|apply T.skip|apply T.ret|(apply T.cond_f;exact rfl)))
  (apply RetOk.t;exact rfl)
  exact ⟨_,by (focus (repeat' first|exact Keep.nil _|exact Ext.one _ _|apply Keep.cons);done),rfl,rfl⟩
theorem knownC_none (hm:mget c ms=none) (w:World):CallM Try.prog 53 [.pointer (some ⟨b,0,none⟩),kvC c] (B2L b bm ms clk) w fun v L=>v = .tuple #[.pointer none,.int .i64 7]∧L=B2L b bm ms clk:=by
  refine enterK (tb:=tb) Try.func53 rfl Try.ntmps53 rfl ?_
  simp only [kvC,B2L]
  repeat' (first|(apply R.is1;first|(apply R.isBin;(apply R.pure;exact rfl;(apply Ok1.eqlP;(iterate 5 exact rfl))))|(apply R.pure;exact rfl;first|(apply Ok1.move;exact rfl)|(apply Ok1.assign;exact rfl))|(apply R.box;(iterate 3 exact rfl);intro))|apply R.nil|(apply T.is;first|(apply T.drawC (id:=3) [0,1,2] (by decide);((apply A.tk 0;exact rfl;kernel_rfl;(apply Ok1.move;exact rfl))<;>(apply A.tk 1;exact rfl;kernel_rfl;(apply Ok1.nilCheck;exact rfl))<;>(apply A.tk 2;exact rfl;kernel_rfl;(apply Ok1.fieldAddr;(iterate 5 exact rfl)))<;>(apply A.tk 3;exact rfl;kernel_rfl;(apply Ok1.load;exact rfl;(apply Ld.own1;exact rfl;exact rfl;(focus (repeat' first|exact At.head|apply At.tail);done);exact rfl)))<;>(apply A.tk 4;exact rfl;kernel_rfl;(apply Ok1.load;exact rfl;(apply Ld.ownk;exact rfl;exact rfl;exact At.head;exact rfl)))<;>(apply A.tk 5;exact rfl;kernel_rfl;(apply Ok1.lookup_none (kv:=kvC) (vv:=vvP) c ktK;(iterate 6 exact rfl);(focus (repeat' first|exact At.head|apply At.tail);done);assumption;(exact (if_neg Bool.false_ne_true).symm)))<;>((apply A.tk 6;exact rfl;kernel_rfl;(apply Ok1.eqlP;(iterate 5 exact rfl))))<;>(apply A.tk 7;exact rfl;kernel_rfl;(apply Ok1.assign;exact rfl))<;>(apply A.done;kernel_rfl)))|apply T.seq|apply T.region|apply T.block|apply T.ret|(apply T.cond_t;exact rfl)|(apply T.cond_f;exact rfl)))
  (apply RetOk.tt;exact rfl;exact rfl)
  exact ⟨_,by (focus (repeat' first|exact Keep.nil _|exact Ext.one _ _|apply Keep.cons|apply Ext.cons);done),rfl,rfl⟩
theorem knownC_wanted (blk:Nat) (x:En) (hm:mget c ms=some blk) (hk:x.key=none) (w:World):CallM Try.prog 53 [.pointer (some ⟨b,0,none⟩),kvC c] (B3L b bm ms clk blk x) w fun v L=>v = .tuple #[.pointer none,.int .i64 11]∧L=B3L b bm ms clk blk x:=by
  obtain ⟨wb,wc,bits,key,asked⟩:=x
  simp only at hk
  subst hk
  have e0:En.v ⟨wb,wc,bits,none,asked⟩=[.int .i64 wb,.int .i64 wc,.int .u64 bits,.pointer none,.int .i64 asked]:=rfl
  refine enterK (tb:=tb) Try.func53 rfl Try.ntmps53 rfl ?_
  simp only [kvC,B3L,e0]
  repeat' (first|(apply R.is1;first|(apply R.isBin;(apply R.pure;exact rfl;(apply Ok1.eqlP;(iterate 5 exact rfl))))|(apply R.pure;exact rfl;first|(apply Ok1.move;exact rfl)|(apply Ok1.assign;exact rfl))|(apply R.box;(iterate 3 exact rfl);intro))|apply R.nil|(apply T.is;first|(apply T.drawC (id:=3) [0,1,2] (by decide);((apply A.tk 0;exact rfl;kernel_rfl;(apply Ok1.move;exact rfl))<;>(apply A.tk 1;exact rfl;kernel_rfl;(apply Ok1.nilCheck;exact rfl))<;>(apply A.tk 2;exact rfl;kernel_rfl;(apply Ok1.fieldAddr;(iterate 5 exact rfl)))<;>(apply A.tk 3;exact rfl;kernel_rfl;(apply Ok1.load;exact rfl;(apply Ld.own1;exact rfl;exact rfl;(focus (repeat' first|exact At.head|apply At.tail);done);exact rfl)))<;>(apply A.tk 4;exact rfl;kernel_rfl;(apply Ok1.load;exact rfl;(apply Ld.ownk;exact rfl;exact rfl;exact At.head;exact rfl)))<;>(apply A.tk 5;exact rfl;kernel_rfl;(apply Ok1.lookup_some (kv:=kvC) (vv:=vvP) c ktK;(iterate 6 exact rfl);(focus (repeat' first|exact At.head|apply At.tail);done);assumption;(exact (if_neg Bool.false_ne_true).symm)))<;>((apply A.tk 6;exact rfl;kernel_rfl;(apply Ok1.eqlP;(iterate 5 exact rfl))))<;>(apply A.tk 7;exact rfl;kernel_rfl;(apply Ok1.assign;exact rfl))<;>(apply A.done;kernel_rfl)))|(apply T.drawC (id:=5) [0,1,2,3] (by decide);((apply A.tk 0;exact rfl;kernel_rfl;(apply Ok1.move;exact rfl))<;>(apply A.tk 1;exact rfl;kernel_rfl;(apply Ok1.nilCheck;exact rfl))<;>(apply A.tk 2;exact rfl;kernel_rfl;(apply Ok1.fieldAddr;(iterate 5 exact rfl)))<;>(apply A.tk 3;exact rfl;kernel_rfl;(apply Ok1.load;exact rfl;(apply Ld.own1;exact rfl;exact rfl;(focus (repeat' first|exact At.head|apply At.tail);done);exact rfl)))<;>(apply A.tk 4;exact rfl;kernel_rfl;(apply Ok1.load;exact rfl;(apply Ld.ownk;exact rfl;exact rfl;exact At.head;exact rfl)))<;>(apply A.tk 5;exact rfl;kernel_rfl;(apply Ok1.lookup_some (kv:=kvC) (vv:=vvP) c ktK;(iterate 6 exact rfl);(focus (repeat' first|exact At.head|apply At.tail);done);assumption;(exact (if_neg Bool.false_ne_true).symm)))<;>(apply A.tk 6;exact rfl;kernel_rfl;(apply Ok1.nilCheck;exact rfl))<;>(apply A.tk 7;exact rfl;kernel_rfl;(apply Ok1.fieldAddr;(iterate 5 exact rfl)))<;>(apply A.tk 8;exact rfl;kernel_rfl;(apply Ok1.load;exact rfl;(apply Ld.own1;exact rfl;exact rfl;(focus (repeat' first|exact At.head|apply At.tail);done);exact rfl)))<;>((apply A.tk 9;exact rfl;kernel_rfl;(apply Ok1.eqlP;(iterate 5 exact rfl))))<;>(apply A.tk 10;exact rfl;kernel_rfl;(apply Ok1.assign;exact rfl))<;>(apply A.done;kernel_rfl)))|apply T.seq|apply T.region|apply T.block|apply T.ret|(apply T.cond_t;exact rfl)|(apply T.cond_f;exact rfl)))
  (apply RetOk.tt;exact rfl;exact rfl)
  exact ⟨_,by (focus (repeat' first|exact Keep.nil _|exact Ext.one _ _|apply Keep.cons|apply Ext.cons);done),rfl,rfl⟩
theorem knownC_ok (blk:Nat) (x:En) (k:Addr) (hm:mget c ms=some blk) (hk:x.key=some k) (w:World):CallM Try.prog 53 [.pointer (some ⟨b,0,none⟩),kvC c] (B3L b bm ms clk blk x) w fun v L=>v = .tuple #[.pointer (some ⟨blk,0,none⟩),.int .i64 0]∧L=B3L b bm ms clk blk x:=by
  obtain ⟨wb,wc,bits,key,asked⟩:=x
  simp only at hk
  subst hk
  have e0:En.v ⟨wb,wc,bits,some k,asked⟩=[.int .i64 wb,.int .i64 wc,.int .u64 bits,.pointer (some k),.int .i64 asked]:=rfl
  refine enterK (tb:=tb) Try.func53 rfl Try.ntmps53 rfl ?_
  simp only [kvC,B3L,e0]
  repeat' (first|(apply R.is1;first|(apply R.isBin;(apply R.pure;exact rfl;(apply Ok1.eqlP;(iterate 5 exact rfl))))|(apply R.pure;exact rfl;first|(apply Ok1.move;exact rfl)|(apply Ok1.assign;exact rfl))|(apply R.box;(iterate 3 exact rfl);intro))|apply R.nil|(apply T.is;first|(apply T.drawC (id:=3) [0,1,2] (by decide);((apply A.tk 0;exact rfl;kernel_rfl;(apply Ok1.move;exact rfl))<;>(apply A.tk 1;exact rfl;kernel_rfl;(apply Ok1.nilCheck;exact rfl))<;>(apply A.tk 2;exact rfl;kernel_rfl;(apply Ok1.fieldAddr;(iterate 5 exact rfl)))<;>(apply A.tk 3;exact rfl;kernel_rfl;(apply Ok1.load;exact rfl;(apply Ld.own1;exact rfl;exact rfl;(focus (repeat' first|exact At.head|apply At.tail);done);exact rfl)))<;>(apply A.tk 4;exact rfl;kernel_rfl;(apply Ok1.load;exact rfl;(apply Ld.ownk;exact rfl;exact rfl;exact At.head;exact rfl)))<;>(apply A.tk 5;exact rfl;kernel_rfl;(apply Ok1.lookup_some (kv:=kvC) (vv:=vvP) c ktK;(iterate 6 exact rfl);(focus (repeat' first|exact At.head|apply At.tail);done);assumption;(exact (if_neg Bool.false_ne_true).symm)))<;>((apply A.tk 6;exact rfl;kernel_rfl;(apply Ok1.eqlP;(iterate 5 exact rfl))))<;>(apply A.tk 7;exact rfl;kernel_rfl;(apply Ok1.assign;exact rfl))<;>(apply A.done;kernel_rfl)))|(apply T.drawC (id:=5) [0,1,2,3] (by decide);((apply A.tk 0;exact rfl;kernel_rfl;(apply Ok1.move;exact rfl))<;>(apply A.tk 1;exact rfl;kernel_rfl;(apply Ok1.nilCheck;exact rfl))<;>(apply A.tk 2;exact rfl;kernel_rfl;(apply Ok1.fieldAddr;(iterate 5 exact rfl)))<;>(apply A.tk 3;exact rfl;kernel_rfl;(apply Ok1.load;exact rfl;(apply Ld.own1;exact rfl;exact rfl;(focus (repeat' first|exact At.head|apply At.tail);done);exact rfl)))<;>(apply A.tk 4;exact rfl;kernel_rfl;(apply Ok1.load;exact rfl;(apply Ld.ownk;exact rfl;exact rfl;exact At.head;exact rfl)))<;>(apply A.tk 5;exact rfl;kernel_rfl;(apply Ok1.lookup_some (kv:=kvC) (vv:=vvP) c ktK;(iterate 6 exact rfl);(focus (repeat' first|exact At.head|apply At.tail);done);assumption;(exact (if_neg Bool.false_ne_true).symm)))<;>(apply A.tk 6;exact rfl;kernel_rfl;(apply Ok1.nilCheck;exact rfl))<;>(apply A.tk 7;exact rfl;kernel_rfl;(apply Ok1.fieldAddr;(iterate 5 exact rfl)))<;>(apply A.tk 8;exact rfl;kernel_rfl;(apply Ok1.load;exact rfl;(apply Ld.own1;exact rfl;exact rfl;(focus (repeat' first|exact At.head|apply At.tail);done);exact rfl)))<;>((apply A.tk 9;exact rfl;kernel_rfl;(apply Ok1.eqlP;(iterate 5 exact rfl))))<;>(apply A.tk 10;exact rfl;kernel_rfl;(apply Ok1.assign;exact rfl))<;>(apply A.done;kernel_rfl)))|(apply T.drawC (id:=7) [0,1,2] (by decide);((apply A.tk 0;exact rfl;kernel_rfl;(apply Ok1.move;exact rfl))<;>(apply A.tk 1;exact rfl;kernel_rfl;(apply Ok1.nilCheck;exact rfl))<;>(apply A.tk 2;exact rfl;kernel_rfl;(apply Ok1.fieldAddr;(iterate 5 exact rfl)))<;>(apply A.tk 3;exact rfl;kernel_rfl;(apply Ok1.load;exact rfl;(apply Ld.own1;exact rfl;exact rfl;(focus (repeat' first|exact At.head|apply At.tail);done);exact rfl)))<;>(apply A.tk 4;exact rfl;kernel_rfl;(apply Ok1.load;exact rfl;(apply Ld.ownk;exact rfl;exact rfl;exact At.head;exact rfl)))<;>(apply A.tk 5;exact rfl;kernel_rfl;(apply Ok1.lookup_some (kv:=kvC) (vv:=vvP) c ktK;(iterate 6 exact rfl);(focus (repeat' first|exact At.head|apply At.tail);done);assumption;(exact (if_neg Bool.false_ne_true).symm)))<;>(apply A.tk 6;exact rfl;kernel_rfl;(apply Ok1.assign;exact rfl))<;>(apply A.tk 7;exact rfl;kernel_rfl;(apply Ok1.assign;exact rfl))<;>(apply A.done;kernel_rfl)))|apply T.seq|apply T.region|apply T.block|apply T.skip|apply T.ret|(apply T.cond_f;exact rfl)))
  (apply RetOk.tt;exact rfl;exact rfl)
  exact ⟨_,by (focus (repeat' first|exact Keep.nil _|exact Ext.one _ _|apply Keep.cons|apply Ext.cons);done),rfl,rfl⟩
theorem lookC_none (hm:mget c ms=none) (n1 n2:Int) (w:World):CallM Try.prog 64 [.pointer (some ⟨b,0,none⟩),kvC c,.agg ⟨[.int .i64 n1,.int .i64 n2]⟩] (B2L b bm ms clk) w fun v L=>v = .int .i64 7∧L=B2L b bm ms clk:=by
  have hkn:=fun w1=>knownC_none b bm ms clk c hm w1
  refine enterK (tb:=tb) Try.func64 rfl Try.ntmps64 rfl ?_
  simp only [kvC,B2L] at hkn ⊢
  repeat' (first|(apply R.is1;first|(apply R.isBin;(apply R.pure;exact rfl;(apply Ok1.neq_t;exact rfl;exact rfl;omega)))|(apply R.isCall;(apply R.callE (Li:=[(b,.cells ⟨[.map (some bm)]⟩ 96 (0,0)),(bm,mobj kvC vvP ms clk)]) (vs:=[.pointer (some ⟨b,0,none⟩),.agg ⟨[.int .i64 c.id,.int .i64 c.roles,.int .i64 c.exp,.int .i64 c.ser]⟩]);(iterate 3 exact rfl);(focus (repeat' first|exact Ext.all _|apply Ext.cons);done);intro w1 hw1;exact hkn w1;rintro v Lo ⟨rfl,rfl⟩;simp only [List.cons_append,List.nil_append]))|(apply R.pure;exact rfl;first|(apply Ok1.load;exact rfl;(apply Ld.ownk;exact rfl;exact rfl;(focus (repeat' first|exact At.head|apply At.tail);done);exact rfl))|(apply Ok1.move;exact rfl)|(apply Ok1.assign;exact rfl)|(apply Ok1.extract;exact rfl;exact rfl))|(apply R.box;(iterate 3 exact rfl);intro))|apply R.nil|(apply T.is;first|apply T.seq|apply T.region|apply T.ret|(apply T.cond_t;exact rfl)))
  (apply RetOk.t;exact rfl)
  exact ⟨_,by (focus (repeat' first|exact Keep.nil _|exact Ext.one _ _|apply Keep.cons);done),rfl,rfl⟩
theorem takeC_none (hm:mget c ms=none) (n1 n2:Int) (w:World):CallM Try.prog 16 [.pointer (some ⟨b,0,none⟩),kvC c,.agg ⟨[.int .i64 n1,.int .i64 n2]⟩] (B2L b bm ms clk) w fun v L=>v = .int .i64 7∧L=B2L b bm ms clk:=by
  have hkn:=fun w1=>knownC_none b bm ms clk c hm w1
  refine enterK (tb:=tb) Try.func16 rfl Try.ntmps16 rfl ?_
  simp only [kvC,B2L] at hkn ⊢
  repeat' (first|(apply R.is1;first|(apply R.isBin;(apply R.pure;exact rfl;(apply Ok1.neq_t;exact rfl;exact rfl;omega)))|(apply R.isCall;(apply R.callE (Li:=[(b,.cells ⟨[.map (some bm)]⟩ 96 (0,0)),(bm,mobj kvC vvP ms clk)]) (vs:=[.pointer (some ⟨b,0,none⟩),.agg ⟨[.int .i64 c.id,.int .i64 c.roles,.int .i64 c.exp,.int .i64 c.ser]⟩]);(iterate 3 exact rfl);(focus (repeat' first|exact Ext.all _|apply Ext.cons);done);intro w1 hw1;exact hkn w1;rintro v Lo ⟨rfl,rfl⟩;simp only [List.cons_append,List.nil_append]))|(apply R.pure;exact rfl;first|(apply Ok1.load;exact rfl;(apply Ld.ownk;exact rfl;exact rfl;(focus (repeat' first|exact At.head|apply At.tail);done);exact rfl))|(apply Ok1.move;exact rfl)|(apply Ok1.assign;exact rfl)|(apply Ok1.extract;exact rfl;exact rfl))|(apply R.box;(iterate 3 exact rfl);intro))|apply R.nil|(apply T.is;first|apply T.seq|apply T.region|apply T.ret|(apply T.cond_t;exact rfl)))
  (apply RetOk.t;exact rfl)
  exact ⟨_,by (focus (repeat' first|exact Keep.nil _|exact Ext.one _ _|apply Keep.cons);done),rfl,rfl⟩
theorem keyC_none (hm:mget c ms=none) (w:World):CallM Try.prog 60 [.pointer (some ⟨b,0,none⟩),kvC c] (B2L b bm ms clk) w fun v L=>v = .tuple #[.pointer none,.int .i64 7]∧L=B2L b bm ms clk:=by
  have hkn:=fun w1=>knownC_none b bm ms clk c hm w1
  refine enterK (tb:=tb) Try.func60 rfl Try.ntmps60 rfl ?_
  simp only [kvC,B2L] at hkn ⊢
  repeat' (first|(apply R.is1;first|(apply R.isBin;(apply R.pure;exact rfl;(apply Ok1.neq_t;exact rfl;exact rfl;omega)))|(apply R.isCall;(apply R.callE (Li:=[(b,.cells ⟨[.map (some bm)]⟩ 96 (0,0)),(bm,mobj kvC vvP ms clk)]) (vs:=[.pointer (some ⟨b,0,none⟩),.agg ⟨[.int .i64 c.id,.int .i64 c.roles,.int .i64 c.exp,.int .i64 c.ser]⟩]);(iterate 3 exact rfl);(focus (repeat' first|exact Ext.all _|apply Ext.cons);done);intro w1 hw1;exact hkn w1;rintro v Lo ⟨rfl,rfl⟩;simp only [List.cons_append,List.nil_append]))|(apply R.pure;exact rfl;first|(apply Ok1.load;exact rfl;(apply Ld.ownk;exact rfl;exact rfl;exact At.head;exact rfl))|(apply Ok1.move;exact rfl)|(apply Ok1.assign;exact rfl)|(apply Ok1.extract;exact rfl;exact rfl))|(apply R.box;(iterate 3 exact rfl);intro))|apply R.nil|(apply T.is;first|apply T.seq|apply T.region|apply T.ret|(apply T.cond_t;exact rfl)))
  (apply RetOk.tt;exact rfl;exact rfl)
  exact ⟨_,by (focus (repeat' first|exact Keep.nil _|exact Ext.one _ _|apply Keep.cons);done),rfl,rfl⟩
theorem putC_none (hm:mget c ms=none) (k:Nat) (w:World):CallM Try.prog 12 [.pointer (some ⟨b,0,none⟩),kvC c,.pointer (some ⟨k,0,none⟩)] (B2L b bm ms clk) w fun v L=>v = .int .i64 7∧L=B2L b bm ms clk:=by
  refine enterK (tb:=tb) Try.func12 rfl Try.ntmps12 rfl ?_
  simp only [kvC,B2L]
  repeat' (first|(apply R.is1;first|(apply R.isBin;(apply R.pure;exact rfl;(apply Ok1.eqlP;(iterate 5 exact rfl))))|(apply R.pure;exact rfl;first|(apply Ok1.move;exact rfl)|(apply Ok1.assign;exact rfl))|(apply R.box;(iterate 3 exact rfl);intro))|apply R.nil|(apply T.is;first|(apply T.drawC (id:=5) [0,1,2] (by decide);((apply A.tk 0;exact rfl;kernel_rfl;(apply Ok1.move;exact rfl))<;>(apply A.tk 1;exact rfl;kernel_rfl;(apply Ok1.nilCheck;exact rfl))<;>(apply A.tk 2;exact rfl;kernel_rfl;(apply Ok1.fieldAddr;(iterate 5 exact rfl)))<;>(apply A.tk 3;exact rfl;kernel_rfl;(apply Ok1.load;exact rfl;(apply Ld.own1;exact rfl;exact rfl;(focus (repeat' first|exact At.head|apply At.tail);done);exact rfl)))<;>(apply A.tk 4;exact rfl;kernel_rfl;(apply Ok1.load;exact rfl;(apply Ld.ownk;exact rfl;exact rfl;exact At.head;exact rfl)))<;>(apply A.tk 5;exact rfl;kernel_rfl;(apply Ok1.lookup_none (kv:=kvC) (vv:=vvP) c ktK;(iterate 6 exact rfl);(focus (repeat' first|exact At.head|apply At.tail);done);assumption;(exact (if_neg Bool.false_ne_true).symm)))<;>((apply A.tk 6;exact rfl;kernel_rfl;(apply Ok1.eqlP;(iterate 5 exact rfl))))<;>(apply A.tk 7;exact rfl;kernel_rfl;(apply Ok1.move;exact rfl))<;>((apply A.skG 8;(iterate 3 exact rfl);kernel_rfl))<;>((apply A.skG 9;(iterate 3 exact rfl);kernel_rfl))<;>((apply A.skG 10;(iterate 3 exact rfl);kernel_rfl))<;>((apply A.skG 11;(iterate 3 exact rfl);kernel_rfl))<;>((apply A.skG 12;(iterate 3 exact rfl);kernel_rfl))<;>((apply A.skG 13;(iterate 3 exact rfl);kernel_rfl))<;>((apply A.skG 14;(iterate 3 exact rfl);kernel_rfl))<;>((apply A.skG 15;(iterate 3 exact rfl);kernel_rfl))<;>((apply A.skG 16;(iterate 3 exact rfl);kernel_rfl))<;>((apply A.skG 17;(iterate 3 exact rfl);kernel_rfl))<;>(apply A.tk 18;exact rfl;kernel_rfl;(apply Ok1.pick_t;exact rfl;exact rfl))<;>(apply A.tk 19;exact rfl;kernel_rfl;(apply Ok1.assign;exact rfl))<;>(apply A.done;kernel_rfl)))|apply T.seq|apply T.region|apply T.block|apply T.ret|(apply T.cond_t;exact rfl)|(apply T.cond_f;exact rfl)))
  (apply RetOk.t;exact rfl)
  exact ⟨_,by (focus (repeat' first|exact Keep.nil _|exact Ext.one _ _|apply Keep.cons|apply Ext.cons);done),rfl,rfl⟩
theorem putC_nok (w:World):CallP Try.prog 12 [.pointer (some ⟨b,0,none⟩),kvC c,.pointer none] (.int .i64 1):=by
  refine enterP (tb:=tb) Try.func12 rfl Try.ntmps12 rfl fun w=>?_
  simp only [kvC]
  repeat' (first|(apply R.is1;first|(apply R.isBin;(apply R.pure;exact rfl;(apply Ok1.eqlP;(iterate 5 exact rfl))))|(apply R.pure;exact rfl;first|(apply Ok1.move;exact rfl)|(apply Ok1.assign;exact rfl))|(apply R.box;(iterate 3 exact rfl);intro))|apply R.nil|(apply T.is;first|apply T.seq|apply T.region|apply T.block|apply T.ret|(apply T.cond_t;exact rfl)|(apply T.cond_f;exact rfl)))
  (apply RetOk.t;exact rfl)
  rfl
section
variable (blk:Nat) (x:En) (hm:mget c ms=some blk)
theorem lookC_wanted (hm:mget c ms=some blk) (hk:x.key=none) (n1 n2:Int) (w:World):CallM Try.prog 64 [.pointer (some ⟨b,0,none⟩),kvC c,.agg ⟨[.int .i64 n1,.int .i64 n2]⟩] (B3L b bm ms clk blk x) w fun v L=>v = .int .i64 11∧L=B3L b bm ms clk blk x:=by
  have hkn:=fun w1=>knownC_wanted b bm ms clk c blk x hm hk w1
  generalize hBB:B3L b bm ms clk blk x=BB at *
  refine enterK (tb:=tb) Try.func64 rfl Try.ntmps64 rfl ?_
  simp only [kvC] at hkn ⊢
  repeat' (first|(apply R.is1;first|(apply R.isBin;(apply R.pure;exact rfl;(apply Ok1.neq_t;exact rfl;exact rfl;omega)))|(apply R.isCall;(apply R.callE (Li:=BB) (vs:=[.pointer (some ⟨b,0,none⟩),.agg ⟨[.int .i64 c.id,.int .i64 c.roles,.int .i64 c.exp,.int .i64 c.ser]⟩]);(iterate 3 exact rfl);(focus (repeat' first|exact Ext.all _|apply Ext.cons);done);intro w1 hw1;exact hkn w1;rintro v Lo ⟨rfl,rfl⟩;skip))|(apply R.pure;exact rfl;first|(apply Ok1.load;exact rfl;(apply Ld.ownk;exact rfl;exact rfl;(focus (repeat' first|exact At.head|apply At.tail);done);exact rfl))|(apply Ok1.move;exact rfl)|(apply Ok1.assign;exact rfl)|(apply Ok1.extract;exact rfl;exact rfl))|(apply R.box;(iterate 3 exact rfl);intro))|apply R.nil|(apply T.is;first|apply T.seq|apply T.region|apply T.ret|(apply T.cond_t;exact rfl)))
  (apply RetOk.t;exact rfl)
  exact ⟨_,by (focus (repeat' first|exact Ext.here _ _|apply Keep.last);done),rfl,rfl⟩
theorem takeC_wanted (hm:mget c ms=some blk) (hk:x.key=none) (n1 n2:Int) (w:World):CallM Try.prog 16 [.pointer (some ⟨b,0,none⟩),kvC c,.agg ⟨[.int .i64 n1,.int .i64 n2]⟩] (B3L b bm ms clk blk x) w fun v L=>v = .int .i64 11∧L=B3L b bm ms clk blk x:=by
  have hkn:=fun w1=>knownC_wanted b bm ms clk c blk x hm hk w1
  generalize hBB:B3L b bm ms clk blk x=BB at *
  refine enterK (tb:=tb) Try.func16 rfl Try.ntmps16 rfl ?_
  simp only [kvC] at hkn ⊢
  repeat' (first|(apply R.is1;first|(apply R.isBin;(apply R.pure;exact rfl;(apply Ok1.neq_t;exact rfl;exact rfl;omega)))|(apply R.isCall;(apply R.callE (Li:=BB) (vs:=[.pointer (some ⟨b,0,none⟩),.agg ⟨[.int .i64 c.id,.int .i64 c.roles,.int .i64 c.exp,.int .i64 c.ser]⟩]);(iterate 3 exact rfl);(focus (repeat' first|exact Ext.all _|apply Ext.cons);done);intro w1 hw1;exact hkn w1;rintro v Lo ⟨rfl,rfl⟩;skip))|(apply R.pure;exact rfl;first|(apply Ok1.load;exact rfl;(apply Ld.ownk;exact rfl;exact rfl;(focus (repeat' first|exact At.head|apply At.tail);done);exact rfl))|(apply Ok1.move;exact rfl)|(apply Ok1.assign;exact rfl)|(apply Ok1.extract;exact rfl;exact rfl))|(apply R.box;(iterate 3 exact rfl);intro))|apply R.nil|(apply T.is;first|apply T.seq|apply T.region|apply T.ret|(apply T.cond_t;exact rfl)))
  (apply RetOk.t;exact rfl)
  exact ⟨_,by (focus (repeat' first|exact Ext.here _ _|apply Keep.last);done),rfl,rfl⟩
theorem keyC_wanted (hm:mget c ms=some blk) (hk:x.key=none) (w:World):CallM Try.prog 60 [.pointer (some ⟨b,0,none⟩),kvC c] (B3L b bm ms clk blk x) w fun v L=>v = .tuple #[.pointer none,.int .i64 11]∧L=B3L b bm ms clk blk x:=by
  have hkn:=fun w1=>knownC_wanted b bm ms clk c blk x hm hk w1
  generalize hBB:B3L b bm ms clk blk x=BB at *
  refine enterK (tb:=tb) Try.func60 rfl Try.ntmps60 rfl ?_
  simp only [kvC] at hkn ⊢
  repeat' (first|(apply R.is1;first|(apply R.isBin;(apply R.pure;exact rfl;(apply Ok1.neq_t;exact rfl;exact rfl;omega)))|(apply R.isCall;(apply R.callE (Li:=BB) (vs:=[.pointer (some ⟨b,0,none⟩),.agg ⟨[.int .i64 c.id,.int .i64 c.roles,.int .i64 c.exp,.int .i64 c.ser]⟩]);(iterate 3 exact rfl);(focus (repeat' first|exact Ext.all _|apply Ext.cons);done);intro w1 hw1;exact hkn w1;rintro v Lo ⟨rfl,rfl⟩;skip))|(apply R.pure;exact rfl;first|(apply Ok1.load;exact rfl;(apply Ld.ownk;exact rfl;exact rfl;exact At.head;exact rfl))|(apply Ok1.move;exact rfl)|(apply Ok1.assign;exact rfl)|(apply Ok1.extract;exact rfl;exact rfl))|(apply R.box;(iterate 3 exact rfl);intro))|apply R.nil|(apply T.is;first|apply T.seq|apply T.region|apply T.ret|(apply T.cond_t;exact rfl)))
  (apply RetOk.tt;exact rfl;exact rfl)
  exact ⟨_,by (focus (repeat' first|exact Ext.here _ _|apply Keep.last);done),rfl,rfl⟩
end
end
section
variable (b bm:Nat) (ms:Ms Cl Nat) (clk:Nat) (c:Cl) (blk:Nat) (x:En) (k:Addr)
def lookE (x:En) (n1 n2:Int):Int:=if NRc n1 n2 then lookC x n1 n2 else 10
theorem lookC_ok (hm:mget c ms=some blk) (hk:x.key=some k) (hc:0≤x.ctr∧x.ctr≤2147483647) (n1 n2:Int) (w:World):CallM Try.prog 64 [.pointer (some ⟨b,0,none⟩),kvC c,.agg ⟨[.int .i64 n1,.int .i64 n2]⟩] (B3L b bm ms clk blk x) w fun v L=>v = .int .i64 (lookE x n1 n2)∧L=B3L b bm ms clk blk x:=by
  have hkn:=fun w1=>knownC_ok b bm ms clk c blk x k hm hk w1
  unfold lookE
  by_cases hN:NRc n1 n2
  · rw [if_pos hN]
    have hlk:=fun w1 h=>wlookC_ok blk x n1 n2 hN hc w1 h
    generalize lookC x n1 n2=E at *
    generalize hV:x.v=V at hlk
    simp only [B3L,hV,kvC] at hkn ⊢
    refine enterK (tb:=tb) Try.func64 rfl Try.ntmps64 rfl ?_
    repeat' (first|(apply R.is1;first|(apply R.isBin;(apply R.pure;exact rfl;(apply Ok1.neq_f;exact rfl;exact rfl;omega)))|(apply R.isCall;(apply R.callE (Li:=[(b,.cells ⟨[.map (some bm)]⟩ 96 (0,0)),(bm,mobj kvC vvP ms clk),(blk,.cells ⟨V⟩ 103 (0,0))]) (vs:=[.pointer (some ⟨b,0,none⟩),.agg ⟨[.int .i64 c.id,.int .i64 c.roles,.int .i64 c.exp,.int .i64 c.ser]⟩]);(iterate 3 exact rfl);(focus (repeat' first|exact Ext.all _|apply Ext.cons);done);intro w1 hw1;exact hkn w1;rintro v Lo ⟨rfl,rfl⟩;simp only [List.cons_append,List.nil_append]))|(apply R.pure;exact rfl;first|(apply Ok1.load;exact rfl;(apply Ld.ownk;exact rfl;exact rfl;(focus (repeat' first|exact At.head|apply At.tail);done);exact rfl))|(apply Ok1.move;exact rfl)|(apply Ok1.assign;exact rfl)|(apply Ok1.extract;exact rfl;exact rfl))|(apply R.box;(iterate 3 exact rfl);intro))|apply R.nil|(apply T.is;first|apply T.seq|apply T.region|apply T.skip|(apply T.cond_f;exact rfl)))
    rename_i b4 b5
    refine T.weakK (σ':=[(5,.pointer (some ⟨b5,0,none⟩)),(7,.pointer (some ⟨blk,0,none⟩))]) (L':=(b5,.cells ⟨[.int .i64 n1,.int .i64 n2]⟩ 51 (0,0))::[(b,.cells ⟨[.map (some bm)]⟩ 96 (0,0)),(bm,mobj kvC vvP ms clk),(blk,.cells ⟨V⟩ 103 (0,0))]) ?_ (by (focus (repeat' first|exact Keep.nil _|exact Ext.one _ _|apply Keep.cons|apply Ext.cons);done)) ⟨rfl,rfl,trivial⟩
    repeat' ((apply T.is;first|(apply T.drawC (id:=4) [0] (by decide);((apply A.tk 0;exact rfl;kernel_rfl;(apply Ok1.move;exact rfl))<;>(apply A.tk 1;exact rfl;kernel_rfl;(apply Ok1.nilCheck;exact rfl))<;>(apply A.tk 2;exact rfl;kernel_rfl;(apply Ok1.fieldAddr;(iterate 5 exact rfl)))<;>(apply A.tk 3;exact rfl;kernel_rfl;(apply Ok1.load;exact rfl;(apply Ld.ownk;exact rfl;exact rfl;exact At.head;exact rfl)))<;>(apply A.one 4;kernel_rfl;exact rfl;(((apply R.callV (vs:=[.pointer (some ⟨blk,0,none⟩),.agg ⟨[.int .i64 n1,.int .i64 n2]⟩]);(iterate 3 exact rfl);intro w1 hw1;exact hlk w1 (hw1.get _ _ (At.mem (by (focus (repeat' first|exact At.head|apply At.tail);done)))))));apply R.nil;refine ⟨?_,?_⟩;(focus ((repeat' (first|exact trivial|(refine ⟨?_,?_⟩;exact At.head))))))<;>(apply A.tk 5;exact rfl;kernel_rfl;(apply Ok1.assign;exact rfl))<;>(apply A.done;kernel_rfl)))|apply T.ret))
    (apply RetOk.t;exact rfl)
    exact ⟨_,by (focus (repeat' first|exact Keep.nil _|exact Ext.one _ _|apply Keep.cons|apply Ext.cons);done),rfl,rfl⟩
  · rw [if_neg hN]
    have hlk:=wlookC_bad blk n1 n2 hN
    obtain ⟨BB,hBB⟩:∃ BB,BB=B3L b bm ms clk blk x:=⟨_,rfl⟩
    simp only [← hBB] at hkn ⊢
    simp only [kvC] at hkn ⊢
    refine enterK (tb:=tb) Try.func64 rfl Try.ntmps64 rfl ?_
    repeat' (first|(apply R.is1;first|(apply R.isBin;(apply R.pure;exact rfl;(apply Ok1.neq_f;exact rfl;exact rfl;omega)))|(apply R.isCall;(apply R.callE (Li:=BB) (vs:=[.pointer (some ⟨b,0,none⟩),.agg ⟨[.int .i64 c.id,.int .i64 c.roles,.int .i64 c.exp,.int .i64 c.ser]⟩]);(iterate 3 exact rfl);(focus (repeat' first|exact Ext.all _|apply Ext.cons);done);intro w1 hw1;exact hkn w1;rintro v Lo ⟨rfl,hq⟩;rw [hq];clear hq))|(apply R.pure;exact rfl;first|(apply Ok1.load;exact rfl;(apply Ld.ownk;exact rfl;exact rfl;(focus (repeat' first|exact At.head|apply At.tail);done);exact rfl))|(apply Ok1.move;exact rfl)|(apply Ok1.assign;exact rfl)|(apply Ok1.extract;exact rfl;exact rfl))|(apply R.box;(iterate 3 exact rfl);intro))|apply R.nil|(apply T.is;first|apply T.seq|apply T.region|apply T.skip|(apply T.cond_f;exact rfl)))
    rename_i b4 b5
    refine T.weakK (σ':=[(5,.pointer (some ⟨b5,0,none⟩)),(7,.pointer (some ⟨blk,0,none⟩))]) (L':=(b5,.cells ⟨[.int .i64 n1,.int .i64 n2]⟩ 51 (0,0))::BB) ?_ (by (focus (repeat' first|exact Ext.one _ _|exact Ext.here _ _|apply Keep.cons|apply Keep.last|apply Ext.app);done)) ⟨rfl,rfl,trivial⟩
    repeat' ((apply T.is;first|(apply T.drawC (id:=4) [0] (by decide);((apply A.tk 0;exact rfl;kernel_rfl;(apply Ok1.move;exact rfl))<;>(apply A.tk 1;exact rfl;kernel_rfl;(apply Ok1.nilCheck;exact rfl))<;>(apply A.tk 2;exact rfl;kernel_rfl;(apply Ok1.fieldAddr;(iterate 5 exact rfl)))<;>(apply A.tk 3;exact rfl;kernel_rfl;(apply Ok1.load;exact rfl;(apply Ld.ownk;exact rfl;exact rfl;exact At.head;exact rfl)))<;>(apply A.one 4;kernel_rfl;exact rfl;((apply R.callP rfl rfl rfl hlk));apply R.nil;refine ⟨?_,?_⟩;(focus ((repeat' (first|exact trivial|(refine ⟨?_,?_⟩;exact At.head))))))<;>(apply A.tk 5;exact rfl;kernel_rfl;(apply Ok1.assign;exact rfl))<;>(apply A.done;kernel_rfl)))|apply T.ret))
    (apply RetOk.t;exact rfl)
    exact ⟨_,by (focus (repeat' first|exact Ext.all _|apply Keep.last|apply Ext.cons);done),rfl,rfl⟩
theorem takeC_ok (hm:mget c ms=some blk) (hk:x.key=some k) (hc:0≤x.ctr∧x.ctr≤2147483647) (n1 n2:Int) (w:World):CallM Try.prog 16 [.pointer (some ⟨b,0,none⟩),kvC c,.agg ⟨[.int .i64 n1,.int .i64 n2]⟩] (B3L b bm ms clk blk x) w fun v L=>v = .int .i64 (lookE x n1 n2)∧L=B3L b bm ms clk blk (if NRc n1 n2 then takeC x n1 n2 else x):=by
  have hkn:=fun w1=>knownC_ok b bm ms clk c blk x k hm hk w1
  unfold lookE
  by_cases hN:NRc n1 n2
  · rw [if_pos hN,if_pos hN]
    have htk:=fun w1=>wtakeC_ok blk x n1 n2 hN hc w1
    generalize lookC x n1 n2=E at *
    generalize hV9:(takeC x n1 n2).v=V9 at htk
    generalize hV:x.v=V at htk
    simp only [B3L,hV,hV9,kvC] at hkn ⊢
    refine enterK (tb:=tb) Try.func16 rfl Try.ntmps16 rfl ?_
    repeat' (first|(apply R.is1;first|(apply R.isBin;(apply R.pure;exact rfl;(apply Ok1.neq_f;exact rfl;exact rfl;omega)))|(apply R.isCall;(apply R.callE (Li:=[(b,.cells ⟨[.map (some bm)]⟩ 96 (0,0)),(bm,mobj kvC vvP ms clk),(blk,.cells ⟨V⟩ 103 (0,0))]) (vs:=[.pointer (some ⟨b,0,none⟩),.agg ⟨[.int .i64 c.id,.int .i64 c.roles,.int .i64 c.exp,.int .i64 c.ser]⟩]);(iterate 3 exact rfl);(focus (repeat' first|exact Ext.all _|apply Ext.cons);done);intro w1 hw1;exact hkn w1;rintro v Lo ⟨rfl,rfl⟩;simp only [List.cons_append,List.nil_append]))|(apply R.pure;exact rfl;first|(apply Ok1.load;exact rfl;(apply Ld.ownk;exact rfl;exact rfl;(focus (repeat' first|exact At.head|apply At.tail);done);exact rfl))|(apply Ok1.move;exact rfl)|(apply Ok1.assign;exact rfl)|(apply Ok1.extract;exact rfl;exact rfl))|(apply R.box;(iterate 3 exact rfl);intro))|apply R.nil|(apply T.is;first|apply T.seq|apply T.region|apply T.skip|(apply T.cond_f;exact rfl)))
    rename_i b4 b5
    refine T.weakK (σ':=[(5,.pointer (some ⟨b5,0,none⟩)),(7,.pointer (some ⟨blk,0,none⟩))]) (L':=(b5,.cells ⟨[.int .i64 n1,.int .i64 n2]⟩ 51 (0,0))::[(b,.cells ⟨[.map (some bm)]⟩ 96 (0,0)),(bm,mobj kvC vvP ms clk),(blk,.cells ⟨V⟩ 103 (0,0))]) ?_ (by (focus (repeat' first|exact Keep.nil _|exact Ext.one _ _|apply Keep.cons|apply Ext.cons);done)) ⟨rfl,rfl,trivial⟩
    repeat' ((apply T.is;first|(apply T.drawC (id:=4) [0] (by decide);((apply A.tk 0;exact rfl;kernel_rfl;(apply Ok1.move;exact rfl))<;>(apply A.tk 1;exact rfl;kernel_rfl;(apply Ok1.nilCheck;exact rfl))<;>(apply A.tk 2;exact rfl;kernel_rfl;(apply Ok1.fieldAddr;(iterate 5 exact rfl)))<;>(apply A.tk 3;exact rfl;kernel_rfl;(apply Ok1.load;exact rfl;(apply Ld.ownk;exact rfl;exact rfl;exact At.head;exact rfl)))<;>(apply A.one 4;kernel_rfl;exact rfl;(((apply R.callE (Li:=[(blk,.cells ⟨V⟩ 103 (0,0))]) (vs:=[.pointer (some ⟨blk,0,none⟩),.agg ⟨[.int .i64 n1,.int .i64 n2]⟩]);(iterate 3 exact rfl);(focus (repeat' first|exact Ext.one _ _|apply Ext.cons);done);intro w1 hw1;exact htk w1;rintro v Lo ⟨rfl,rfl⟩)));apply R.nil;refine ⟨?_,?_⟩;(focus (repeat' first|exact trivial|exact At.head|apply At.tail|refine ⟨?_,?_⟩)))<;>(apply A.tk 5;exact rfl;kernel_rfl;(apply Ok1.assign;exact rfl))<;>(apply A.done;kernel_rfl)))|apply T.ret))
    (apply RetOk.t;exact rfl)
    exact ⟨_,by (focus (repeat' first|exact Keep.nil _|exact Ext.one _ _|apply Keep.cons|apply Ext.cons);done),rfl,rfl⟩
  · rw [if_neg hN,if_neg hN]
    have hlk:=wtakeC_bad blk n1 n2 hN
    obtain ⟨BB,hBB⟩:∃ BB,BB=B3L b bm ms clk blk x:=⟨_,rfl⟩
    simp only [← hBB] at hkn ⊢
    simp only [kvC] at hkn ⊢
    refine enterK (tb:=tb) Try.func16 rfl Try.ntmps16 rfl ?_
    repeat' (first|(apply R.is1;first|(apply R.isBin;(apply R.pure;exact rfl;(apply Ok1.neq_f;exact rfl;exact rfl;omega)))|(apply R.isCall;(apply R.callE (Li:=BB) (vs:=[.pointer (some ⟨b,0,none⟩),.agg ⟨[.int .i64 c.id,.int .i64 c.roles,.int .i64 c.exp,.int .i64 c.ser]⟩]);(iterate 3 exact rfl);(focus (repeat' first|exact Ext.all _|apply Ext.cons);done);intro w1 hw1;exact hkn w1;rintro v Lo ⟨rfl,hq⟩;rw [hq];clear hq))|(apply R.pure;exact rfl;first|(apply Ok1.load;exact rfl;(apply Ld.ownk;exact rfl;exact rfl;(focus (repeat' first|exact At.head|apply At.tail);done);exact rfl))|(apply Ok1.move;exact rfl)|(apply Ok1.assign;exact rfl)|(apply Ok1.extract;exact rfl;exact rfl))|(apply R.box;(iterate 3 exact rfl);intro))|apply R.nil|(apply T.is;first|apply T.seq|apply T.region|apply T.skip|(apply T.cond_f;exact rfl)))
    rename_i b4 b5
    refine T.weakK (σ':=[(5,.pointer (some ⟨b5,0,none⟩)),(7,.pointer (some ⟨blk,0,none⟩))]) (L':=(b5,.cells ⟨[.int .i64 n1,.int .i64 n2]⟩ 51 (0,0))::BB) ?_ (by (focus (repeat' first|exact Ext.one _ _|exact Ext.here _ _|apply Keep.cons|apply Keep.last|apply Ext.app);done)) ⟨rfl,rfl,trivial⟩
    repeat' ((apply T.is;first|(apply T.drawC (id:=4) [0] (by decide);((apply A.tk 0;exact rfl;kernel_rfl;(apply Ok1.move;exact rfl))<;>(apply A.tk 1;exact rfl;kernel_rfl;(apply Ok1.nilCheck;exact rfl))<;>(apply A.tk 2;exact rfl;kernel_rfl;(apply Ok1.fieldAddr;(iterate 5 exact rfl)))<;>(apply A.tk 3;exact rfl;kernel_rfl;(apply Ok1.load;exact rfl;(apply Ld.ownk;exact rfl;exact rfl;exact At.head;exact rfl)))<;>(apply A.one 4;kernel_rfl;exact rfl;((apply R.callP rfl rfl rfl hlk));apply R.nil;refine ⟨?_,?_⟩;(focus ((repeat' (first|exact trivial|(refine ⟨?_,?_⟩;exact At.head))))))<;>(apply A.tk 5;exact rfl;kernel_rfl;(apply Ok1.assign;exact rfl))<;>(apply A.done;kernel_rfl)))|apply T.ret))
    (apply RetOk.t;exact rfl)
    exact ⟨_,by (focus (repeat' first|exact Ext.all _|apply Keep.last|apply Ext.cons);done),rfl,rfl⟩
theorem keyC_ok (hm:mget c ms=some blk) (bk:Nat) (K:List Int) (hk:x.key=some ⟨bk,0,none⟩) (hK:K.length≤1000000) (w:World) (hkc:∀ w1,Chg (blks (B3L b bm ms clk blk x)) w w1→KeyR w1 bk K):CallM Try.prog 60 [.pointer (some ⟨b,0,none⟩),kvC c] (B3L b bm ms clk blk x) w fun v L=>∃ y:KE,y.K=K∧y.ok∧v = .tuple #[.pointer (some ⟨y.bk,0,none⟩),.int .i64 0]∧L=y.L++B3L b bm ms clk blk x:=by
  have hkn:=fun w1=>knownC_ok b bm ms clk c blk x ⟨bk,0,none⟩ hm hk w1
  have hby:=fun w1 h=>bytes_ok bk K (by omega) w1 h
  have hkv:x.v[3]? = some (.pointer (some ⟨bk,0,none⟩)):=by rw [← hk];rfl
  generalize hV:x.v=V at hkv
  simp only [B3L,hV,kvC] at hkn hkc ⊢
  refine enterK (tb:=tb) Try.func60 rfl Try.ntmps60 rfl ?_
  repeat' (first|(apply R.is1;first|(apply R.isBin;(apply R.pure;exact rfl;(apply Ok1.neq_f;exact rfl;exact rfl;omega)))|(apply R.isCall;first|(apply R.callE (Li:=[(b,.cells ⟨[.map (some bm)]⟩ 96 (0,0)),(bm,mobj kvC vvP ms clk),(blk,.cells ⟨V⟩ 103 (0,0))]) (vs:=[.pointer (some ⟨b,0,none⟩),.agg ⟨[.int .i64 c.id,.int .i64 c.roles,.int .i64 c.exp,.int .i64 c.ser]⟩]);(iterate 3 exact rfl);(focus (repeat' first|exact Ext.all _|apply Ext.cons);done);intro w1 hw1;exact hkn w1;rintro v Lo ⟨rfl,rfl⟩;simp only [List.cons_append,List.nil_append])|(apply R.callE (vs:=[.pointer (some ⟨bk,0,none⟩)]);(iterate 3 exact rfl);exact Ext.none _;intro w1 hw1;exact hby w1 (hkc w1 hw1.chg);rintro v Lo ⟨oc,hoc,rfl,rfl⟩;rw [slV_eq hoc])|(apply R.callE (vs:=[.slice (ovp oc) K.length (ovc oc K.length)]);(iterate 3 exact rfl);exact Ext.none _;intro w1 hw1;exact new_ok (ovp oc) K.length (ovc oc K.length) K rfl (by omega) w1 (rdown hoc hw1 (Ext.mem (by (focus ((repeat' (exact Ext.here _ _));done)))));rintro v Lo ⟨bk2,ov2,rfl,hov2,_,rfl⟩))|(apply R.pure;exact rfl;first|(apply Ok1.load;exact rfl;first|(apply Ld.ownk;exact rfl;exact rfl;exact At.head;exact rfl)|(apply Ld.own1;exact rfl;exact rfl;(focus (repeat' first|exact At.head|apply At.tail);done);exact hkv))|(apply Ok1.move;exact rfl)|(apply Ok1.fieldAddr;(iterate 5 exact rfl))|(apply Ok1.assign;exact rfl)|(apply Ok1.extract;exact rfl;exact rfl)|(apply Ok1.nilCheck;exact rfl))|(apply R.box;(iterate 3 exact rfl);intro))|apply R.nil|(apply T.is;first|apply T.seq|apply T.region|apply T.skip|apply T.ret|(apply T.cond_f;exact rfl)))
  (apply RetOk.tt;exact rfl;exact rfl)
  refine ⟨_,?_,⟨bk2,ov2,K⟩,rfl,hov2,rfl,rfl⟩
  simp only [KE.L,KL]
  generalize blkL 5 ov2 (u8s K)=K2
  (focus (repeat' first|exact Keep.nil _|exact Ext.one _ _|exact Ext.here _ _|apply Keep.cons|apply Keep.app|apply Ext.app);done)
theorem putC_has (hm:mget c ms=some blk) (hk:x.key=some k) (q:Nat) (w:World):CallM Try.prog 12 [.pointer (some ⟨b,0,none⟩),kvC c,.pointer (some ⟨q,0,none⟩)] (B3L b bm ms clk blk x) w fun v L=>v = .int .i64 7∧L=B3L b bm ms clk blk x:=by
  obtain ⟨wb,wc,bits,key,asked⟩:=x
  simp only at hk
  subst hk
  have e0:En.v ⟨wb,wc,bits,some k,asked⟩=[.int .i64 wb,.int .i64 wc,.int .u64 bits,.pointer (some k),.int .i64 asked]:=rfl
  refine enterK (tb:=tb) Try.func12 rfl Try.ntmps12 rfl ?_
  simp only [kvC,B3L,e0]
  repeat' (first|(apply R.is1;first|(apply R.isBin;(apply R.pure;exact rfl;(apply Ok1.eqlP;(iterate 5 exact rfl))))|(apply R.pure;exact rfl;first|(apply Ok1.move;exact rfl)|(apply Ok1.assign;exact rfl))|(apply R.box;(iterate 3 exact rfl);intro))|apply R.nil|(apply T.is;first|(apply T.drawC (id:=5) [0,1,2,3] (by decide);((apply A.tk 0;exact rfl;kernel_rfl;(apply Ok1.move;exact rfl))<;>(apply A.tk 1;exact rfl;kernel_rfl;(apply Ok1.nilCheck;exact rfl))<;>(apply A.tk 2;exact rfl;kernel_rfl;(apply Ok1.fieldAddr;(iterate 5 exact rfl)))<;>(apply A.tk 3;exact rfl;kernel_rfl;(apply Ok1.load;exact rfl;(apply Ld.own1;exact rfl;exact rfl;(focus (repeat' first|exact At.head|apply At.tail);done);exact rfl)))<;>(apply A.tk 4;exact rfl;kernel_rfl;(apply Ok1.load;exact rfl;(apply Ld.ownk;exact rfl;exact rfl;exact At.head;exact rfl)))<;>(apply A.tk 5;exact rfl;kernel_rfl;(apply Ok1.lookup_some (kv:=kvC) (vv:=vvP) c ktK;(iterate 6 exact rfl);(focus (repeat' first|exact At.head|apply At.tail);done);assumption;(exact (if_neg Bool.false_ne_true).symm)))<;>((apply A.tk 6;exact rfl;kernel_rfl;(apply Ok1.eqlP;(iterate 5 exact rfl))))<;>(apply A.tk 7;exact rfl;kernel_rfl;(apply Ok1.move;exact rfl))<;>((apply A.tkG 8;(iterate 3 exact rfl);kernel_rfl;(apply Ok1.move;exact rfl)))<;>((apply A.tkG 9;(iterate 3 exact rfl);kernel_rfl;(apply Ok1.nilCheck;exact rfl)))<;>((apply A.tkG 10;(iterate 3 exact rfl);kernel_rfl;(apply Ok1.fieldAddr;(iterate 5 exact rfl))))<;>((apply A.tkG 11;(iterate 3 exact rfl);kernel_rfl;(apply Ok1.load;exact rfl;(apply Ld.own1;exact rfl;exact rfl;(focus (repeat' first|exact At.head|apply At.tail);done);exact rfl))))<;>((apply A.tkG 12;(iterate 3 exact rfl);kernel_rfl;(apply Ok1.load;exact rfl;(apply Ld.ownk;exact rfl;exact rfl;exact At.head;exact rfl))))<;>((apply A.tkG 13;(iterate 3 exact rfl);kernel_rfl;(apply Ok1.lookup_some (kv:=kvC) (vv:=vvP) c ktK;(iterate 6 exact rfl);(focus (repeat' first|exact At.head|apply At.tail);done);assumption;(exact (if_neg Bool.false_ne_true).symm))))<;>((apply A.tkG 14;(iterate 3 exact rfl);kernel_rfl;(apply Ok1.nilCheck;exact rfl)))<;>((apply A.tkG 15;(iterate 3 exact rfl);kernel_rfl;(apply Ok1.fieldAddr;(iterate 5 exact rfl))))<;>((apply A.tkG 16;(iterate 3 exact rfl);kernel_rfl;(apply Ok1.load;exact rfl;(apply Ld.own1;exact rfl;exact rfl;(focus (repeat' first|exact At.head|apply At.tail);done);exact rfl))))<;>((apply A.tkG 17;(iterate 3 exact rfl);kernel_rfl;(apply Ok1.neqP;(iterate 5 exact rfl))))<;>(apply A.tk 18;exact rfl;kernel_rfl;(apply Ok1.pick_f;exact rfl;exact rfl))<;>(apply A.tk 19;exact rfl;kernel_rfl;(apply Ok1.assign;exact rfl))<;>(apply A.done;kernel_rfl)))|apply T.seq|apply T.region|apply T.block|apply T.ret|(apply T.cond_t;exact rfl)|(apply T.cond_f;exact rfl)))
  (apply RetOk.t;exact rfl)
  exact ⟨_,by (focus (repeat' first|exact Keep.nil _|exact Ext.one _ _|apply Keep.cons|apply Ext.cons);done),rfl,rfl⟩
theorem putC_ok (hm:mget c ms=some blk) (hx:x.key=none) (bk:Nat) (K:List Int) (hK:K.length≤1000000) (w:World) (hkc:∀ w1,Chg (blks (B3L b bm ms clk blk x)) w w1→KeyR w1 bk K):CallM Try.prog 12 [.pointer (some ⟨b,0,none⟩),kvC c,.pointer (some ⟨bk,0,none⟩)] (B3L b bm ms clk blk x) w fun v L=>v = .int .i64 0∧∃ y:KE,y.K=K∧y.ok∧L=y.L++B3L b bm ms clk blk ⟨x.boot,x.ctr,x.bits,some ⟨y.bk,0,none⟩,x.asked⟩:=by
  have hby:=fun w1 h=>bytes_ok bk K (by omega) w1 h
  obtain ⟨wb,wc,bits,key,asked⟩:=x
  simp only at hx
  subst hx
  have e0:∀ k,En.v ⟨wb,wc,bits,k,asked⟩=[.int .i64 wb,.int .i64 wc,.int .u64 bits,.pointer k,.int .i64 asked]:=fun k=>rfl
  simp only [B3L,e0] at hkc ⊢
  refine enterK (tb:=tb) Try.func12 rfl Try.ntmps12 rfl ?_
  simp only [kvC]
  repeat' (first|(apply R.is1;first|(apply R.isBin;(apply R.pure;exact rfl;(apply Ok1.eqlP;(iterate 5 exact rfl))))|(apply R.pure;exact rfl;first|(apply Ok1.move;exact rfl)|(apply Ok1.assign;exact rfl))|(apply R.box;(iterate 3 exact rfl);intro))|apply R.nil|(apply T.is;first|(apply T.drawC (id:=5) [0,1,2,3] (by decide);((apply A.tk 0;exact rfl;kernel_rfl;(apply Ok1.move;exact rfl))<;>(apply A.tk 1;exact rfl;kernel_rfl;(apply Ok1.nilCheck;exact rfl))<;>(apply A.tk 2;exact rfl;kernel_rfl;(apply Ok1.fieldAddr;(iterate 5 exact rfl)))<;>(apply A.tk 3;exact rfl;kernel_rfl;(apply Ok1.load;exact rfl;(apply Ld.own1;exact rfl;exact rfl;(focus (repeat' first|exact At.head|apply At.tail);done);exact rfl)))<;>(apply A.tk 4;exact rfl;kernel_rfl;(apply Ok1.load;exact rfl;(apply Ld.ownk;exact rfl;exact rfl;exact At.head;exact rfl)))<;>(apply A.tk 5;exact rfl;kernel_rfl;(apply Ok1.lookup_some (kv:=kvC) (vv:=vvP) c ktK;(iterate 6 exact rfl);(focus (repeat' first|exact At.head|apply At.tail);done);assumption;(exact (if_neg Bool.false_ne_true).symm)))<;>((apply A.tk 6;exact rfl;kernel_rfl;(apply Ok1.eqlP;(iterate 5 exact rfl))))<;>(apply A.tk 7;exact rfl;kernel_rfl;(apply Ok1.move;exact rfl))<;>((apply A.tkG 8;(iterate 3 exact rfl);kernel_rfl;(apply Ok1.move;exact rfl)))<;>((apply A.tkG 9;(iterate 3 exact rfl);kernel_rfl;(apply Ok1.nilCheck;exact rfl)))<;>((apply A.tkG 10;(iterate 3 exact rfl);kernel_rfl;(apply Ok1.fieldAddr;(iterate 5 exact rfl))))<;>((apply A.tkG 11;(iterate 3 exact rfl);kernel_rfl;(apply Ok1.load;exact rfl;(apply Ld.own1;exact rfl;exact rfl;(focus (repeat' first|exact At.head|apply At.tail);done);exact rfl))))<;>((apply A.tkG 12;(iterate 3 exact rfl);kernel_rfl;(apply Ok1.load;exact rfl;(apply Ld.ownk;exact rfl;exact rfl;exact At.head;exact rfl))))<;>((apply A.tkG 13;(iterate 3 exact rfl);kernel_rfl;(apply Ok1.lookup_some (kv:=kvC) (vv:=vvP) c ktK;(iterate 6 exact rfl);(focus (repeat' first|exact At.head|apply At.tail);done);assumption;(exact (if_neg Bool.false_ne_true).symm))))<;>((apply A.tkG 14;(iterate 3 exact rfl);kernel_rfl;(apply Ok1.nilCheck;exact rfl)))<;>((apply A.tkG 15;(iterate 3 exact rfl);kernel_rfl;(apply Ok1.fieldAddr;(iterate 5 exact rfl))))<;>((apply A.tkG 16;(iterate 3 exact rfl);kernel_rfl;(apply Ok1.load;exact rfl;(apply Ld.own1;exact rfl;exact rfl;(focus (repeat' first|exact At.head|apply At.tail);done);exact rfl))))<;>((apply A.tkG 17;(iterate 3 exact rfl);kernel_rfl;(apply Ok1.neqP;(iterate 5 exact rfl))))<;>(apply A.tk 18;exact rfl;kernel_rfl;(apply Ok1.pick_f;exact rfl;exact rfl))<;>(apply A.tk 19;exact rfl;kernel_rfl;(apply Ok1.assign;exact rfl))<;>(apply A.done;kernel_rfl)))|(apply T.drawC (id:=7) [0,1,2] (by decide);((apply A.tk 0;exact rfl;kernel_rfl;(apply Ok1.move;exact rfl))<;>(apply A.tk 1;exact rfl;kernel_rfl;(apply Ok1.nilCheck;exact rfl))<;>(apply A.tk 2;exact rfl;kernel_rfl;(apply Ok1.fieldAddr;(iterate 5 exact rfl)))<;>(apply A.tk 3;exact rfl;kernel_rfl;(apply Ok1.load;exact rfl;(apply Ld.own1;exact rfl;exact rfl;(focus (repeat' first|exact At.head|apply At.tail);done);exact rfl)))<;>(apply A.tk 4;exact rfl;kernel_rfl;(apply Ok1.load;exact rfl;(apply Ld.ownk;exact rfl;exact rfl;exact At.head;exact rfl)))<;>(apply A.tk 5;exact rfl;kernel_rfl;(apply Ok1.lookup_some (kv:=kvC) (vv:=vvP) c ktK;(iterate 6 exact rfl);(focus (repeat' first|exact At.head|apply At.tail);done);assumption;(exact (if_neg Bool.false_ne_true).symm)))<;>(apply A.tk 6;exact rfl;kernel_rfl;(apply Ok1.move;exact rfl))<;>(apply A.one 7;kernel_rfl;exact rfl;(((apply R.callE (vs:=[.pointer (some ⟨bk,0,none⟩)]);(iterate 3 exact rfl);exact Ext.none _;intro w1 hw1;exact hby w1 (hkc w1 hw1.chg);rintro v Lo ⟨oc,hoc,rfl,rfl⟩;rw [slV_eq hoc])));apply R.nil;refine ⟨?_,?_⟩;(focus (repeat' first|exact trivial|exact At.head|apply At.tail|apply At.right|refine ⟨?_,?_⟩)))<;>(apply A.one 8;kernel_rfl;exact rfl;(((apply R.callE (vs:=[.slice (ovp oc) K.length (ovc oc K.length)]);(iterate 3 exact rfl);exact Ext.none _;intro w1 hw1;exact new_ok (ovp oc) K.length (ovc oc K.length) K rfl (by omega) w1 (rdown hoc hw1 (Ext.mem (by (focus ((repeat' (exact Ext.here _ _));done)))));rintro v Lo ⟨bk2,ov2,rfl,hov2,_,rfl⟩)));apply R.nil;refine ⟨?_,?_⟩;(focus (repeat' first|exact trivial|exact At.head|apply At.tail|apply At.right|refine ⟨?_,?_⟩)))<;>(apply A.tk 9;exact rfl;kernel_rfl;(apply Ok1.nilCheck;exact rfl))<;>(apply A.tk 10;exact rfl;kernel_rfl;(apply Ok1.fieldAddr;(iterate 5 exact rfl)))<;>(apply A.one 11;kernel_rfl;exact rfl;(((apply R.store;(iterate 6 exact rfl);(focus (repeat' first|exact Upd.head|apply Upd.tail|apply Upd.right);done);exact rfl)));apply R.nil;refine ⟨?_,?_⟩;(focus (repeat' first|exact trivial|exact At.head|apply At.tail|apply At.right|refine ⟨?_,?_⟩)))<;>(apply A.done;kernel_rfl)))|apply T.seq|apply T.region|apply T.block|apply T.skip|apply T.ret|(apply T.cond_f;exact rfl)))
  (apply RetOk.t;exact rfl)
  refine ⟨_,?_,rfl,⟨bk2,ov2,K⟩,rfl,hov2,rfl⟩
  simp only [KE.L,KL]
  generalize blkL 5 ov2 (u8s K)=K2
  (focus (repeat' first|exact Keep.nil _|exact Ext.one _ _|exact Ext.here _ _|apply Keep.cons|apply Keep.app|apply Ext.cons|apply Ext.app);done)
end
def posC (xs:List Cl) (pr:Cl→Bool):Int:=if xs.findIdx pr < xs.length then (xs.findIdx pr:Int) else -1
theorem posC_at {xs:List Cl} {pr:Cl→Bool} {i:Nat} {x:Cl} (h:∀ y∈xs.take i,pr y=false) (hx:xs[i]? = some x) (hp:pr x=true):posC xs pr=i:=by
  obtain ⟨hi,rfl⟩:=List.getElem?_eq_some_iff.1 hx
  have:xs.findIdx pr=i:=by
    rw [List.findIdx_eq hi]
    refine ⟨hp,fun j hj=>?_⟩
    exact h _ (List.mem_of_getElem? (i:=j) (by rw [List.getElem?_take_of_lt hj,List.getElem?_eq_getElem (by omega)]))
  rw [posC,this,if_pos hi]
theorem posC_none {xs:List Cl} {pr:Cl→Bool} (h:∀ y∈xs,pr y=false):posC xs pr = -1:=by
  rw [posC,if_neg]
  rw [List.findIdx_lt_length]
  rintro ⟨y,hy,hp⟩
  rw [h y hy] at hp;cases hp
theorem cidx_ok (p:Option Addr) (cap:Nat) (xs:List Cl) (hbig:xs.length≤1000000) (g:Nat) (hgc:tb.fns.contains g=true) (cb:List Value) (pr:Cl→Bool) (w:World) (hg:∀ x w1,Chg [] w w1→CallW Try.prog g ([.agg ⟨Cl.v x⟩]++cb) w1 fun v _=>v = .bool (pr x)) (hp:RdSl w p Cl.v xs) :
    CallW Try.prog 76 [.slice p xs.length cap,.func (.func g) #[] cb.toArray] w fun v _=>v = .int .i64 (posC xs pr):=by
  refine enterW (tb:=tb) Try.func76 rfl Try.ntmps76 rfl ?_
  repeat' (first|(apply R.is1;first|(apply R.isCall;(apply R.pure;exact rfl;(apply Ok1.lenS;(iterate 3 exact rfl))))|(apply R.pure;exact rfl;first|(apply Ok1.move;exact rfl)|(apply Ok1.assign;exact rfl)))|apply R.nil|(apply T.is;first|apply T.seq|apply T.region|apply T.block))
  apply T.loopK (α:=Nat) (I:=fun i=>i≤xs.length∧∀ x∈xs.take i,pr x=false) (σi:=fun i=>[(0,.slice p xs.length cap),(1,.func (.func g) #[] cb.toArray),(7,.int .i64 xs.length),(8,.int .i64 i)]) (Li:=fun _=>[]) (μ:=fun i=>xs.length - i) (i0:=0)
  · exact ⟨Nat.zero_le _,by simp⟩
  · exact ⟨rfl,rfl,rfl,rfl,trivial⟩
  · (focus ((repeat' (exact Keep.nil _));done))
  · intro i ⟨hi,hall⟩
    rcases Nat.lt_or_ge i xs.length with hlt|hge
    · obtain ⟨x,hx⟩:∃ x,xs[i]? = some x:=⟨_,List.getElem?_eq_getElem (by omega)⟩
      obtain ⟨bb,o,hpe,H⟩:=hp.at hx
      replace H:=H 4 Cl.v_len
      have hgx:=hg x
      cases hxi:pr x with
      | true =>
        simp only [hxi] at hgx
        repeat' (first|(apply R.is1;first|(apply R.isBin;(apply R.pure;exact rfl;(apply Ok1.lss_t;exact rfl;exact rfl;omega)))|(apply R.isCall;(apply R.callFV (fa:=[]) (cb:=cb) (vs:=[.agg ⟨x.v⟩]);exact rfl;exact hgc;exact rfl;exact rfl;intro w1 hw1;exact hgx w1 hw1.chg))|(apply R.pure;exact rfl;first|(apply Ok1.indexAddrP;(iterate 4 exact rfl);exact hpe;exact rfl;omega;omega)|(apply Ok1.load;exact rfl;apply Ld.rowk0 H;exact rfl;exact List.not_mem_nil;(iterate 3 exact rfl))|(apply Ok1.move;exact rfl)|(apply Ok1.assign;exact rfl)))|apply R.nil|(apply T.is;first|apply T.seq|apply T.region|apply T.block|apply T.skip|apply T.ret|(apply T.cond_t;exact rfl)))
        (apply RetOk.t;exact rfl)
        rw [posC_at hall hx hxi]
      | false =>
        simp only [hxi] at hgx
        repeat' (first|(apply R.is1;first|(apply R.isBin;(apply R.pure;exact rfl;first|(apply Ok1.add64;exact rfl;exact rfl;omega;omega)|(apply Ok1.lss_t;exact rfl;exact rfl;omega)))|(apply R.isCall;(apply R.callFV (fa:=[]) (cb:=cb) (vs:=[.agg ⟨x.v⟩]);exact rfl;exact hgc;exact rfl;exact rfl;intro w1 hw1;exact hgx w1 hw1.chg))|(apply R.pure;exact rfl;first|(apply Ok1.indexAddrP;(iterate 4 exact rfl);exact hpe;exact rfl;omega;omega)|(apply Ok1.load;exact rfl;apply Ld.rowk0 H;exact rfl;exact List.not_mem_nil;(iterate 3 exact rfl))|(apply Ok1.move;exact rfl)|(apply Ok1.assign;exact rfl)))|apply R.nil|(apply T.is;first|apply T.seq|apply T.region|apply T.block|apply T.skip|(apply T.cond_t;exact rfl)|(apply T.cond_f;exact rfl)))
        refine ⟨i+1,⟨by omega,?_⟩,by omega,⟨rfl,rfl,rfl,rfl,trivial⟩,by (focus ((repeat' (exact Keep.nil _));done))⟩
        intro y hy
        rw [List.take_add_one,hx] at hy
        rcases List.mem_append.1 hy with h|h
        · exact hall y h
        · simp only [Option.toList,List.mem_singleton] at h
          rw [h];exact hxi
    · have him:i=xs.length:=by omega
      subst him
      rw [List.take_length] at hall
      repeat' (first|(apply R.is1;first|(apply R.isBin;(apply R.pure;exact rfl;(apply Ok1.lss_f;exact rfl;exact rfl;omega)))|(apply R.pure;exact rfl;(apply Ok1.assign;exact rfl)))|apply R.nil|(apply T.is;first|apply T.seq|apply T.region|apply T.exit|apply T.ret|(apply T.cond_f;exact rfl)))
      (apply RetOk.t;exact rfl)
      rw [posC_none hall]
def cl0C:Cl:=⟨0,0,0,0⟩
theorem filt_noneC {xs:List Cl} {pr:Cl→Bool} (h:¬ xs.findIdx pr < xs.length):xs.filter (fun x=>!pr x)=xs:=by
  rw [List.filter_eq_self]
  intro x hx
  cases hp:pr x with
  | false=>rfl
  | true=>exact absurd (List.findIdx_lt_length.2 ⟨x,hx,hp⟩) h
theorem filt_preC {xs:List Cl} {pr:Cl→Bool}:(xs.take (xs.findIdx pr+1)).filter (fun x=>!pr x)=xs.take (xs.findIdx pr):=by
  rcases Nat.lt_or_ge (xs.findIdx pr) xs.length with h|h
  · rw [List.take_add_one,List.getElem?_eq_getElem h,List.filter_append]
    have h1:(xs.take (xs.findIdx pr)).filter (fun x=>!pr x)=xs.take (xs.findIdx pr):=by
      rw [List.filter_eq_self]
      intro x hx
      obtain ⟨i,hi,rfl⟩:=List.getElem_of_mem hx
      rw [List.getElem_take]
      rw [List.length_take] at hi
      have:=List.not_of_lt_findIdx (p:=pr) (xs:=xs) (i:=i) (by omega)
      simpa using this
    have h2:=List.findIdx_getElem (p:=pr) (xs:=xs) (w:=h)
    rw [h1]
    simp [h2]
  · rw [List.take_of_length_le (by omega),List.take_of_length_le h]
    exact filt_noneC (by omega)
theorem cdel_ok (ov:Ov) (xs:List Cl) (hov:OvOk 4 ov xs.length (fl Cl.v xs)) (hbig:xs.length≤1000000) (g:Nat) (hgc:tb.fns.contains g=true) (cb:List Value) (pr:Cl→Bool) (w:World) (hg:∀ x w1,Chg (blks (blkL 34 ov (fl Cl.v xs))) w w1→CallW Try.prog g ([.agg ⟨Cl.v x⟩]++cb) w1 fun v _=>v = .bool (pr x)) :
    CallM Try.prog 57 [slV ov xs.length,.func (.func g) #[] cb.toArray] (blkL 34 ov (fl Cl.v xs)) w fun v L=>∃ ov',OvOk 4 ov' (xs.filter (fun x=>!pr x)).length (fl Cl.v (xs.filter (fun x=>!pr x)))∧v=slV ov' (xs.filter (fun x=>!pr x)).length∧L=blkL 34 ov' (fl Cl.v (xs.filter (fun x=>!pr x))):=by
  have hidx:=fun w1 (hw1:Hp w (blks (blkL 34 ov (fl Cl.v xs))) (blkL 34 ov (fl Cl.v xs)) w1)=>cidx_ok (ovp ov) (ovc ov xs.length) xs hbig g hgc cb pr w1 (fun x w2 hc=>hg x w2 (hw1.chg.trans (hc.mono (by simp)))) (RdSl.own' hw1 (fun _ h=>h) hov Cl.v_len)
  rw [← slV_eq hov] at hidx
  by_cases hf:xs.findIdx pr < xs.length
  · have hpi:posC xs pr=((xs.findIdx pr:Nat):Int):=by rw [posC,if_pos hf]
    rw [hpi] at hidx
    have hpre:=filt_preC (xs:=xs) (pr:=pr)
    generalize hi0:xs.findIdx pr=i0 at *
    match ov,hov with
    | none,hov=>exact absurd hov.2 (by omega)
    | some (b,j,junk),hov =>
    have hjl:junk.length=j * 4:=hov.2
    refine enterK (tb:=tb) Try.func57 rfl Try.ntmps57 rfl ?_
    repeat' (first|(apply R.is1;first|(apply R.isBin;(apply R.pure;exact rfl;first|(apply Ok1.add64;exact rfl;exact rfl;omega;omega)|(apply Ok1.eql_f;exact rfl;exact rfl;omega)))|(apply R.isCall;(apply R.callV (vs:=[slV (some (b,j,junk)) xs.length,.func (.func g) #[] cb.toArray]);(iterate 3 exact rfl);intro w1 hw1;exact hidx w1 hw1))|(apply R.pure;exact rfl;first|(apply Ok1.move;exact rfl)|(apply Ok1.assign;exact rfl)))|apply R.nil|(apply T.is;first|apply T.seq|apply T.region|apply T.block|apply T.skip|(apply T.cond_f;exact rfl)))
    apply T.loopK (α:=Nat × Nat × List Cl) (I:=fun y=>y.1 < y.2.1∧y.2.1≤xs.length∧y.2.2.length=xs.length∧y.2.2.take y.1=(xs.take y.2.1).filter (fun x=>!pr x)∧y.2.2.drop y.2.1=xs.drop y.2.1)
      (σi:=fun y=>[(0,.slice (some ⟨b,0,none⟩) xs.length (xs.length+j)),(1,.func (.func g) #[] cb.toArray),(5,.int .i64 y.1),(6,.int .i64 y.2.1)]) (Li:=fun y=>[(b,.cells ⟨fl Cl.v y.2.2++junk⟩ 34 (0,0))]) (μ:=fun y=>xs.length - y.2.1) (i0:=(i0,i0+1,xs))
    · exact ⟨by simp,by simp only;omega,rfl,hpre.symm,rfl⟩
    · exact ⟨rfl,rfl,rfl,rfl,trivial⟩
    · (focus (repeat' first|exact Keep.nil _|exact Ext.one _ _|apply Keep.cons);done)
    · rintro ⟨i,k,cur⟩ ⟨hik,hkn,hcl,htk,hdk⟩
      simp only at hik hkn hcl htk hdk ⊢
      rcases Nat.lt_or_ge k xs.length with hlt|hge
      · obtain ⟨x,hx⟩:∃ x,xs[k]? = some x:=⟨_,List.getElem?_eq_getElem (by omega)⟩
        have hxc:cur[k]? = some x:=by
          have h1:(cur.drop k)[0]? = (xs.drop k)[0]?:=by rw [hdk]
          simpa [hx] using h1
        have hset:=setE_row (v:=Cl.v) Cl.v_len (l:=cur) (i:=i) (by omega) x junk
        have hd2:cur.drop (k+1)=xs.drop (k+1):=by
          have:=congrArg (List.drop 1) hdk
          simpa [List.drop_drop] using this
        have htk2:(cur.set i x).take (i+1)=cur.take i++[x]:=by
          rw [List.take_add_one,List.take_set_of_le (Nat.le_refl _),List.getElem?_set_self (by omega)]
          rfl
        have hgx:=fun w1 (hc:Chg [b] w w1)=>hg x w1 hc
        cases hpx:pr x with
        | true =>
          simp only [hpx] at hgx
          have hft:(xs.take (k+1)).filter (fun x=>!pr x)=(xs.take k).filter (fun x=>!pr x):=by
            rw [List.take_add_one,hx,List.filter_append]
            simp [hpx]
          repeat' (first|(apply R.is1;first|(apply R.isBin;(apply R.pure;exact rfl;first|(apply Ok1.add64;exact rfl;exact rfl;omega;omega)|(apply Ok1.lss_t;exact rfl;exact rfl;omega)))|(apply R.isCall;first|(apply R.callFV (fa:=[]) (cb:=cb) (vs:=[.agg ⟨x.v⟩]);exact rfl;exact hgc;exact rfl;exact rfl;intro w1 hw1;exact hgx w1 hw1.chg)|(apply R.pure;exact rfl;(apply Ok1.lenS;(iterate 3 exact rfl))))|(apply R.pure;exact rfl;first|(apply Ok1.indexAddr;(iterate 5 exact rfl);omega;omega)|(apply Ok1.load;exact rfl;first|(apply Ld.ownrowk (f:=0);(focus (repeat' first|exact At.head|apply At.tail);done);exact Cl.v_len;exact hxc;(focus ((simp;done)));(iterate 3 exact rfl))|(apply Ld.ownk;exact rfl;exact rfl;exact At.head;exact rfl))|(apply Ok1.move;exact rfl)|(apply Ok1.assign;exact rfl)|(apply Ok1.not_t;exact rfl))|(apply R.alloc;(iterate 3 exact rfl);intro))|(apply R.is0;(apply R.store;(iterate 6 exact rfl);exact Upd.head;exact rfl))|apply R.nil|(apply T.is;first|apply T.seq|apply T.region|apply T.block|apply T.skip|(apply T.cond_t;exact rfl)|(apply T.cond_f;exact rfl)))
          exact ⟨(i,k+1,cur),⟨by simp only;omega,by simp only;omega,hcl,by simp only;rw [hft];exact htk,hd2⟩,by simp only;omega,⟨rfl,rfl,rfl,rfl,trivial⟩,by (focus (repeat' first|exact Keep.nil _|exact Ext.one _ _|apply Keep.cons|apply Ext.cons);done)⟩
        | false =>
          simp only [hpx] at hgx
          have hft:(xs.take (k+1)).filter (fun x=>!pr x)=(xs.take k).filter (fun x=>!pr x)++[x]:=by
            rw [List.take_add_one,hx,List.filter_append]
            simp [hpx]
          repeat' (first|(apply R.is1;first|(apply R.isBin;(apply R.pure;exact rfl;first|(apply Ok1.add64;exact rfl;exact rfl;omega;omega)|(apply Ok1.lss_t;exact rfl;exact rfl;omega)))|(apply R.isCall;first|(apply R.callFV (fa:=[]) (cb:=cb) (vs:=[.agg ⟨x.v⟩]);exact rfl;exact hgc;exact rfl;exact rfl;intro w1 hw1;exact hgx w1 hw1.chg)|(apply R.pure;exact rfl;(apply Ok1.lenS;(iterate 3 exact rfl))))|(apply R.pure;exact rfl;first|(apply Ok1.indexAddr;(iterate 5 exact rfl);omega;omega)|(apply Ok1.load;exact rfl;first|(apply Ld.ownrowk (f:=0);(focus (repeat' first|exact At.head|apply At.tail);done);exact Cl.v_len;exact hxc;(focus ((simp;done)));(iterate 3 exact rfl))|(apply Ld.ownk;exact rfl;exact rfl;exact At.head;exact rfl))|(apply Ok1.move;exact rfl)|(apply Ok1.assign;exact rfl)|(apply Ok1.not_f;exact rfl))|(apply R.alloc;(iterate 3 exact rfl);intro))|(apply R.is0;first|(apply R.store;(iterate 5 exact rfl);exact (rfl:(Cl.v x).all Value.oneCell'=true);(focus (repeat' first|exact Upd.head|apply Upd.tail);done);exact hset)|(apply R.store;(iterate 6 exact rfl);exact Upd.head;exact rfl))|apply R.nil|(apply T.is;first|apply T.seq|apply T.region|apply T.block|apply T.skip|(apply T.cond_t;exact rfl)))
          exact ⟨(i+1,k+1,cur.set i x),⟨by simp only;omega,by simp only;omega,by simp only;rw [List.length_set];exact hcl,by simp only;rw [hft,htk2,htk],by simp only;rw [List.drop_set_of_lt (by omega)];exact hd2⟩,by simp only;omega,⟨rfl,rfl,rfl,rfl,trivial⟩,by (focus (repeat' first|exact Keep.nil _|exact Ext.one _ _|apply Keep.cons|apply Ext.cons);done)⟩
      · have hkn':k=xs.length:=by omega
        subst hkn'
        rw [List.take_length] at htk
        have hfl:(xs.filter fun x=>!pr x).length=i:=by rw [← htk,List.length_take];omega
        have hflen:(fl Cl.v (cur.drop i)).length=(xs.length - i) * 4:=by rw [fl_len Cl.v_len,List.length_drop,hcl]
        have hcells:fl Cl.v cur++junk=fl Cl.v (cur.take i)++(fl Cl.v (cur.drop i)++junk):=by
          rw [← List.append_assoc,← fl_app,List.take_append_drop]
        have hzl:(List.replicate (xs.length - i) (Cl.v cl0C)).flatten.length=(xs.length - i) * 4:=by simp [Cl.v_len]
        have hclr:setE (fl Cl.v cur++junk) (i * 4) (List.replicate (xs.length - i) (Cl.v cl0C)).flatten=some (fl Cl.v (cur.take i)++((List.replicate (xs.length - i) (Cl.v cl0C)).flatten++junk)):=by
          rw [hcells]
          have h1:=setE_mid (fl Cl.v (cur.take i)) (vs:=(List.replicate (xs.length - i) (Cl.v cl0C)).flatten) (junk:=fl Cl.v (cur.drop i)++junk) (by rw [hzl,List.length_append,hflen];omega)
          rw [show (fl Cl.v (cur.take i)).length=i * 4 by rw [fl_len Cl.v_len,List.length_take];congr 1;omega] at h1
          rw [h1,hzl,← hflen,List.drop_left,List.append_assoc]
        repeat' (first|(apply R.is1;first|(apply R.isBin;(apply R.pure;exact rfl;(apply Ok1.lss_f;exact rfl;exact rfl;omega)))|(apply R.isCall;(apply R.pure;exact rfl;(apply Ok1.lenS;(iterate 3 exact rfl))))|(apply R.pure;exact rfl;first|(apply Ok1.sufB (sz:=4);(iterate 6 exact rfl);omega;omega;omega)|(apply Ok1.preB;(iterate 5 exact rfl);omega)|(apply Ok1.move;exact rfl)|(apply Ok1.assign;exact rfl)))|(apply R.is0;(apply R.clearG (zc:=Cl.v cl0C) (n:=xs.length - i);(iterate 4 exact rfl);exact (by decide);exact rfl;exact rfl;omega;exact Upd.head;exact hclr))|apply R.nil|(apply T.is;first|apply T.seq|apply T.region|apply T.exit|apply T.ret|(apply T.cond_f;exact rfl)))
        (apply RetOk.t;exact rfl)
        refine ⟨_,?_,some (b,j+(xs.length - i),(List.replicate (xs.length - i) (Cl.v cl0C)).flatten++junk),⟨?_,?_⟩,?_,rfl⟩
        · rw [← htk]
          (focus (repeat' first|exact Keep.nil _|exact Ext.one _ _|apply Keep.cons);done)
        · rw [fl_len Cl.v_len]
        · show _=_
          rw [List.length_append,hzl,hjl,Nat.add_mul];omega
        · rw [hfl]
          show Value.slice _ _ _=Value.slice _ _ _
          rw [show i+(j+(xs.length - i))=xs.length+j by omega]
  · have hpi:posC xs pr = -1:=by rw [posC,if_neg hf]
    rw [hpi] at hidx
    rw [filt_noneC hf]
    have hbb:blks (blkL 34 ov (fl Cl.v xs))=blks (blkL 34 ov (fl Cl.v xs)):=rfl
    refine enterK (tb:=tb) Try.func57 rfl Try.ntmps57 rfl ?_
    repeat' (first|(apply R.is1;first|(apply R.isBin;(apply R.pure;exact rfl;(apply Ok1.eql_t;exact rfl;exact rfl;omega)))|(apply R.isCall;(apply R.callV (vs:=[slV ov xs.length,.func (.func g) #[] cb.toArray]);(iterate 3 exact rfl);intro w1 hw1;exact hidx w1 hw1))|(apply R.pure;exact rfl;first|(apply Ok1.move;exact rfl)|(apply Ok1.assign;exact rfl)))|apply R.nil|(apply T.is;first|apply T.seq|apply T.region|apply T.ret|(apply T.cond_t;exact rfl)))
    (apply RetOk.t;exact rfl)
    exact ⟨_,by (focus (repeat' first|exact Ext.all _|apply Keep.last);done),ov,hov,rfl,rfl⟩

theorem cindex_ok (p:Option Addr) (cap:Nat) (xs:List Cl) (hbig:xs.length≤1000000) (c:Cl) (w:World) (hp:RdSl w p Cl.v xs) :
    CallW Try.prog 77 [.slice p xs.length cap,kvC c] w fun v _=>v = .int .i64 (posC xs fun x=>decide (c=x)):=by
  refine enterW (tb:=tb) Try.func77 rfl Try.ntmps77 rfl ?_
  simp only [kvC]
  repeat' (first|(apply R.is1;first|(apply R.isCall;(apply R.pure;exact rfl;(apply Ok1.lenS;(iterate 3 exact rfl))))|(apply R.pure;exact rfl;first|(apply Ok1.move;exact rfl)|(apply Ok1.assign;exact rfl))|(apply R.box;(iterate 3 exact rfl);intro))|apply R.nil|(apply T.is;first|apply T.seq|apply T.region|apply T.block))
  rename_i bc
  apply T.loopK (α:=Nat) (I:=fun i=>i≤xs.length∧∀ x∈xs.take i,(decide (c=x))=false) (σi:=fun i=>[(0,.slice p xs.length cap),(3,.pointer (some ⟨bc,0,none⟩)),(7,.int .i64 xs.length),(8,.int .i64 i)]) (Li:=fun _=>[(bc,.cells ⟨[.int .i64 c.id,.int .i64 c.roles,.int .i64 c.exp,.int .i64 c.ser]⟩ 34 (0,0))]) (μ:=fun i=>xs.length - i) (i0:=0)
  · exact ⟨Nat.zero_le _,by simp⟩
  · exact ⟨rfl,rfl,rfl,rfl,trivial⟩
  · (focus (repeat' first|exact Keep.nil _|exact Ext.one _ _|apply Keep.cons);done)
  · intro i ⟨hi,hall⟩
    rcases Nat.lt_or_ge i xs.length with hlt|hge
    · obtain ⟨x,hx⟩:∃ x,xs[i]? = some x:=⟨_,List.getElem?_eq_getElem (by omega)⟩
      obtain ⟨bb,o,hpe,H⟩:=hp.at hx
      replace H:=H 4 Cl.v_len
      repeat' (first|(apply R.is1;first|(apply R.isBin;(apply R.pure;exact rfl;first|(apply Ok1.add64;exact rfl;exact rfl;omega;omega)|(apply Ok1.lss_t;exact rfl;exact rfl;omega)))|(apply R.pure;exact rfl;first|(apply Ok1.move;exact rfl)|(apply Ok1.assign;exact rfl)))|apply R.nil|(apply T.is;first|(apply T.drawC (id:=4) [0] (by decide);((apply A.tk 0;exact rfl;kernel_rfl;(apply Ok1.load;exact rfl;(apply Ld.ownk;exact rfl;exact rfl;exact At.head;exact rfl)))<;>(apply A.tk 1;exact rfl;kernel_rfl;(apply Ok1.move;exact rfl))<;>(apply A.tk 2;exact rfl;kernel_rfl;(apply Ok1.move;exact rfl))<;>(apply A.tk 3;exact rfl;kernel_rfl;(apply Ok1.indexAddrP;(iterate 4 exact rfl);exact hpe;exact rfl;omega;omega))<;>(apply A.tk 4;exact rfl;kernel_rfl;(apply Ok1.load;exact rfl;apply Ld.rowk0 H;exact rfl;exact List.not_mem_nil;(iterate 3 exact rfl)))<;>((apply A.tk 5;exact rfl;kernel_rfl;((apply Ok1.eqlF;(iterate 7 exact rfl)));apply A.dec (t:=16);exact rfl;all_goals intro))<;>(apply A.done;kernel_rfl)))|apply T.seq|apply T.region|apply T.block|apply T.skip|apply T.ret|(apply T.cond_t;exact rfl)|(apply T.cond_f;exact rfl)))
      · have hc:c=x:=clvinjK.1 ‹_›
        (apply RetOk.t;exact rfl)
        rw [posC_at hall hx (decide_eq_true hc)]
      · have hc:c≠x:=fun h=>absurd (clvinjK.2 h) ‹_›
        refine ⟨i+1,⟨by omega,?_⟩,by omega,⟨rfl,rfl,rfl,rfl,trivial⟩,by (focus (repeat' first|exact Keep.nil _|exact Ext.one _ _|apply Keep.cons);done)⟩
        intro y hy
        rw [List.take_add_one,hx] at hy
        rcases List.mem_append.1 hy with h|h
        · exact hall y h
        · simp only [Option.toList,List.mem_singleton] at h
          rw [h];exact decide_eq_false hc
    · have him:i=xs.length:=by omega
      subst him
      rw [List.take_length] at hall
      repeat' (first|(apply R.is1;first|(apply R.isBin;(apply R.pure;exact rfl;(apply Ok1.lss_f;exact rfl;exact rfl;omega)))|(apply R.pure;exact rfl;(apply Ok1.assign;exact rfl)))|apply R.nil|(apply T.is;first|apply T.seq|apply T.region|apply T.exit|apply T.ret|(apply T.cond_f;exact rfl)))
      (apply RetOk.t;exact rfl)
      rw [posC_none hall]
theorem ccont_ok (p:Option Addr) (cap:Nat) (xs:List Cl) (hbig:xs.length≤1000000) (c:Cl) (w:World) (hp:RdSl w p Cl.v xs) :
    CallW Try.prog 59 [.slice p xs.length cap,kvC c] w fun v _=>v = .bool (decide (c∈xs)):=by
  have hix:=fun w1 (hc:Chg [] w w1)=>cindex_ok p cap xs hbig c w1 (hp.chg hc (Off.nil _))
  simp only [kvC] at hix ⊢
  by_cases hm:c∈xs
  · have hps:0≤posC xs (fun x=>decide (c=x)):=by
      rw [posC,if_pos (List.findIdx_lt_length.2 ⟨c,hm,decide_eq_true rfl⟩)];omega
    have hle:posC xs (fun x=>decide (c=x))≤1000000:=by
      unfold posC;split<;>omega
    generalize posC xs (fun x=>decide (c=x))=P at *
    rw [decide_eq_true hm]
    refine enterW (tb:=tb) Try.func59 rfl Try.ntmps59 rfl ?_
    repeat' (first|(apply R.is1;first|(apply R.isBin;(apply R.pure;exact rfl;(apply Ok1.geq_t;exact rfl;exact rfl;omega)))|(apply R.isCall;(apply R.callV (vs:=[.slice p xs.length cap,.agg ⟨_⟩]);(iterate 3 exact rfl);intro w1 hw1;exact hix w1 hw1.chg))|(apply R.pure;exact rfl;first|(apply Ok1.load;exact rfl;(apply Ld.ownk;exact rfl;exact rfl;exact At.head;exact rfl))|(apply Ok1.move;exact rfl)|(apply Ok1.assign;exact rfl))|(apply R.box;(iterate 3 exact rfl);intro))|apply R.nil|(apply T.is;first|apply T.seq|apply T.region|apply T.ret))
    all_goals skip
    (apply RetOk.t;exact rfl)
    rfl
  · have hps:posC xs (fun x=>decide (c=x)) = -1:=posC_none fun y hy=>decide_eq_false fun e=>hm (e ▸ hy)
    simp only [hps] at hix
    rw [decide_eq_false hm]
    refine enterW (tb:=tb) Try.func59 rfl Try.ntmps59 rfl ?_
    repeat' (first|(apply R.is1;first|(apply R.isBin;(apply R.pure;exact rfl;(apply Ok1.geq_f;exact rfl;exact rfl;omega)))|(apply R.isCall;(apply R.callV (vs:=[.slice p xs.length cap,.agg ⟨_⟩]);(iterate 3 exact rfl);intro w1 hw1;exact hix w1 hw1.chg))|(apply R.pure;exact rfl;first|(apply Ok1.load;exact rfl;(apply Ld.ownk;exact rfl;exact rfl;exact At.head;exact rfl))|(apply Ok1.move;exact rfl)|(apply Ok1.assign;exact rfl))|(apply R.box;(iterate 3 exact rfl);intro))|apply R.nil|(apply T.is;first|apply T.seq|apply T.region|apply T.ret))
    (apply RetOk.t;exact rfl)
    rfl
theorem CallM.part6 {P:Program} {f:FuncId} {vs:List Value} {L Li Lr:Lst} {w:World} {R R':Value→Lst→Prop} (he:Ext L Li Lr) (h:CallM P f vs Li w R) (hr:∀ v Lo,R v Lo→∃ L',Keep (Lo++Lr) L' ∧ R' v L'):CallM P f vs L w R' :=
  ⟨fun hw=>by
    have hw2:=hw.perm he.perm
    have hin:Hp w (blks Li) Li w:=⟨.refl _ _,fun b o hm=>hw2.get b o (List.mem_append_left _ hm),(List.nodup_append.1 (by have:=hw2.nod;rwa [List.map_append] at this)).1,fun b o hm=>.inr (List.mem_map.2 ⟨(b,o),hm,rfl⟩)⟩
    refine (h.run hin).mono fun e w' ⟨v,Lo,h1,h2,h3⟩=>?_
    obtain ⟨L',h4,h5⟩:=hr v Lo h2
    exact ⟨v,L',h1,h5,(hw2.callM h3).keep h4⟩⟩
def dropM (cs:List Cl) (ms:Ms Cl Nat):Ms Cl Nat:=ms.filter fun x=>decide (x.1 ∉ cs)
theorem mdel_filt {κ α:Type} [DecidableEq κ] (k:κ):∀ {ms:Ms κ α},(mkeys ms).Nodup→mdel k ms=ms.filter fun x=>decide (x.1≠k)
  | [],_=>rfl
  | x :: r,h=>by
    simp only [mkeys,List.map_cons,List.nodup_cons] at h
    by_cases hx:x.1=k
    · simp only [mdel,hx,if_true,List.filter_cons,ne_eq,not_true_eq_false,decide_false,Bool.false_eq_true,if_false]
      rw [List.filter_eq_self.2]
      intro y hy
      refine decide_eq_true fun e=>h.1 ?_
      rw [hx,← e]
      exact List.mem_map_of_mem hy
    · simp only [mdel,hx,if_false,List.filter_cons,ne_eq,not_false_eq_true,decide_true,if_true]
      rw [mdel_filt k h.2]
theorem dropM_nil (ms:Ms Cl Nat):dropM [] ms=ms:=by simp [dropM]
theorem dropM_snoc {ms:Ms Cl Nat} (h:(mkeys ms).Nodup) (cs:List Cl) (c:Cl):mdel c (dropM cs ms)=dropM (cs++[c]) ms:=by
  rw [mdel_filt]
  · unfold dropM
    rw [List.filter_filter]
    congr 1
    funext x
    simp only [ne_eq,List.mem_append,List.mem_singleton,not_or,Bool.decide_and,Bool.and_comm]
  · exact (List.Sublist.map _ List.filter_sublist).nodup h
theorem dropM_le (cs:List Cl) (ms:Ms Cl Nat):(dropM cs ms).length≤ms.length:=List.length_filter_le ..
section
variable (b bm:Nat) (ms:Ms Cl Nat) (clk:Nat)
theorem dropC_ok (hnd:(mkeys ms).Nodup) (hl:ms.length≤1000) (p:Option Addr) (cap:Nat) (cs:List Cl) (hcs:cs.length≤1000) (w:World) (hp:RdSl w p Cl.v cs) (hq:cs≠[]→Off p [b,bm]) :
    CallM Try.prog 19 [.pointer (some ⟨b,0,none⟩),.slice p cs.length cap] (B2L b bm ms clk) w fun v L=>v = .int .i64 ((ms.length:Int) - (dropM cs ms).length)∧L=B2L b bm (dropM cs ms) clk:=by
  have hln:=fun ms w1=>lenC_ok b bm ms clk w1
  refine enterK (tb:=tb) Try.func19 rfl Try.ntmps19 rfl ?_
  simp only [B2L] at hln ⊢
  repeat' (first|(apply R.is1;first|(apply R.isCall;first|(apply R.callE (Li:=[(b,.cells ⟨[.map (some bm)]⟩ 96 (0,0)),(bm,mobj kvC vvP ms clk)]) (vs:=[.pointer (some ⟨b,0,none⟩)]);(iterate 3 exact rfl);(focus ((repeat' (exact Ext.all _));done));intro w1 hw1;exact hln ms w1;rintro v Lo ⟨rfl,rfl⟩;simp only [List.cons_append,List.nil_append])|(apply R.pure;exact rfl;(apply Ok1.lenS;(iterate 3 exact rfl))))|(apply R.pure;exact rfl;first|(apply Ok1.move;exact rfl)|(apply Ok1.assign;exact rfl)))|apply R.nil|(apply T.is;first|apply T.seq|apply T.region|apply T.block))
  apply T.loopK (α:=Nat) (I:=fun i=>i≤cs.length) (σi:=fun i=>[(0,.pointer (some ⟨b,0,none⟩)),(5,.int .i64 ms.length),(10,.slice p cs.length cap),(11,.int .i64 cs.length),(12,.int .i64 i)]) (Li:=fun i=>[(b,.cells ⟨[.map (some bm)]⟩ 96 (0,0)),(bm,mobj kvC vvP (dropM (cs.take i) ms) clk)]) (μ:=fun i=>cs.length - i) (i0:=0)
  · exact Nat.zero_le _
  · exact ⟨rfl,rfl,rfl,rfl,rfl,trivial⟩
  · rw [List.take_zero,dropM_nil];(focus (repeat' first|exact Keep.nil _|exact Ext.one _ _|apply Keep.cons);done)
  intro i hi
  rcases Nat.lt_or_ge i cs.length with hlt|hge
  · obtain ⟨c,hc⟩:∃ c,cs[i]? = some c:=⟨_,List.getElem?_eq_getElem hlt⟩
    obtain ⟨bb,o,hpe,H⟩:=hp.at hc
    replace H:=H 4 Cl.v_len
    have hS:bb ∉ [b,bm]:=hq (fun e=>by rw [e] at hlt;simp at hlt) _ hpe
    have hsn:=dropM_snoc hnd (cs.take i) c
    have htk:cs.take (i+1)=cs.take i++[c]:=by rw [List.take_add_one,hc];rfl
    rw [← htk] at hsn
    repeat' (first|(apply R.is1;first|(apply R.isBin;(apply R.pure;exact rfl;first|(apply Ok1.neqP;(iterate 5 exact rfl))|(apply Ok1.add64;exact rfl;exact rfl;omega;omega)|(apply Ok1.lss_t;exact rfl;exact rfl;omega)))|(apply R.pure;exact rfl;first|(apply Ok1.indexAddrP;(iterate 4 exact rfl);exact hpe;exact rfl;omega;omega)|(apply Ok1.load;exact rfl;(apply Ld.rowk0 H;exact rfl;exact hS;(iterate 3 exact rfl)))|(apply Ok1.move;exact rfl))|(apply R.alloc;(iterate 3 exact rfl);intro))|(apply R.is0;(apply R.store;(iterate 6 exact rfl);exact Upd.head;exact rfl))|apply R.nil|(apply T.is;first|(apply T.drawC (id:=6) [0,1] (by decide);((apply A.tk 0;exact rfl;kernel_rfl;(apply Ok1.move;exact rfl))<;>(apply A.tk 1;exact rfl;kernel_rfl;(apply Ok1.nilCheck;exact rfl))<;>(apply A.tk 2;exact rfl;kernel_rfl;(apply Ok1.fieldAddr;(iterate 5 exact rfl)))<;>(apply A.tk 3;exact rfl;kernel_rfl;(apply Ok1.load;exact rfl;(apply Ld.own1;exact rfl;exact rfl;(focus (repeat' first|exact At.head|apply At.tail);done);exact rfl)))<;>(apply A.tk 4;exact rfl;kernel_rfl;(apply Ok1.load;exact rfl;(apply Ld.ownk;exact rfl;exact rfl;exact At.head;exact rfl)))<;>(apply A.one 5;kernel_rfl;exact rfl;(((apply R.mapDel (vd:=none) (kv:=kvC) (vv:=vvP) c ktK;(iterate 5 exact rfl);(focus (repeat' first|exact Upd.head|apply Upd.tail);done))));apply R.nil;refine ⟨?_,?_⟩;(focus (repeat' first|exact trivial|exact At.head|apply At.tail|refine ⟨?_,?_⟩)))<;>(apply A.done;kernel_rfl)))|apply T.seq|apply T.region|apply T.block|apply T.skip|(apply T.cond_t;exact rfl)))
    all_goals refine ⟨i+1,by omega,by omega,⟨rfl,rfl,rfl,rfl,rfl,trivial⟩,?_⟩
    all_goals rw [← hsn]
    all_goals (focus (repeat' first|exact Keep.nil _|exact Ext.one _ _|apply Keep.cons|apply Ext.cons);done)
  · have him:i=cs.length:=by omega
    subst him
    rw [List.take_of_length_le (Nat.le_refl _)]
    have hle:=dropM_le cs ms
    repeat' (first|(apply R.is1;first|(apply R.isBin;(apply R.pure;exact rfl;first|(apply Ok1.sub64;exact rfl;exact rfl;omega;omega)|(apply Ok1.lss_f;exact rfl;exact rfl;omega)))|(apply R.isCall;(apply R.callE (Li:=[(b,.cells ⟨[.map (some bm)]⟩ 96 (0,0)),(bm,mobj kvC vvP (dropM cs ms) clk)]) (vs:=[.pointer (some ⟨b,0,none⟩)]);(iterate 3 exact rfl);(focus ((repeat' (exact Ext.all _));done));intro w1 hw1;exact hln (dropM cs ms) w1;rintro v Lo ⟨rfl,rfl⟩;simp only [List.cons_append,List.nil_append]))|(apply R.pure;exact rfl;first|(apply Ok1.move;exact rfl)|(apply Ok1.assign;exact rfl)))|apply R.nil|(apply T.is;first|apply T.seq|apply T.region|apply T.exit|apply T.ret|(apply T.cond_f;exact rfl)))
    (apply RetOk.t;exact rfl)
    exact ⟨_,by (focus (repeat' first|exact Keep.nil _|exact Ext.one _ _|apply Keep.cons);done),rfl,rfl⟩
end
/-- One entry,in the book's blocks. -/
theorem bls_app (a b:BS):bls (a++b)=bls a++bls b:=by simp [bls]
theorem es_at {es:BS} {i:Nat} {e:BE} (h:es[i]? = some e):es=es.take i++e::es.drop (i+1):=by
  obtain ⟨hi,rfl⟩:=List.getElem?_eq_some_iff.1 h
  rw [List.getElem_cons_drop,List.take_append_drop]
theorem BL_ext {es:BS} {i:Nat} {e:BE} (h:es[i]? = some e) (b bm clk:Nat):Ext (BL b bm es clk) (B3L b bm (bms es) clk e.blk e.e) (bls (es.take i)++bls (es.drop (i+1))):=by
  have hb:bls es=bls (es.take i)++(e.blk,.cells ⟨e.e.v⟩ 103 (0,0))::bls (es.drop (i+1)):=by
    conv=>lhs;rw [es_at h]
    rw [bls_app];rfl
  unfold BL B3L
  rw [hb]
  exact .two _ (.one _ _) (.two _ (.one _ _) (.app _ (.one _ _)))
def setE6 (es:BS) (i:Nat) (e:BE) (x:En):BS:=es.set i ⟨e.c,e.blk,e.born,x⟩
theorem setE6_bms {es:BS} {i:Nat} {e:BE} (h:es[i]? = some e) (x:En):bms (setE6 es i e x)=bms es:=by
  unfold bms setE6
  rw [List.map_set]
  apply List.ext_getElem?
  intro j
  rw [List.getElem?_set]
  split
  · rename_i hj
    subst hj
    rw [List.length_map]
    have hi:=(List.getElem?_eq_some_iff.1 h).1
    rw [if_pos hi,List.getElem?_map,h]
    rfl
  · rfl
theorem setE6_at {es:BS} {i:Nat} {e:BE} (h:es[i]? = some e) (x:En):setE6 es i e x=es.take i++⟨e.c,e.blk,e.born,x⟩::es.drop (i+1):=by
  unfold setE6
  rw [List.set_eq_take_append_cons_drop,if_pos (List.getElem?_eq_some_iff.1 h).1]
theorem BL_keep {es:BS} {i:Nat} {e:BE} (h:es[i]? = some e) (b bm clk:Nat) (x:En) (A:Lst):Keep ((A++B3L b bm (bms es) clk e.blk x)++(bls (es.take i)++bls (es.drop (i+1)))) (A++BL b bm (setE6 es i e x) clk):=by
  have hb:bls (setE6 es i e x)=bls (es.take i)++([(e.blk,.cells ⟨x.v⟩ 103 (0,0))]++bls (es.drop (i+1))):=by
    rw [setE6_at h,bls_app];rfl
  unfold BL B3L
  rw [hb,setE6_bms h,List.append_assoc]
  simp only [List.cons_append,List.nil_append]
  exact .app (.here _ _) (.cons (.one _ _) (.cons (.one _ _) (.app (.cons _ (.here _ _)) (.cons (.one _ _) (.last (.all _))))))
end Go.Proofs.Ytijbmkjebidanaa
set_option linter.unusedSimpArgs false
set_option linter.unusedVariables false
namespace Go.Proofs.Ytijbmkjebidanaa
open Go.RowKit Go.Shelf Go.Sort
set_option maxRecDepth 100000
theorem keepC_perm:∀ {L' L r:Lst},(L'++r).Perm L→Keep L L'
  | [],L,r,_=>.nil L
  | x :: R,L,r,h=>by
    have hx:x∈L:=h.subset (by simp)
    obtain ⟨A,B,rfl⟩:=List.append_of_mem hx
    refine .cons (L1:=A++B) (.app A (.one x B)) (keepC_perm (r:=r) ?_)
    have h2:(x::(R++r)).Perm (x::(A++B)):=by
      rw [← List.cons_append]
      exact h.trans List.perm_middle
    exact h2.cons_inv
theorem keepC_sub {A B:Lst} (h:A.Sublist B):Keep B A:=by
  obtain ⟨r,hr⟩:=h.exists_perm_append
  exact keepC_perm (r:=r) hr.symm
theorem bms_keys (es:BS):mkeys (bms es)=es.map BE.c:=by simp [mkeys,bms]
theorem es_one {es:BS} (hnd:(es.map BE.c).Nodup) {x y:BE} (hx:x∈es) (hy:y∈es) (h:x.c=y.c):x=y:=by
  obtain ⟨i,hi,rfl⟩:=List.mem_iff_getElem.1 hx
  obtain ⟨j,hj,rfl⟩:=List.mem_iff_getElem.1 hy
  have:=(List.getElem_inj (xs:=es.map BE.c) (i:=i) (j:=j) (h₀:=by simpa using hi) (h₁:=by simpa using hj) hnd).1 (by simpa using h)
  subst this
  rfl
/-- The claims of those entries of which q says yes,sorted. -/
def ResC (q:En→Bool) (b bm:Nat) (es:BS) (clk:Nat) (v:Value) (L:Lst):Prop:=∃ ov cs,cs.Perm ((es.filter fun x=>q x.e).map BE.c)∧Asc cmpCl cs∧OvOk 4 ov cs.length (fl Cl.v cs)∧v=slV ov cs.length∧L=blkL 34 ov (fl Cl.v cs)++BL b bm es clk
section
variable (b bm:Nat) (es:BS) (clk:Nat) (hwf:MWf (bms es,clk)) (hlen:es.length≤1000)
theorem allB_ok (hwf:MWf (bms es,clk)) (hlen:es.length≤1000) (f:FuncId) (cb:List Value) (hf:tb.fns.contains f=true) (q:En→Bool) (w:World)
    (hcall:∀ x∈es,∀ W,Hp w (blks (BL b bm es clk)) (BL b bm es clk) W→CallW Try.prog f ([vvP x.blk]++cb) W fun v _=>v = .bool (q x.e)) :
    CallM Try.prog 49 [.pointer (some ⟨b,0,none⟩),.func (.func f) #[] cb.toArray] (BL b bm es clk) w (ResC q b bm es clk):=by
  have hnd:(es.map BE.c).Nodup:=by have:=hwf.keys;rwa [bms_keys] at this
  obtain ⟨Q,hQ⟩:∃ Q:Cl × Nat × Nat→Bool,∀ x∈es,Q (x.c,x.blk,x.born)=q x.e:=by
    refine ⟨fun m=>es.any fun x=>decide (x.c=m.1) && q x.e,fun x hx=>?_⟩
    cases hq:q x.e with
    | true=>exact List.any_eq_true.2 ⟨x,hx,by simp [hq]⟩
    | false =>
      rw [List.any_eq_false]
      intro y hy
      simp only [Bool.and_eq_true,decide_eq_true_eq,not_and]
      intro hc
      rw [es_one hnd hy hx hc,hq]
      exact Bool.false_ne_true
  have hfl:((bms es).filter Q).map (·.1)=(es.filter fun x=>q x.e).map BE.c:=by
    unfold bms
    rw [List.filter_map,List.map_map]
    have:es.filter (Q ∘ fun x=>(x.c,x.blk,x.born))=es.filter fun x=>q x.e:=List.filter_congr fun x hx=>hQ x hx
    rw [this]
    rfl
  refine (ball_ok b bm es clk hwf hlen f cb hf Q w ?_).imp ?_
  · intro m hm W hW
    obtain ⟨x,hx,rfl⟩:=bms_mem hm
    rw [hQ x hx]
    exact hcall x hx W hW
  · rintro v L ⟨ov,cs,h1,h2,h3,h4,h5⟩
    exact ⟨ov,cs,by rw [← hfl];exact h1,h2,h3,h4,h5⟩
theorem known1C_ok (a:Nat) (x:En) (fz:Nat × Nat) (w:World) (hb:w.heap[a]? = some (.cells ⟨x.v⟩ 103 fz)):CallW Try.prog 78 [vvP a] w fun v _=>v = .bool x.key.isSome:=by
  obtain ⟨wb,wc,bits,key,asked⟩:=x
  simp only [vvP]
  simp only [En.v] at hb
  refine enterW (tb:=tb) Try.func78 rfl Try.ntmps78 rfl ?_
  cases key with
  | none =>
    repeat' (first|(apply R.is1;first|(apply R.isBin;(apply R.pure;exact rfl;(apply Ok1.neqP;(iterate 5 exact rfl))))|(apply R.pure;exact rfl;first|(apply Ok1.move;exact rfl)|(apply Ok1.fieldAddr;(iterate 5 exact rfl))|(apply Ok1.load;exact rfl;(apply Ld.blk1;exact rfl;exact rfl;assumption;(exact List.not_mem_nil);exact rfl))|(apply Ok1.assign;exact rfl)|(apply Ok1.nilCheck;exact rfl)))|apply R.nil|(apply T.is;first|apply T.seq|apply T.region|apply T.ret))
    (apply RetOk.t;exact rfl)
    rfl
  | some k =>
    repeat' (first|(apply R.is1;first|(apply R.isBin;(apply R.pure;exact rfl;(apply Ok1.neqP;(iterate 5 exact rfl))))|(apply R.pure;exact rfl;first|(apply Ok1.move;exact rfl)|(apply Ok1.fieldAddr;(iterate 5 exact rfl))|(apply Ok1.load;exact rfl;(apply Ld.blk1;exact rfl;exact rfl;assumption;(exact List.not_mem_nil);exact rfl))|(apply Ok1.assign;exact rfl)|(apply Ok1.nilCheck;exact rfl)))|apply R.nil|(apply T.is;first|apply T.seq|apply T.region|apply T.ret))
    (apply RetOk.t;exact rfl)
    rfl
theorem due1C_ok (a bt:Nat) (x:En) (tick:Int) (ht:0≤tick) (ht2:tick≤1073741824) (e:TypeId) (w:World) (hb:w.heap[a]? = some (.cells ⟨x.v⟩ 103 (0,0))) (hbt:w.heap[bt]? = some (.cells ⟨[.int .i64 tick]⟩ e (0,0))) :
    CallW Try.prog 50 [vvP a,.pointer (some ⟨bt,0,none⟩)] w fun v _=>v = .bool (x.key.isNone && decide (x.asked≤tick - 8)):=by
  obtain ⟨wb,wc,bits,key,asked⟩:=x
  simp only [vvP]
  simp only [En.v] at hb
  refine enterW (tb:=tb) Try.func50 rfl Try.ntmps50 rfl ?_
  cases key with
  | some k =>
    repeat' (first|(apply R.is1;(apply R.pure;exact rfl;(apply Ok1.assign;exact rfl)))|apply R.nil|(apply T.is;first|(apply T.draw (id:=1);((apply A.tk 0;exact rfl;kernel_rfl;(apply Ok1.move;exact rfl))<;>(apply A.tk 1;exact rfl;kernel_rfl;(apply Ok1.nilCheck;exact rfl))<;>(apply A.tk 2;exact rfl;kernel_rfl;(apply Ok1.fieldAddr;(iterate 5 exact rfl)))<;>(apply A.tk 3;exact rfl;kernel_rfl;(apply Ok1.load;exact rfl;(apply Ld.blk1;exact rfl;exact rfl;assumption;(exact List.not_mem_nil);exact rfl)))<;>((apply A.tk 4;exact rfl;kernel_rfl;(apply Ok1.eqlP;(iterate 5 exact rfl))))<;>(apply A.tk 5;exact rfl;kernel_rfl;(apply Ok1.move;exact rfl))<;>((apply A.skG 6;(iterate 3 exact rfl);kernel_rfl))<;>((apply A.skG 7;(iterate 3 exact rfl);kernel_rfl))<;>((apply A.skG 8;(iterate 3 exact rfl);kernel_rfl))<;>((apply A.skG 9;(iterate 3 exact rfl);kernel_rfl))<;>((apply A.skG 10;(iterate 3 exact rfl);kernel_rfl))<;>((apply A.skG 11;(iterate 3 exact rfl);kernel_rfl))<;>((apply A.skG 12;(iterate 3 exact rfl);kernel_rfl))<;>(apply A.tk 13;exact rfl;kernel_rfl;(apply Ok1.pick_f;exact rfl;exact rfl))<;>(apply A.tk 14;exact rfl;kernel_rfl;(apply Ok1.assign;exact rfl))<;>(apply A.done;kernel_rfl)))|apply T.seq|apply T.region|apply T.ret))
    (apply RetOk.t;exact rfl)
    rfl
  | none =>
    by_cases hd:asked≤tick - 8
    · simp only [decide_eq_true hd]
      repeat' (first|(apply R.is1;(apply R.pure;exact rfl;(apply Ok1.assign;exact rfl)))|apply R.nil|(apply T.is;first|(apply T.draw (id:=1);((apply A.tk 0;exact rfl;kernel_rfl;(apply Ok1.move;exact rfl))<;>(apply A.tk 1;exact rfl;kernel_rfl;(apply Ok1.nilCheck;exact rfl))<;>(apply A.tk 2;exact rfl;kernel_rfl;(apply Ok1.fieldAddr;(iterate 5 exact rfl)))<;>(apply A.tk 3;exact rfl;kernel_rfl;(apply Ok1.load;exact rfl;(apply Ld.blk1;exact rfl;exact rfl;assumption;(exact List.not_mem_nil);exact rfl)))<;>((apply A.tk 4;exact rfl;kernel_rfl;(apply Ok1.eqlP;(iterate 5 exact rfl))))<;>(apply A.tk 5;exact rfl;kernel_rfl;(apply Ok1.move;exact rfl))<;>((apply A.tkG 6;(iterate 3 exact rfl);kernel_rfl;(apply Ok1.move;exact rfl)))<;>((apply A.tkG 7;(iterate 3 exact rfl);kernel_rfl;(apply Ok1.nilCheck;exact rfl)))<;>((apply A.tkG 8;(iterate 3 exact rfl);kernel_rfl;(apply Ok1.fieldAddr;(iterate 5 exact rfl))))<;>((apply A.tkG 9;(iterate 3 exact rfl);kernel_rfl;(apply Ok1.load;exact rfl;(apply Ld.blk1;exact rfl;exact rfl;assumption;(exact List.not_mem_nil);exact rfl))))<;>((apply A.tkG 10;(iterate 3 exact rfl);kernel_rfl;(apply Ok1.load;exact rfl;(apply Ld.blk1;exact rfl;exact rfl;assumption;(exact List.not_mem_nil);exact rfl))))<;>((apply A.tkG 11;(iterate 3 exact rfl);kernel_rfl;(apply Ok1.sub64;exact rfl;exact rfl;omega;omega)))<;>((apply A.tkG 12;(iterate 3 exact rfl);kernel_rfl;(apply Ok1.leq_t;exact rfl;exact rfl;omega)))<;>(apply A.tk 13;exact rfl;kernel_rfl;(apply Ok1.pick_t;exact rfl;exact rfl))<;>(apply A.tk 14;exact rfl;kernel_rfl;(apply Ok1.assign;exact rfl))<;>(apply A.done;kernel_rfl)))|apply T.seq|apply T.region|apply T.ret))
      (apply RetOk.t;exact rfl)
      rfl
    · simp only [decide_eq_false hd]
      repeat' (first|(apply R.is1;(apply R.pure;exact rfl;(apply Ok1.assign;exact rfl)))|apply R.nil|(apply T.is;first|(apply T.draw (id:=1);((apply A.tk 0;exact rfl;kernel_rfl;(apply Ok1.move;exact rfl))<;>(apply A.tk 1;exact rfl;kernel_rfl;(apply Ok1.nilCheck;exact rfl))<;>(apply A.tk 2;exact rfl;kernel_rfl;(apply Ok1.fieldAddr;(iterate 5 exact rfl)))<;>(apply A.tk 3;exact rfl;kernel_rfl;(apply Ok1.load;exact rfl;(apply Ld.blk1;exact rfl;exact rfl;assumption;(exact List.not_mem_nil);exact rfl)))<;>((apply A.tk 4;exact rfl;kernel_rfl;(apply Ok1.eqlP;(iterate 5 exact rfl))))<;>(apply A.tk 5;exact rfl;kernel_rfl;(apply Ok1.move;exact rfl))<;>((apply A.tkG 6;(iterate 3 exact rfl);kernel_rfl;(apply Ok1.move;exact rfl)))<;>((apply A.tkG 7;(iterate 3 exact rfl);kernel_rfl;(apply Ok1.nilCheck;exact rfl)))<;>((apply A.tkG 8;(iterate 3 exact rfl);kernel_rfl;(apply Ok1.fieldAddr;(iterate 5 exact rfl))))<;>((apply A.tkG 9;(iterate 3 exact rfl);kernel_rfl;(apply Ok1.load;exact rfl;(apply Ld.blk1;exact rfl;exact rfl;assumption;(exact List.not_mem_nil);exact rfl))))<;>((apply A.tkG 10;(iterate 3 exact rfl);kernel_rfl;(apply Ok1.load;exact rfl;(apply Ld.blk1;exact rfl;exact rfl;assumption;(exact List.not_mem_nil);exact rfl))))<;>((apply A.tkG 11;(iterate 3 exact rfl);kernel_rfl;(apply Ok1.sub64;exact rfl;exact rfl;omega;omega)))<;>((apply A.tkG 12;(iterate 3 exact rfl);kernel_rfl;(apply Ok1.leq_f;exact rfl;exact rfl;omega)))<;>(apply A.tk 13;exact rfl;kernel_rfl;(apply Ok1.pick_t;exact rfl;exact rfl))<;>(apply A.tk 14;exact rfl;kernel_rfl;(apply Ok1.assign;exact rfl))<;>(apply A.done;kernel_rfl)))|apply T.seq|apply T.region|apply T.ret))
      (apply RetOk.t;exact rfl)
      rfl
theorem knownB_ok (hwf:MWf (bms es,clk)) (hlen:es.length≤1000) (w:World):CallM Try.prog 61 [.pointer (some ⟨b,0,none⟩)] (BL b bm es clk) w (ResC (fun x=>x.key.isSome) b bm es clk):=by
  refine enterK (tb:=tb) Try.func61 rfl Try.ntmps61 rfl ?_
  repeat' (first|(apply R.is1;first|(apply R.isCall;(apply R.callE;(iterate 3 exact rfl);exact Ext.all _;intro w1 hw1;exact allB_ok b bm es clk hwf hlen _ [] rfl (fun x=>x.key.isSome) w1 (fun x hx W hW=>known1C_ok x.blk x.e (0,0) W (hW.get _ _ (BL_mem hx)));rintro v Lo ⟨ov,cs,h1,h2,h3,rfl,rfl⟩))|(apply R.pure;exact rfl;first|(apply Ok1.move;exact rfl)|(apply Ok1.assign;exact rfl)))|apply R.nil|(apply T.is;first|apply T.seq|apply T.region|apply T.ret))
  (apply RetOk.t;exact rfl)
  exact ⟨_,Keep.last (.here _ _),ov,cs,h1,h2,h3,rfl,rfl⟩
theorem wantedB_ok (hwf:MWf (bms es,clk)) (hlen:es.length≤1000) (w:World):CallM Try.prog 63 [.pointer (some ⟨b,0,none⟩)] (BL b bm es clk) w (ResC (fun x=>x.key.isNone) b bm es clk):=by
  refine enterK (tb:=tb) Try.func63 rfl Try.ntmps63 rfl ?_
  repeat' (first|(apply R.is1;first|(apply R.isCall;(apply R.callE;(iterate 3 exact rfl);exact Ext.all _;intro w1 hw1;exact allB_ok b bm es clk hwf hlen _ [] rfl (fun x=>x.key.isNone) w1 (fun x hx W hW=>wanted1_ok x.blk x.e (0,0) W (hW.get _ _ (BL_mem hx)));rintro v Lo ⟨ov,cs,h1,h2,h3,rfl,rfl⟩))|(apply R.pure;exact rfl;first|(apply Ok1.move;exact rfl)|(apply Ok1.assign;exact rfl)))|apply R.nil|(apply T.is;first|apply T.seq|apply T.region|apply T.ret))
  (apply RetOk.t;exact rfl)
  exact ⟨_,Keep.last (.here _ _),ov,cs,h1,h2,h3,rfl,rfl⟩
end
/-- Those of cs are asked for anew. -/
def dueS (tick:Int) (cs:List Cl) (es:BS):BS:=es.map fun x=>if x.c∈cs then ⟨x.c,x.blk,x.born,x.e.boot,x.e.ctr,x.e.bits,x.e.key,tick⟩ else x
theorem dueS_nil (tick:Int) (es:BS):dueS tick [] es=es:=by
  unfold dueS
  simp
theorem dueS_bms (tick:Int) (cs:List Cl) (es:BS):bms (dueS tick cs es)=bms es:=by
  unfold bms dueS
  rw [List.map_map]
  congr 1
  funext x
  simp only [Function.comp_apply]
  split<;>rfl
theorem dueS_c (tick:Int) (cs:List Cl) (es:BS):(dueS tick cs es).map BE.c=es.map BE.c:=by
  rw [← bms_keys,dueS_bms,bms_keys]
theorem setE6_map {es:BS} (hnd:(es.map BE.c).Nodup) {i:Nat} {e:BE} (h:es[i]? = some e) (f:En→En):setE6 es i e (f e.e)=es.map fun x=>if x.c=e.c then ⟨x.c,x.blk,x.born,f x.e⟩ else x:=by
  obtain ⟨hi,he⟩:=List.getElem?_eq_some_iff.1 h
  apply List.ext_getElem?
  intro j
  unfold setE6
  rw [List.getElem?_set,List.getElem?_map]
  by_cases hj:i=j
  · subst hj
    rw [if_pos rfl,if_pos hi,h]
    simp
  · rw [if_neg hj]
    cases hx:es[j]? with
    | none=>rfl
    | some x =>
      simp only [Option.map_some]
      rw [if_neg]
      intro hc
      apply hj
      obtain ⟨hj2,hxe⟩:=List.getElem?_eq_some_iff.1 hx
      refine (List.getElem_inj (xs:=es.map BE.c) (i:=i) (j:=j) (h₀:=by simpa using hi) (h₁:=by simpa using hj2) hnd).1 ?_
      simp only [List.getElem_map,he,hxe]
      exact hc.symm
theorem dueS_snoc {es:BS} (hnd:(es.map BE.c).Nodup) (tick:Int) (cs:List Cl) {i:Nat} {e:BE} (h:(dueS tick cs es)[i]? = some e):setE6 (dueS tick cs es) i e ⟨e.e.boot,e.e.ctr,e.e.bits,e.e.key,tick⟩=dueS tick (cs++[e.c]) es:=by
  rw [setE6_map (by rw [dueS_c];exact hnd) h (fun y=>⟨y.boot,y.ctr,y.bits,y.key,tick⟩)]
  unfold dueS
  rw [List.map_map]
  congr 1
  funext x
  simp only [Function.comp_apply,List.mem_append,List.mem_singleton]
  by_cases h1:x.c∈cs
  · rw [if_pos h1]
    simp only
    rw [if_pos (show x.c∈cs ∨ x.c=e.c from .inl h1)]
    split<;>rfl
  · rw [if_neg h1]
    by_cases h2:x.c=e.c
    · rw [if_pos h2,if_pos (show x.c∈cs ∨ x.c=e.c from .inr h2)]
    · rw [if_neg h2,if_neg (by simp [h1,h2])]
theorem bget_c {es:BS} {c:Cl} (h:c∈es.map BE.c):∃ (i:Nat) (e:BE),es[i]? = some e∧e.c=c:=by
  obtain ⟨e,he,hc⟩:=List.mem_map.1 h
  obtain ⟨i,hi,rfl⟩:=List.mem_iff_getElem.1 he
  exact ⟨i,es[i],List.getElem?_eq_getElem hi,hc⟩
theorem bget_some {es:BS} (hnd:(es.map BE.c).Nodup) {i:Nat} {e:BE} (h:es[i]? = some e):mget e.c (bms es)=some e.blk:=by
  refine mget_of_mem (e:=(e.c,e.blk,e.born)) (by rw [bms_keys];exact hnd) ?_
  exact List.mem_map.2 ⟨e,List.mem_of_getElem? h,rfl⟩
theorem bget_none {es:BS} {c:Cl} (h:c ∉ es.map BE.c):mget c (bms es)=none:=by
  rw [mget_none,bms_keys];exact h
end Go.Proofs.Ytijbmkjebidanaa
set_option linter.unusedSimpArgs false
set_option linter.unusedVariables false
namespace Go.Proofs.Ytijbmkjebidanaa
open Go.RowKit Go.Shelf Go.Sort
set_option maxRecDepth 100000
theorem Keep.transC {A B C:Lst} (h1:Keep A B) (h2:Keep B C):Keep A C:=by
  obtain ⟨r1,p1⟩:=h1.perm
  obtain ⟨r2,p2⟩:=h2.perm
  refine keepC_perm (r:=r2++r1) ?_
  rw [← List.append_assoc]
  exact (p2.append_right r1).trans p1
theorem setE6_bls {es:BS} {i:Nat} {e:BE} (h:es[i]? = some e) (x:En):bls (setE6 es i e x)=bls (es.take i)++(e.blk,.cells ⟨x.v⟩ 103 (0,0))::bls (es.drop (i+1)):=by
  rw [setE6_at h,bls_app];rfl
theorem bls_at {es:BS} {i:Nat} {e:BE} (h:es[i]? = some e):bls es=bls (es.take i)++(e.blk,.cells ⟨e.e.v⟩ 103 (0,0))::bls (es.drop (i+1)):=by
  conv=>lhs;rw [es_at h]
  rw [bls_app];rfl
def isDue (tick:Int) (x:En):Bool:=x.key.isNone && decide (x.asked≤tick - 8)
section
variable (b bm:Nat) (es:BS) (clk:Nat)
theorem dueB_ok (hwf:MWf (bms es,clk)) (hlen:es.length≤1000) (tick:Int) (ht:0≤tick) (ht2:tick≤1073741824) (w:World) :
    CallM Try.prog 10 [.pointer (some ⟨b,0,none⟩),.int .i64 tick] (BL b bm es clk) w fun v L=>∃ ov cs,cs.Perm ((es.filter fun x=>isDue tick x.e).map BE.c)∧Asc cmpCl cs∧OvOk 4 ov cs.length (fl Cl.v cs)∧v=slV ov cs.length∧L=blkL 34 ov (fl Cl.v cs)++BL b bm (dueS tick cs es) clk:=by
  have hnd:(es.map BE.c).Nodup:=by have:=hwf.keys;rwa [bms_keys] at this
  refine enterK (tb:=tb) Try.func10 rfl Try.ntmps10 rfl ?_
  generalize hB0:BL b bm es clk=B0
  repeat' (first|(apply R.is1;first|(apply R.isCall;first|(apply R.callE (Li:=B0);(iterate 3 exact rfl);(focus (exact Ext.cons _ (Ext.all _)));intro w1 hw1;rw [← hB0];refine allB_ok b bm es clk hwf hlen _ [.pointer (some ⟨_,0,none⟩)] rfl (isDue tick) w1 (fun x hx W hW=>?_);(have hbt:=hw1.get _ _ List.mem_cons_self);(have hoff:=RdSl.off hw1 (.cons _ (.all _)) List.mem_cons_self);exact due1C_ok _ _ x.e tick ht ht2 _ W (hW.get _ _ (BL_mem hx)) (hW.chg.heap hbt (by rw [hB0];exact hoff));rintro v Lo ⟨ov,cs,h1,h2,h3,rfl,rfl⟩;rw [slV_eq h3])|(apply R.pure;exact rfl;(apply Ok1.lenS;(iterate 3 exact rfl))))|(apply R.pure;exact rfl;first|(apply Ok1.move;exact rfl)|(apply Ok1.assign;exact rfl)|(apply Ok1.makeFunc;exact rfl;exact rfl))|(apply R.box;(iterate 3 exact rfl);intro))|apply R.nil|(apply T.is;first|apply T.seq|apply T.region|apply T.block))
  rename_i bt
  clear hB0
  have hsub:∀ c∈cs,c∈es.map BE.c:=fun c hc=>by
    have:=h1.subset hc
    obtain ⟨x,hx,rfl⟩:=List.mem_map.1 this
    exact List.mem_map_of_mem (List.mem_filter.1 hx).1
  have hcl:cs.length≤1000:=by
    have e1:=h1.length_eq
    have e2:=List.length_filter_le (fun x=>isDue tick x.e) es
    rw [List.length_map] at e1
    omega
  apply T.loopK (α:=Nat) (I:=fun k=>k≤cs.length) (σi:=fun k=>[(0,.pointer (some ⟨b,0,none⟩)),(3,.pointer (some ⟨bt,0,none⟩)),(5,.slice (ovp ov) cs.length (ovc ov cs.length)),(11,.slice (ovp ov) cs.length (ovc ov cs.length)),(12,.int .i64 cs.length),(13,.int .i64 k)]) (Li:=fun k=>(bt,.cells ⟨[.int .i64 tick]⟩ 3 (0,0))::(blkL 34 ov (fl Cl.v cs)++BL b bm (dueS tick (cs.take k) es) clk)) (μ:=fun k=>cs.length - k) (i0:=0)
  · exact Nat.zero_le _
  · exact ⟨rfl,rfl,rfl,rfl,rfl,rfl,trivial⟩
  · rw [List.take_zero,dueS_nil]
    generalize BL b bm es clk=B0
    rw [List.append_assoc]
    (focus (repeat' first|exact Ext.one _ _|exact Ext.here _ _|apply Keep.cons|apply Keep.app|apply Keep.last|apply Ext.app);done)
  intro k hk
  rcases Nat.lt_or_ge k cs.length with hlt|hge
  · obtain ⟨c,hc⟩:∃ c,cs[k]? = some c:=⟨_,List.getElem?_eq_getElem hlt⟩
    have htk:cs.take (k+1)=cs.take k++[c]:=by rw [List.take_add_one,hc];rfl
    have hmem:c∈(dueS tick (cs.take k) es).map BE.c:=by rw [dueS_c];exact hsub c (List.mem_of_getElem? hc)
    obtain ⟨i,e,hi,hec⟩:=bget_c hmem
    have hmg:=bget_some (by rw [dueS_c];exact hnd) hi
    have hsn:=dueS_snoc hnd tick (cs.take k) hi
    have hb1:=bls_at hi
    have hb2:=setE6_bls hi ⟨e.e.boot,e.e.ctr,e.e.bits,e.e.key,tick⟩
    have hm2:=setE6_bms hi ⟨e.e.boot,e.e.ctr,e.e.bits,e.e.key,tick⟩
    rw [hsn,hec,← htk] at hb2 hm2
    rw [hec] at hmg
    simp only [BL]
    rw [hb1]
    generalize bls ((dueS tick (cs.take k) es).take i)=P at hb2 ⊢
    generalize bls ((dueS tick (cs.take k) es).drop (i+1))=Q at hb2 ⊢
    generalize bms (dueS tick (cs.take k) es)=ms at *
    clear hb1 hsn hi hmem htk
    obtain ⟨ec,blk,born,wb,wc,bits,key,asked⟩:=e
    simp only at hmg hb2 ⊢
    match ov,h3 with
    | none,h3=>exact absurd h3.2 (by omega)
    | some (bo,jo,ko),h3 =>
    have e0:∀ a,En.v ⟨wb,wc,bits,key,a⟩=[.int .i64 wb,.int .i64 wc,.int .u64 bits,.pointer key,.int .i64 a]:=fun a=>rfl
    simp only [e0] at hb2 ⊢
    simp only [blkL,ovp,ovc,List.cons_append,List.nil_append]
    refine T.weakK (σ':=[(0,.pointer (some ⟨b,0,none⟩)),(3,.pointer (some ⟨bt,0,none⟩)),(5,.slice (some ⟨bo,0,none⟩) cs.length (cs.length+jo)),(11,.slice (some ⟨bo,0,none⟩) cs.length (cs.length+jo)),(12,.int .i64 cs.length),(13,.int .i64 k)]) (L':=(bt,.cells ⟨[.int .i64 tick]⟩ 3 (0,0))::(b,.cells ⟨[.map (some bm)]⟩ 96 (0,0))::(bm,mobj kvC vvP ms clk)::(blk,.cells ⟨[.int .i64 wb,.int .i64 wc,.int .u64 bits,.pointer key,.int .i64 asked]⟩ 103 (0,0))::(bo,.cells ⟨fl Cl.v cs++ko⟩ 34 (0,0))::(P++Q)) ?_ (by (focus (repeat' first|exact Ext.one _ _|exact Ext.here _ _|exact Ext.all _|apply Keep.cons|apply Keep.app|apply Keep.last|apply Ext.cons|apply Ext.app);done)) ⟨rfl,rfl,rfl,rfl,rfl,rfl,trivial⟩
    repeat' (first|(apply R.is1;first|(apply R.isBin;(apply R.pure;exact rfl;first|(apply Ok1.add64;exact rfl;exact rfl;omega;omega)|(apply Ok1.lss_t;exact rfl;exact rfl;omega)))|(apply R.pure;exact rfl;first|(apply Ok1.indexAddr;(iterate 5 exact rfl);omega;omega)|(apply Ok1.load;exact rfl;(apply Ld.ownrowk (f:=0);(focus (repeat' first|exact At.head|apply At.tail);done);exact Cl.v_len;exact hc;(focus ((simp;done)));(iterate 3 exact rfl)))|(apply Ok1.move;exact rfl))|(apply R.alloc;(iterate 3 exact rfl);intro))|(apply R.is0;(apply R.store;(iterate 6 exact rfl);exact Upd.head;exact rfl))|apply R.nil|(apply T.is;first|(apply T.drawC (id:=5) [0,1,2,3] (by decide);((apply A.tk 0;exact rfl;kernel_rfl;(apply Ok1.move;exact rfl))<;>(apply A.tk 1;exact rfl;kernel_rfl;(apply Ok1.nilCheck;exact rfl))<;>(apply A.tk 2;exact rfl;kernel_rfl;(apply Ok1.fieldAddr;(iterate 5 exact rfl)))<;>(apply A.tk 3;exact rfl;kernel_rfl;(apply Ok1.load;exact rfl;(apply Ld.own1;exact rfl;exact rfl;(focus (repeat' first|exact At.head|apply At.tail);done);exact rfl)))<;>(apply A.tk 4;exact rfl;kernel_rfl;(apply Ok1.load;exact rfl;(apply Ld.ownk;exact rfl;exact rfl;exact At.head;exact rfl)))<;>(apply A.tk 5;exact rfl;kernel_rfl;(apply Ok1.lookup_some (kv:=kvC) (vv:=vvP) c ktK;(iterate 6 exact rfl);(focus (repeat' first|exact At.head|apply At.tail);done);assumption;(exact (if_neg Bool.false_ne_true).symm)))<;>(apply A.tk 6;exact rfl;kernel_rfl;(apply Ok1.load;exact rfl;(apply Ld.own1;exact rfl;exact rfl;(focus (repeat' first|exact At.head|apply At.tail);done);exact rfl)))<;>(apply A.tk 7;exact rfl;kernel_rfl;(apply Ok1.nilCheck;exact rfl))<;>(apply A.tk 8;exact rfl;kernel_rfl;(apply Ok1.fieldAddr;(iterate 5 exact rfl)))<;>(apply A.one 9;kernel_rfl;exact rfl;(((apply R.store;(iterate 6 exact rfl);(focus (repeat' first|exact Upd.head|apply Upd.tail);done);exact rfl)));apply R.nil;refine ⟨?_,?_⟩;(focus (repeat' first|exact trivial|exact At.head|apply At.tail|refine ⟨?_,?_⟩)))<;>(apply A.done;kernel_rfl)))|apply T.seq|apply T.region|apply T.block|apply T.skip|(apply T.cond_t;exact rfl)))
    all_goals refine ⟨k+1,by omega,by omega,⟨rfl,rfl,rfl,rfl,rfl,rfl,trivial⟩,?_⟩
    all_goals rw [hb2,hm2]
    all_goals (focus (repeat' first|exact Ext.one _ _|exact Ext.here _ _|exact Ext.all _|apply Keep.cons|apply Keep.app|apply Keep.last|apply Ext.cons);done)
  · have hkk:k=cs.length:=by omega
    subst hkk
    rw [List.take_of_length_le (Nat.le_refl _)]
    generalize hB:BL b bm (dueS tick cs es) clk=B1
    repeat' (first|(apply R.is1;first|(apply R.isBin;(apply R.pure;exact rfl;(apply Ok1.lss_f;exact rfl;exact rfl;omega)))|(apply R.pure;exact rfl;first|(apply Ok1.move;exact rfl)|(apply Ok1.assign;exact rfl)))|apply R.nil|(apply T.is;first|apply T.seq|apply T.region|apply T.exit|apply T.ret|(apply T.cond_f;exact rfl)))
    (apply RetOk.t;exact rfl)
    refine ⟨blkL 34 ov (fl Cl.v cs)++B1,by (focus (repeat' first|exact Ext.here _ _|exact Ext.all _|apply Keep.app|apply Keep.last|apply Ext.cons);done),ov,cs,h1,h2,h3,(slV_eq h3).symm,by rw [hB]⟩
end
theorem only1_ok (a:Nat):CallP Try.prog 56 [vvP a] (.bool true):=by
  refine enterP (tb:=tb) Try.func56 rfl Try.ntmps56 rfl fun w=>?_
  simp only [vvP]
  repeat' (first|(apply R.is1;(apply R.pure;exact rfl;(apply Ok1.assign;exact rfl)))|apply R.nil|(apply T.is;first|apply T.seq|apply T.region|apply T.ret))
  (apply RetOk.t;exact rfl)
  rfl
theorem only2_ok (bt:Nat) (p:Option Addr) (cap:Nat) (os:List Cl) (hbig:os.length≤1000000) (c:Cl) (e:TypeId) (w:World) (hb:w.heap[bt]? = some (.cells ⟨[.slice p os.length cap]⟩ e (0,0))) (hp:RdSl w p Cl.v os) :
    CallW Try.prog 58 [.agg ⟨Cl.v c⟩,.pointer (some ⟨bt,0,none⟩)] w fun v _=>v = .bool (decide (c∈os)):=by
  have hct:=fun w1 (hc:Chg [] w w1)=>ccont_ok p cap os hbig c w1 (hp.chg hc (Off.nil _))
  have hv:Cl.v c=[.int .i64 c.id,.int .i64 c.roles,.int .i64 c.exp,.int .i64 c.ser]:=rfl
  rw [hv]
  simp only [kvC] at hct
  refine enterW (tb:=tb) Try.func58 rfl Try.ntmps58 rfl ?_
  repeat' (first|(apply R.is1;first|(apply R.isCall;(apply R.callV (vs:=[.slice p os.length cap,.agg ⟨_⟩]);(iterate 3 exact rfl);intro w1 hw1;exact hct w1 hw1.chg))|(apply R.pure;exact rfl;first|(apply Ok1.load;exact rfl;first|(apply Ld.ownk;exact rfl;exact rfl;exact At.head;exact rfl)|(apply Ld.blk1;exact rfl;exact rfl;exact hb;exact List.not_mem_nil;exact rfl))|(apply Ok1.assign;exact rfl))|(apply R.box;(iterate 3 exact rfl);intro))|apply R.nil|(apply T.is;first|apply T.seq|apply T.region|apply T.ret))
  (apply RetOk.t;exact rfl)
  rfl
section
variable (b bm:Nat) (es:BS) (clk:Nat)
theorem onlyB_ok (hwf:MWf (bms es,clk)) (hlen:es.length≤1000) (p:Option Addr) (cap:Nat) (os:List Cl) (hos:os.length≤1000) (w:World) (hp:RdSl w p Cl.v os) (hq:os≠[]→Off p (blks (BL b bm es clk))) :
    CallM Try.prog 21 [.pointer (some ⟨b,0,none⟩),.slice p os.length cap] (BL b bm es clk) w fun v L=>∃ ov gs,gs.Perm ((es.map BE.c).filter fun c=>!decide (c∈os))∧Asc cmpCl gs∧OvOk 4 ov gs.length (fl Cl.v gs)∧v=slV ov gs.length∧L=blkL 34 ov (fl Cl.v gs)++BL b bm (es.filter fun x=>decide (x.c∈os)) clk:=by
  have hnd:(es.map BE.c).Nodup:=by have:=hwf.keys;rwa [bms_keys] at this
  refine enterK (tb:=tb) Try.func21 rfl Try.ntmps21 rfl ?_
  generalize hB0:BL b bm es clk=B0 at hq ⊢
  repeat' (first|(apply R.is1;first|(apply R.isCall;(apply R.callE (Li:=B0);(iterate 3 exact rfl);(focus (exact Ext.cons _ (Ext.all _)));intro w1 hw1;rw [← hB0];exact allB_ok b bm es clk hwf hlen _ [] rfl (fun _=>true) w1 (fun x hx W hW=>(only1_ok x.blk).w W);rintro v Lo ⟨ov,cs,h1,h2,h3,rfl,rfl⟩))|(apply R.pure;exact rfl;first|(apply Ok1.move;exact rfl)|(apply Ok1.assign;exact rfl))|(apply R.box;(iterate 3 exact rfl);intro))|apply R.nil|(apply T.is;first|(apply T.stop1 2)|apply T.seq|apply T.region))
  rename_i bt
  refine ⟨?_⟩
  have hft:(es.filter fun x=>(fun _=>true) x.e)=es:=by simp
  rw [hft] at h1
  have hcl:cs.length≤1000:=by
    have e1:=h1.length_eq
    rw [List.length_map] at e1
    omega
  have hdel:=fun (w1:World) L Lr (hw1:Hp w (blks B0) L w1) (he:Ext L (blkL 34 ov (fl Cl.v cs)) Lr) (hm:(bt,Obj.cells ⟨[.slice p os.length cap]⟩ 41 (0,0))∈Lr)=>cdel_ok ov cs h3 (by omega) 58 rfl [.pointer (some ⟨bt,0,none⟩)] (fun x=>decide (x∈os)) w1 (fun x w2 hc=>only2_ok bt p cap os (by omega) x _ w2 (hc.heap (hw1.get _ _ (he.perm.subset (List.mem_append_right _ hm))) (RdSl.off hw1 he hm)) ((hp.chg' hw1.chg hq).chg' hc (hp.old Cl.v_len (by decide) hq hw1 he)))
  have hgp:(cs.filter fun x=>!decide (x∈os)).Perm ((es.map BE.c).filter fun c=>!decide (c∈os)):=h1.filter _
  have hga:Asc cmpCl (cs.filter fun x=>!decide (x∈os)):=h2.sublist List.filter_sublist
  generalize hgs:cs.filter (fun x=>!decide (x∈os))=gs at *
  have hgl:gs.length≤1000:=by rw [← hgs];exact Nat.le_trans (List.length_filter_le ..) hcl
  have hdr:dropM gs (bms es)=bms (es.filter fun x=>decide (x.c∈os)):=by
    unfold dropM bms
    rw [List.filter_map]
    congr 1
    refine List.filter_congr fun x hx=>?_
    simp only [Function.comp_apply]
    have:x.c ∉ gs ↔ x.c∈os:=by
      rw [hgp.mem_iff,List.mem_filter]
      have:=List.mem_map_of_mem (f:=BE.c) hx
      simp [this]
    simp only [this]
  have hbl:=bms_len es
  have hdc:=fun (w1:World) pp cc h1 h2=>dropC_ok b bm (bms es) clk hwf.keys (by omega) pp cc gs hgl w1 h1 h2
  rw [hdr] at hdc
  have hks:Keep (bls es) (bls (es.filter fun x=>decide (x.c∈os))):=keepC_sub (List.Sublist.map _ List.filter_sublist)
  simp only [BL]
  generalize bls es=P at *
  generalize bls (es.filter fun x=>decide (x.c∈os))=P2 at *
  generalize bms es=M at *
  generalize bms (es.filter fun x=>decide (x.c∈os))=M2 at *
  repeat' (first|(apply R.is1;first|(apply R.isCall;(apply R.callE (Li:=blkL 34 ov (fl Cl.v cs)) (vs:=[_,.func (.func 58) #[] #[.pointer (some ⟨bt,0,none⟩)]]);(iterate 3 exact rfl);(focus (rw [List.append_assoc];exact Ext.here _ _));intro w1 hw1;refine hdel w1 _ _ hw1 (by rw [List.append_assoc];exact Ext.here _ _) (by simp);rintro v Lo ⟨ov2,hov2,rfl,rfl⟩;rw [slV_eq hov2]))|(apply R.pure;exact rfl;first|(apply Ok1.move;exact rfl)|(apply Ok1.assign;exact rfl)|(apply Ok1.makeFunc;exact rfl;exact rfl)))|apply R.nil|(apply T.is;first|(apply T.stop1 3)|apply T.seq|apply T.region))
  refine ⟨?_⟩
  repeat' (first|(apply R.is1;first|(apply R.isCall;(apply R.callE (Li:=B2L b bm M clk) (vs:=[.pointer (some ⟨b,0,none⟩),.slice (ovp ov2) gs.length (ovc ov2 gs.length)]);(iterate 3 exact rfl);(focus (exact Ext.app _ (Ext.two _ (Ext.one _ _) (Ext.one _ _))));intro w1 hw1;exact hdc w1 _ _ (RdSl.own' hw1 (fun q hq=>List.mem_append_left _ hq) hov2 Cl.v_len) (fun _=>ovoff hw1 (Ext.app _ (Ext.two _ (Ext.one _ _) (Ext.one _ _))) (fun q hq=>List.mem_append_left _ hq));rintro v Lo ⟨rfl,rfl⟩))|(apply R.pure;exact rfl;first|(apply Ok1.move;exact rfl)|(apply Ok1.assign;exact rfl)))|apply R.nil|(apply T.is;first|apply T.seq|apply T.region|apply T.ret))
  (apply RetOk.t;exact rfl)
  refine ⟨blkL 34 ov2 (fl Cl.v gs)++(b,.cells ⟨[.map (some bm)]⟩ 96 (0,0))::(bm,mobj kvC vvP M2 clk)::P2,?_,ov2,gs,hgp,hga,hov2,(slV_eq hov2).symm,rfl⟩
  refine Keep.transC (B:=blkL 34 ov2 (fl Cl.v gs)++(b,.cells ⟨[.map (some bm)]⟩ 96 (0,0))::(bm,mobj kvC vvP M2 clk)::P) ?_ (Keep.app (Ext.here _ _) (Keep.cons (.one _ _) (Keep.cons (.one _ _) hks)))
  simp only [B2L,List.cons_append,List.nil_append]
  (focus (repeat' first|exact Ext.one _ _|exact Ext.here _ _|apply Keep.cons|apply Keep.app|apply Keep.last|apply Ext.cons);done)
end
end Go.Proofs.Ytijbmkjebidanaa
set_option linter.unusedSimpArgs false
set_option linter.unusedVariables false
namespace Go.Proofs.Ytijbmkjebidanaa
open Go.RowKit Go.Shelf Go.Sort
set_option maxRecDepth 100000
def nV (p:Int × Int):List Value:=[.int .i64 p.1,.int .i64 p.2]
theorem nV_len (p:Int × Int):(nV p).length=2:=rfl
theorem right12_ok (a b:Int):CallP Try.prog 73 [.agg ⟨[.int .i64 a,.int .i64 b]⟩] (.bool (decide (NRc a b))):=by
  refine enterP (tb:=tb) Try.func73 rfl Try.ntmps73 rfl fun w=>?_
  by_cases h:NRc a b
  · rw [decide_eq_true h]
    obtain ⟨h1,h2,h3,h4⟩:=h
    repeat' (first|(apply R.is1;first|(apply R.isBin;(apply R.pure;exact rfl;first|(apply Ok1.lss_t;exact rfl;exact rfl;omega)|(apply Ok1.gtr_t;exact rfl;exact rfl;omega)))|(apply R.pure;exact rfl;first|(apply Ok1.move;exact rfl)|(apply Ok1.fieldAddr;(iterate 5 exact rfl))|(apply Ok1.load;exact rfl;(apply Ld.own1;exact rfl;exact rfl;exact At.head;exact rfl))|(apply Ok1.assign;exact rfl)|(apply Ok1.pick_t;exact rfl;exact rfl))|(apply R.box;(iterate 3 exact rfl);intro))|(apply R.isG;(apply R.guard_run;exact rfl;exact rfl))|apply R.nil|(apply T.is;first|apply T.seq|apply T.region|apply T.ret))
    all_goals skip
    (apply RetOk.t;exact rfl)
    rfl
  · rw [decide_eq_false h]
    have h':¬ (1≤a∧a≤65535∧1≤b∧b≤2147483647):=h
    by_cases h1:a > 0
    · by_cases h2:a < 65536
      · by_cases h3:b > 0
        · repeat' (first|(apply R.is1;first|(apply R.isBin;(apply R.pure;exact rfl;first|(apply Ok1.lss_t;exact rfl;exact rfl;omega)|(apply Ok1.lss_f;exact rfl;exact rfl;omega)|(apply Ok1.gtr_t;exact rfl;exact rfl;omega)))|(apply R.pure;exact rfl;first|(apply Ok1.move;exact rfl)|(apply Ok1.fieldAddr;(iterate 5 exact rfl))|(apply Ok1.load;exact rfl;(apply Ld.own1;exact rfl;exact rfl;exact At.head;exact rfl))|(apply Ok1.assign;exact rfl)|(apply Ok1.pick_t;exact rfl;exact rfl))|(apply R.box;(iterate 3 exact rfl);intro))|(apply R.isG;(apply R.guard_run;exact rfl;exact rfl))|apply R.nil|(apply T.is;first|apply T.seq|apply T.region|apply T.ret))
          all_goals skip
          (apply RetOk.t;exact rfl)
          rfl
        · repeat' (first|(apply R.is1;first|(apply R.isBin;(apply R.pure;exact rfl;first|(apply Ok1.lss_t;exact rfl;exact rfl;omega)|(apply Ok1.gtr_t;exact rfl;exact rfl;omega)|(apply Ok1.gtr_f;exact rfl;exact rfl;omega)))|(apply R.pure;exact rfl;first|(apply Ok1.move;exact rfl)|(apply Ok1.fieldAddr;(iterate 5 exact rfl))|(apply Ok1.load;exact rfl;(apply Ld.own1;exact rfl;exact rfl;exact At.head;exact rfl))|(apply Ok1.assign;exact rfl)|(apply Ok1.pick_t;exact rfl;exact rfl)|(apply Ok1.pick_f;exact rfl;exact rfl))|(apply R.box;(iterate 3 exact rfl);intro))|(apply R.isG;first|(apply R.guard_run;exact rfl;exact rfl)|(apply R.guard_not;(iterate 3 exact rfl)))|apply R.nil|(apply T.is;first|apply T.seq|apply T.region|apply T.ret))
          all_goals skip
          (apply RetOk.t;exact rfl)
          rfl
      · repeat' (first|(apply R.is1;first|(apply R.isBin;(apply R.pure;exact rfl;first|(apply Ok1.lss_f;exact rfl;exact rfl;omega)|(apply Ok1.gtr_t;exact rfl;exact rfl;omega)))|(apply R.pure;exact rfl;first|(apply Ok1.move;exact rfl)|(apply Ok1.fieldAddr;(iterate 5 exact rfl))|(apply Ok1.load;exact rfl;(apply Ld.own1;exact rfl;exact rfl;exact At.head;exact rfl))|(apply Ok1.assign;exact rfl)|(apply Ok1.pick_t;exact rfl;exact rfl)|(apply Ok1.pick_f;exact rfl;exact rfl))|(apply R.box;(iterate 3 exact rfl);intro))|(apply R.isG;first|(apply R.guard_run;exact rfl;exact rfl)|(apply R.guard_not;(iterate 3 exact rfl)))|apply R.nil|(apply T.is;first|apply T.seq|apply T.region|apply T.ret))
        all_goals skip
        (apply RetOk.t;exact rfl)
        rfl
    · repeat' (first|(apply R.is1;first|(apply R.isBin;(apply R.pure;exact rfl;(apply Ok1.gtr_f;exact rfl;exact rfl;omega)))|(apply R.pure;exact rfl;first|(apply Ok1.move;exact rfl)|(apply Ok1.fieldAddr;(iterate 5 exact rfl))|(apply Ok1.load;exact rfl;(apply Ld.own1;exact rfl;exact rfl;exact At.head;exact rfl))|(apply Ok1.assign;exact rfl)|(apply Ok1.pick_f;exact rfl;exact rfl))|(apply R.box;(iterate 3 exact rfl);intro))|(apply R.isG;(apply R.guard_not;(iterate 3 exact rfl)))|apply R.nil|(apply T.is;first|apply T.seq|apply T.region|apply T.ret))
      all_goals skip
      (apply RetOk.t;exact rfl)
      rfl
theorem less12_ok (p q:Int × Int):CallP Try.prog 88 [.agg ⟨nV p⟩,.agg ⟨nV q⟩] (.bool (decide (ltN p q))):=by
  refine enterP (tb:=tb) Try.func88 rfl Try.ntmps88 rfl fun w=>?_
  obtain ⟨a,b⟩:=p
  obtain ⟨c,d⟩:=q
  simp only [nV]
  by_cases h:ltN (a,b) (c,d)
  · rw [decide_eq_true h]
    have h':a < c ∨ a=c∧b < d:=h
    repeat' (first|(apply R.is1;first|(apply R.isBin;first|(apply R.pure;exact rfl;(apply Ok1.lss_t;exact rfl;exact rfl;omega))|(apply R.neq rfl rfl rfl<;>intro))|(apply R.pure;exact rfl;first|(apply Ok1.fieldAddr;(iterate 5 exact rfl))|(apply Ok1.load;exact rfl;(apply Ld.own1;exact rfl;exact rfl;(focus (repeat' first|exact At.head|apply At.tail);done);exact rfl))|(apply Ok1.assign;exact rfl))|(apply R.box;(iterate 3 exact rfl);intro))|apply R.nil|(apply T.is;first|apply T.seq|apply T.region|apply T.skip|apply T.ret|(apply T.cond_t;exact rfl)|(apply T.cond_f;exact rfl)))
    all_goals skip
    all_goals (apply RetOk.t;exact rfl)
    all_goals simp only [decide_eq_true_eq,Value.bool.injEq]
    all_goals omega
  · rw [decide_eq_false h]
    have h':¬ (a < c ∨ a=c∧b < d):=h
    repeat' (first|(apply R.is1;first|(apply R.isBin;first|(apply R.pure;exact rfl;(apply Ok1.lss_f;exact rfl;exact rfl;omega))|(apply R.neq rfl rfl rfl<;>intro))|(apply R.pure;exact rfl;first|(apply Ok1.fieldAddr;(iterate 5 exact rfl))|(apply Ok1.load;exact rfl;(apply Ld.own1;exact rfl;exact rfl;(focus (repeat' first|exact At.head|apply At.tail);done);exact rfl))|(apply Ok1.assign;exact rfl))|(apply R.box;(iterate 3 exact rfl);intro))|apply R.nil|(apply T.is;first|apply T.seq|apply T.region|apply T.skip|apply T.ret|(apply T.cond_t;exact rfl)|(apply T.cond_f;exact rfl)))
    all_goals skip
    all_goals (apply RetOk.t;exact rfl)
    all_goals simp only [decide_eq_false_iff_not,Value.bool.injEq]
    all_goals omega
theorem latest12_ok (p:Option Addr) (cap:Nat) (tk:List (Int × Int)) (hl:tk.length≤1000) (w:World) (hp:RdSl w p nV tk) :
    CallW Try.prog 74 [.slice p tk.length cap] w fun v _=>v = .agg ⟨nV (latN tk)⟩:=by
  refine enterW (tb:=tb) Try.func74 rfl Try.ntmps74 rfl ?_
  repeat' (first|(apply R.is1;first|(apply R.pure;exact rfl;first|(apply Ok1.assign;exact rfl)|(apply Ok1.build;(iterate 5 exact rfl)))|(apply R.alloc;(iterate 3 exact rfl);intro))|(apply R.is0;(apply R.store;(iterate 6 exact rfl);exact Upd.head;exact rfl))|apply R.nil|(apply T.is;first|apply T.seq|apply T.region|apply T.block))
  rename_i b2 b3
  apply T.loopK (α:=Nat) (I:=fun i=>i≤tk.length) (σi:=fun i=>[(0,.slice p tk.length cap),(2,.pointer (some ⟨b2,0,none⟩)),(3,.pointer (some ⟨b3,0,none⟩)),(4,.int .i64 i)]) (Li:=fun i=>[(b3,.cells ⟨nV (latN (tk.take i))⟩ 26 (0,0)),(b2,.cells ⟨[.int .i64 0,.int .i64 0]⟩ 26 (0,0))]) (μ:=fun i=>tk.length - i) (i0:=0)
  · exact Nat.zero_le _
  · exact ⟨rfl,rfl,rfl,rfl,trivial⟩
  · (focus (repeat' first|exact Keep.nil _|exact Ext.one _ _|apply Keep.cons);done)
  intro i hi
  rcases Nat.lt_or_ge i tk.length with hlt|hge
  · obtain ⟨x,hx⟩:∃ x,tk[i]? = some x:=⟨_,List.getElem?_eq_getElem (by omega)⟩
    obtain ⟨bb,o,hpe,H⟩:=hp.at hx
    replace H:=H 2 nV_len
    have hls:=less12_ok (latN (tk.take i)) x
    have htk:tk.take (i+1)=tk.take i++[x]:=by rw [List.take_add_one,hx];rfl
    have hsn:=latN_snoc (tk.take i) x
    rw [← htk] at hsn
    have hnl:=nV_len (latN (tk.take i))
    have hnx:=nV_len x
    have hn1:(nV x).all Value.oneCell'=true:=rfl
    generalize latN (tk.take i)=l0 at *
    by_cases hlt2:ltN l0 x
    · rw [decide_eq_true hlt2] at hls
      rw [if_pos hlt2] at hsn
      repeat' (first|(apply R.is1;first|(apply R.isBin;(apply R.pure;exact rfl;first|(apply Ok1.add64;exact rfl;exact rfl;omega;omega)|(apply Ok1.lss_t;exact rfl;exact rfl;omega)))|(apply R.isCall;(apply R.pure;exact rfl;(apply Ok1.lenS;(iterate 3 exact rfl))))|(apply R.pure;exact rfl;first|(apply Ok1.indexAddrP;(iterate 4 exact rfl);exact hpe;exact rfl;omega;omega)|(apply Ok1.load;exact rfl;(apply Ld.rowk0 H;exact rfl;exact List.not_mem_nil;(iterate 3 exact rfl)))|(apply Ok1.move;exact rfl)|(apply Ok1.assign;exact rfl)))|(apply R.is0;(apply R.store;(iterate 4 exact rfl);exact hnx;exact hn1;exact Upd.head;exact setE_all hnl))|apply R.nil|(apply T.is;first|(apply T.drawC (id:=5) [0] (by decide);((apply A.tk 0;exact rfl;kernel_rfl;(apply Ok1.load;exact rfl;(apply Ld.ownk;exact rfl;exact rfl;exact At.head;exact subE_all hnl)))<;>(apply A.tk 1;exact rfl;kernel_rfl;(apply Ok1.move;exact rfl))<;>(apply A.tk 2;exact rfl;kernel_rfl;(apply Ok1.move;exact rfl))<;>(apply A.tk 3;exact rfl;kernel_rfl;(apply Ok1.indexAddrP;(iterate 4 exact rfl);exact hpe;exact rfl;omega;omega))<;>(apply A.tk 4;exact rfl;kernel_rfl;(apply Ok1.load;exact rfl;(apply Ld.rowk0 H;exact rfl;exact List.not_mem_nil;(iterate 3 exact rfl))))<;>(apply A.one 5;kernel_rfl;exact rfl;(((apply R.callP (vs:=[.agg ⟨nV l0⟩,.agg ⟨nV x⟩]);(iterate 3 exact rfl);exact hls)));apply R.nil;refine ⟨?_,?_⟩;(focus ((repeat' (first|exact trivial|(refine ⟨?_,?_⟩;exact At.head))))))<;>(apply A.done;kernel_rfl)))|apply T.seq|apply T.region|apply T.block|apply T.skip|(apply T.cond_t;exact rfl)))
      exact ⟨i+1,by omega,by omega,⟨rfl,rfl,rfl,rfl,trivial⟩,by rw [hsn];(focus (repeat' first|exact Keep.nil _|exact Ext.one _ _|apply Keep.cons);done)⟩
    · rw [decide_eq_false hlt2] at hls
      rw [if_neg hlt2] at hsn
      repeat' (first|(apply R.is1;first|(apply R.isBin;(apply R.pure;exact rfl;first|(apply Ok1.add64;exact rfl;exact rfl;omega;omega)|(apply Ok1.lss_t;exact rfl;exact rfl;omega)))|(apply R.isCall;(apply R.pure;exact rfl;(apply Ok1.lenS;(iterate 3 exact rfl))))|(apply R.pure;exact rfl;first|(apply Ok1.move;exact rfl)|(apply Ok1.assign;exact rfl)))|apply R.nil|(apply T.is;first|(apply T.drawC (id:=5) [0] (by decide);((apply A.tk 0;exact rfl;kernel_rfl;(apply Ok1.load;exact rfl;(apply Ld.ownk;exact rfl;exact rfl;exact At.head;exact subE_all hnl)))<;>(apply A.tk 1;exact rfl;kernel_rfl;(apply Ok1.move;exact rfl))<;>(apply A.tk 2;exact rfl;kernel_rfl;(apply Ok1.move;exact rfl))<;>(apply A.tk 3;exact rfl;kernel_rfl;(apply Ok1.indexAddrP;(iterate 4 exact rfl);exact hpe;exact rfl;omega;omega))<;>(apply A.tk 4;exact rfl;kernel_rfl;(apply Ok1.load;exact rfl;(apply Ld.rowk0 H;exact rfl;exact List.not_mem_nil;(iterate 3 exact rfl))))<;>(apply A.one 5;kernel_rfl;exact rfl;(((apply R.callP (vs:=[.agg ⟨nV l0⟩,.agg ⟨nV x⟩]);(iterate 3 exact rfl);exact hls)));apply R.nil;refine ⟨?_,?_⟩;(focus ((repeat' (first|exact trivial|(refine ⟨?_,?_⟩;exact At.head))))))<;>(apply A.done;kernel_rfl)))|apply T.seq|apply T.region|apply T.block|apply T.skip|(apply T.cond_t;exact rfl)|(apply T.cond_f;exact rfl)))
      exact ⟨i+1,by omega,by omega,⟨rfl,rfl,rfl,rfl,trivial⟩,by rw [hsn];(focus (repeat' first|exact Keep.nil _|exact Ext.one _ _|apply Keep.cons);done)⟩
  · have him:i=tk.length:=by omega
    subst him
    rw [List.take_of_length_le (Nat.le_refl _)]
    have hnl:=nV_len (latN tk)
    have hn1:(nV (latN tk)).all Value.oneCell'=true:=rfl
    have hz:([.int .i64 0,.int .i64 0]:List Value).length=2:=rfl
    generalize nV (latN tk)=V at *
    repeat' (first|(apply R.is1;first|(apply R.isBin;(apply R.pure;exact rfl;(apply Ok1.lss_f;exact rfl;exact rfl;omega)))|(apply R.isCall;(apply R.pure;exact rfl;(apply Ok1.lenS;(iterate 3 exact rfl))))|(apply R.pure;exact rfl;first|(apply Ok1.load;exact rfl;(apply Ld.ownk;exact rfl;exact rfl;exact At.head;exact subE_all hnl))|(apply Ok1.move;exact rfl)))|(apply R.is0;(apply R.store;(iterate 4 exact rfl);exact hnl;exact hn1;(focus (repeat' first|exact Upd.head|apply Upd.tail);done);exact setE_all hnl))|apply R.nil|(apply T.is;first|apply T.seq|apply T.region|apply T.exit|apply T.ret|(apply T.cond_f;exact rfl)))
    (apply RetOk.c;exact rfl;(apply Ld.ownk;exact rfl;exact rfl;(focus (repeat' first|exact At.head|apply At.tail);done);exact subE_all hnl))
    rfl
/-- The document's answer. -/
def vlook12 (tk:List (Int × Int)) (a b:Int):Int:=if NRc a b then vlookN tk a b else 10
theorem latN_rng {tk:List (Int × Int)} (h:∀ p∈tk,NRc p.1 p.2):0≤(latN tk).2∧(latN tk).2≤2147483647:=by
  have:latN tk=(0,0) ∨ latN tk∈tk:=by
    have key:∀ (l:List (Int × Int)) (o:Int × Int),l.foldl (fun o p=>if ltN o p then p else o) o=o ∨ l.foldl (fun o p=>if ltN o p then p else o) o∈l:=by
      intro l
      induction l with
      | nil=>intro o;exact .inl rfl
      | cons q r ih =>
        intro o
        simp only [List.foldl_cons]
        by_cases hl:ltN o q
        · rw [if_pos hl]
          rcases ih q with h|h
          · right;rw [h];exact List.mem_cons_self
          · right;exact List.mem_cons_of_mem _ h
        · rw [if_neg hl]
          rcases ih o with h|h
          · exact .inl h
          · right;exact List.mem_cons_of_mem _ h
    exact key tk (0,0)
  rcases this with h1|h1
  · rw [h1];decide
  · have:=h _ h1
    obtain ⟨_,_,h3,h4⟩:=this
    omega
theorem nv_inj {p q:Int × Int}:([.int .i64 p.1,.int .i64 p.2]:List Value)=[.int .i64 q.1,.int .i64 q.2] ↔ p=q:=by
  obtain ⟨a,b⟩:=p
  obtain ⟨c,d⟩:=q
  simp
theorem look12_ok (p:Option Addr) (cap:Nat) (tk:List (Int × Int)) (hl:tk.length≤1000) (hr:∀ p∈tk,NRc p.1 p.2) (a b:Int) (w:World) (hp:RdSl w p nV tk) :
    CallW Try.prog 52 [.slice p tk.length cap,.agg ⟨[.int .i64 a,.int .i64 b]⟩] w fun v _=>v = .int .i64 (vlook12 tk a b):=by
  have hrt:=right12_ok a b
  have hlt:=fun w1 (h:Chg [] w w1)=>latest12_ok p cap tk hl w1 (hp.chg h (Off.nil _))
  have hlr:=latN_rng hr
  unfold vlook12 vlookN
  by_cases hN:NRc a b
  case neg =>
    rw [decide_eq_false hN] at hrt
    rw [if_neg hN]
    refine enterW (tb:=tb) Try.func52 rfl Try.ntmps52 rfl ?_
    repeat' (first|(apply R.is1;first|(apply R.isCall;apply R.callP rfl rfl rfl hrt)|(apply R.pure;exact rfl;first|(apply Ok1.load;exact rfl;(apply Ld.ownk;exact rfl;exact rfl;exact At.head;exact rfl))|(apply Ok1.assign;exact rfl)|(apply Ok1.not_f;exact rfl))|(apply R.box;(iterate 3 exact rfl);intro))|apply R.nil|(apply T.is;first|apply T.seq|apply T.region|apply T.ret|(apply T.cond_t;exact rfl)))
    (apply RetOk.t;exact rfl)
    rfl
  rw [decide_eq_true hN] at hrt
  rw [if_pos hN]
  generalize latN tk=l0 at *
  obtain ⟨la,lb⟩:=l0
  simp only [nV] at hlt hlr ⊢
  refine enterW (tb:=tb) Try.func52 rfl Try.ntmps52 rfl ?_
  by_cases ho:a < la ∨ a=la∧b≤lb - 64
  · rw [if_pos ho]
    by_cases h1:a < la
    · repeat' (first|(apply R.is1;first|(apply R.isBin;(apply R.pure;exact rfl;(apply Ok1.lss_t;exact rfl;exact rfl;omega)))|(apply R.isCall;first|apply R.callP rfl rfl rfl hrt|(apply R.callV (vs:=[.slice p tk.length cap]);(iterate 3 exact rfl);intro w1 hw1;exact hlt w1 hw1.chg))|(apply R.pure;exact rfl;first|(apply Ok1.load;exact rfl;first|(apply Ld.own1;exact rfl;exact rfl;(focus (repeat' first|exact At.head|apply At.tail);done);exact rfl)|(apply Ld.ownk;exact rfl;exact rfl;exact At.head;exact rfl))|(apply Ok1.move;exact rfl)|(apply Ok1.fieldAddr;(iterate 5 exact rfl))|(apply Ok1.assign;exact rfl)|(apply Ok1.pick_t;exact rfl;exact rfl)|(apply Ok1.not_t;exact rfl))|(apply R.box;(iterate 3 exact rfl);intro)|(apply R.alloc;(iterate 3 exact rfl);intro))|(apply R.is0;(apply R.store;(iterate 6 exact rfl);exact Upd.head;exact rfl))|(apply R.isG;first|(apply R.guard_not;(iterate 3 exact rfl))|(apply R.guard_un;(iterate 3 exact rfl)))|apply R.nil|(apply T.is;first|apply T.seq|apply T.region|apply T.skip|apply T.ret|(apply T.cond_t;exact rfl)|(apply T.cond_f;exact rfl)))
      all_goals skip
      (apply RetOk.t;exact rfl)
      rfl
    · repeat' (first|(apply R.is1;first|(apply R.isBin;(apply R.pure;exact rfl;first|(apply Ok1.sub64;exact rfl;exact rfl;omega;omega)|(apply Ok1.lss_f;exact rfl;exact rfl;omega)|(apply Ok1.leq_t;exact rfl;exact rfl;omega)|(apply Ok1.eql_t;exact rfl;exact rfl;omega)))|(apply R.isCall;first|apply R.callP rfl rfl rfl hrt|(apply R.callV (vs:=[.slice p tk.length cap]);(iterate 3 exact rfl);intro w1 hw1;exact hlt w1 hw1.chg))|(apply R.pure;exact rfl;first|(apply Ok1.load;exact rfl;first|(apply Ld.own1;exact rfl;exact rfl;(focus (repeat' first|exact At.head|apply At.tail);done);exact rfl)|(apply Ld.ownk;exact rfl;exact rfl;exact At.head;exact rfl))|(apply Ok1.move;exact rfl)|(apply Ok1.fieldAddr;(iterate 5 exact rfl))|(apply Ok1.assign;exact rfl)|(apply Ok1.pick_t;exact rfl;exact rfl)|(apply Ok1.pick_f;exact rfl;exact rfl)|(apply Ok1.not_t;exact rfl))|(apply R.box;(iterate 3 exact rfl);intro)|(apply R.alloc;(iterate 3 exact rfl);intro))|(apply R.is0;(apply R.store;(iterate 6 exact rfl);exact Upd.head;exact rfl))|(apply R.isG;(apply R.guard_run;exact rfl;exact rfl))|apply R.nil|(apply T.is;first|apply T.seq|apply T.region|apply T.skip|apply T.ret|(apply T.cond_t;exact rfl)|(apply T.cond_f;exact rfl)))
      all_goals skip
      (apply RetOk.t;exact rfl)
      rfl
  · rw [if_neg ho]
    repeat' (first|(apply R.is1;first|(apply R.isBin;first|(apply R.pure;exact rfl;first|(apply Ok1.sub64;exact rfl;exact rfl;omega;omega)|(apply Ok1.lss_f;exact rfl;exact rfl;omega)|(apply Ok1.leq_f;exact rfl;exact rfl;omega))|(apply R.eql rfl rfl rfl<;>intro))|(apply R.isCall;first|apply R.callP rfl rfl rfl hrt|(apply R.callV (vs:=[.slice p tk.length cap]);(iterate 3 exact rfl);intro w1 hw1;exact hlt w1 hw1.chg))|(apply R.pure;exact rfl;first|(apply Ok1.load;exact rfl;first|(apply Ld.own1;exact rfl;exact rfl;(focus (repeat' first|exact At.head|apply At.tail);done);exact rfl)|(apply Ld.ownk;exact rfl;exact rfl;exact At.head;exact rfl))|(apply Ok1.move;exact rfl)|(apply Ok1.fieldAddr;(iterate 5 exact rfl))|(apply Ok1.assign;exact rfl)|(apply Ok1.pick_t;exact rfl;exact rfl)|(apply Ok1.pick_f;exact rfl;exact rfl)|(apply Ok1.not_t;exact rfl))|(apply R.box;(iterate 3 exact rfl);intro)|(apply R.alloc;(iterate 3 exact rfl);intro))|(apply R.is0;(apply R.store;(iterate 6 exact rfl);exact Upd.head;exact rfl))|(apply R.isG;first|(apply R.guard_run;exact rfl;exact rfl)|(apply R.guard_not;(iterate 3 exact rfl)))|apply R.nil|(apply T.is;first|(apply T.stop 6)|apply T.seq|apply T.region|apply T.skip|(apply T.cond_f;exact rfl)))
    all_goals rename_i b3 b5 hq9
    all_goals refine ⟨?_⟩
    all_goals clear hq9 hlt hlr ho
    all_goals refine T.weakK (σ':=[(0,.slice p tk.length cap),(3,.pointer (some ⟨b3,0,none⟩))]) (L':=[(b3,.cells ⟨[.int .i64 a,.int .i64 b]⟩ 26 (0,0))]) ?_ (by (focus (repeat' first|exact Keep.nil _|exact Ext.one _ _|apply Keep.cons|apply Ext.cons);done)) ⟨rfl,rfl,trivial⟩
    all_goals repeat' (first|(apply R.is1;(apply R.pure;exact rfl;(apply Ok1.assign;exact rfl)))|apply R.nil|(apply T.is;first|apply T.seq|apply T.region|apply T.block))
    all_goals apply T.loopK (α:=Nat) (I:=fun i=>i≤tk.length∧∀ x∈tk.take i,x≠(a,b)) (σi:=fun i=>[(0,.slice p tk.length cap),(3,.pointer (some ⟨b3,0,none⟩)),(6,.int .i64 i)]) (Li:=fun i=>[(b3,.cells ⟨[.int .i64 a,.int .i64 b]⟩ 26 (0,0))]) (μ:=fun i=>tk.length - i) (i0:=0) ⟨Nat.zero_le _,by simp⟩ ⟨rfl,rfl,rfl,trivial⟩ (by (focus (repeat' first|exact Keep.nil _|exact Ext.one _ _|apply Keep.cons);done))
    all_goals intro i ⟨hi,hall⟩
    all_goals rcases Nat.lt_or_ge i tk.length with hlt|hge
    all_goals first
      | (have him:i=tk.length:=by omega
         subst him
         rw [List.take_of_length_le (Nat.le_refl _)] at hall
         rw [if_neg (fun h=>hall _ h rfl)]
         repeat' (first|(apply R.is1;first|(apply R.isBin;(apply R.pure;exact rfl;(apply Ok1.lss_f;exact rfl;exact rfl;omega)))|(apply R.isCall;(apply R.pure;exact rfl;(apply Ok1.lenS;(iterate 3 exact rfl))))|(apply R.pure;exact rfl;first|(apply Ok1.move;exact rfl)|(apply Ok1.assign;exact rfl)))|apply R.nil|(apply T.is;first|apply T.seq|apply T.region|apply T.exit|apply T.ret|(apply T.cond_f;exact rfl)))
         (apply RetOk.t;exact rfl)
         rfl)
      | (obtain ⟨x,hx⟩:∃ x,tk[i]? = some x:=⟨_,List.getElem?_eq_getElem (by omega)⟩
         obtain ⟨bb,o,hpe,H⟩:=hp.at hx
         replace H:=H 2 nV_len
         by_cases hxe:x=(a,b)
         · subst hxe
           rw [if_pos (List.mem_of_getElem? hx)]
           have hv:nV (a,b)=[.int .i64 a,.int .i64 b]:=rfl
           rw [hv] at H
           repeat' (first|(apply R.is1;first|(apply R.isBin;(apply R.pure;exact rfl;first|(apply Ok1.add64;exact rfl;exact rfl;omega;omega)|(apply Ok1.lss_t;exact rfl;exact rfl;omega)))|(apply R.isCall;(apply R.pure;exact rfl;(apply Ok1.lenS;(iterate 3 exact rfl))))|(apply R.pure;exact rfl;first|(apply Ok1.move;exact rfl)|(apply Ok1.assign;exact rfl)))|apply R.nil|(apply T.is;first|(apply T.drawC (id:=9) [0] (by decide);((apply A.tk 0;exact rfl;kernel_rfl;(apply Ok1.move;exact rfl))<;>(apply A.tk 1;exact rfl;kernel_rfl;(apply Ok1.move;exact rfl))<;>(apply A.tk 2;exact rfl;kernel_rfl;(apply Ok1.indexAddrP;(iterate 4 exact rfl);exact hpe;exact rfl;omega;omega))<;>(apply A.tk 3;exact rfl;kernel_rfl;(apply Ok1.load;exact rfl;(apply Ld.rowk0 H;exact rfl;exact List.not_mem_nil;(iterate 3 exact rfl))))<;>(apply A.tk 4;exact rfl;kernel_rfl;(apply Ok1.load;exact rfl;(apply Ld.ownk;exact rfl;exact rfl;exact At.head;exact rfl)))<;>((apply A.tk 5;exact rfl;kernel_rfl;((apply Ok1.eqlF;(iterate 7 exact rfl)));apply A.dec (t:=43);exact rfl;all_goals intro))<;>(apply A.done;kernel_rfl)))|apply T.seq|apply T.region|apply T.block|apply T.skip|apply T.ret|(apply T.cond_t;exact rfl)|(apply T.cond_f;exact rfl)))
           all_goals first|(exfalso;exact absurd rfl (by assumption))|skip
           (apply RetOk.t;exact rfl)
           rfl
         · have hne:¬ ([.int .i64 x.1,.int .i64 x.2]:List Value)=[.int .i64 a,.int .i64 b]:=fun h=>hxe (nv_inj.1 h)
           repeat' (first|(apply R.is1;first|(apply R.isBin;(apply R.pure;exact rfl;first|(apply Ok1.add64;exact rfl;exact rfl;omega;omega)|(apply Ok1.lss_t;exact rfl;exact rfl;omega)))|(apply R.isCall;(apply R.pure;exact rfl;(apply Ok1.lenS;(iterate 3 exact rfl))))|(apply R.pure;exact rfl;first|(apply Ok1.move;exact rfl)|(apply Ok1.assign;exact rfl)))|apply R.nil|(apply T.is;first|(apply T.drawC (id:=9) [0] (by decide);((apply A.tk 0;exact rfl;kernel_rfl;(apply Ok1.move;exact rfl))<;>(apply A.tk 1;exact rfl;kernel_rfl;(apply Ok1.move;exact rfl))<;>(apply A.tk 2;exact rfl;kernel_rfl;(apply Ok1.indexAddrP;(iterate 4 exact rfl);exact hpe;exact rfl;omega;omega))<;>(apply A.tk 3;exact rfl;kernel_rfl;(apply Ok1.load;exact rfl;(apply Ld.rowk0 H;exact rfl;exact List.not_mem_nil;(iterate 3 exact rfl))))<;>(apply A.tk 4;exact rfl;kernel_rfl;(apply Ok1.load;exact rfl;(apply Ld.ownk;exact rfl;exact rfl;exact At.head;exact rfl)))<;>((apply A.tk 5;exact rfl;kernel_rfl;((apply Ok1.eqlF;(iterate 7 exact rfl)));apply A.dec (t:=43);exact rfl;all_goals intro))<;>(apply A.done;kernel_rfl)))|apply T.seq|apply T.region|apply T.block|apply T.skip|apply T.ret|(apply T.cond_t;exact rfl)|(apply T.cond_f;exact rfl)))
           all_goals first|(exfalso;exact hne (by assumption))|skip
           refine ⟨i+1,⟨by omega,?_⟩,by omega,⟨rfl,rfl,rfl,trivial⟩,by (focus (repeat' first|exact Keep.nil _|exact Ext.one _ _|apply Keep.cons);done)⟩
           intro y hy
           rw [List.take_add_one,hx] at hy
           rcases List.mem_append.1 hy with h|h
           · exact hall y h
           · simp only [Option.toList,List.mem_singleton] at h
             rw [h];exact hxe)
end Go.Proofs.Ytijbmkjebidanaa
set_option linter.unusedSimpArgs false
set_option linter.unusedVariables false
namespace Go.Proofs.Ytijbmkjebidanaa
open Go.RowKit Go.Shelf Go.Sort
set_option maxRecDepth 100000
/-- The document's entry. -/
structure DC where
  c:Cl
  kn:Bool
  asked:Int
  ks:List Int
  kp:Option Addr
  kc:Nat
  tk:List (Int × Int)
  tp:Option Addr
  tc:Nat
def DC.v (d:DC):List Value:=[.int .i64 d.c.id,.int .i64 d.c.roles,.int .i64 d.c.exp,.int .i64 d.c.ser,.bool d.kn,.int .i64 d.asked,.slice d.kp d.ks.length d.kc,.slice d.tp d.tk.length d.tc]
theorem DC.v_len (d:DC):d.v.length=8:=rfl
def posQ (dl:List DC) (c:Cl):Int:=match dl.findIdx? fun x=>decide (x.c=c) with|some i=>(i:Int)|none=>-1
theorem posQ_at {dl:List DC} {c:Cl} {i:Nat} {x:DC} (hp:∀ j y,j < i→dl[j]? = some y→y.c≠c) (hx:dl[i]? = some x) (he:x.c=c):posQ dl c=i:=by
  obtain ⟨hlt,hxe⟩:=List.getElem?_eq_some_iff.1 hx
  have:dl.findIdx? (fun x=>decide (x.c=c))=some i:=by
    rw [List.findIdx?_eq_some_iff_getElem]
    refine ⟨hlt,by simp [hxe,he],fun j hj=>?_⟩
    have:=hp j dl[j] hj (List.getElem?_eq_getElem (by omega))
    simpa using this
  unfold posQ
  rw [this]
theorem posQ_none {dl:List DC} {c:Cl} (hp:∀ y∈dl,y.c≠c):posQ dl c = -1:=by
  have:dl.findIdx? (fun x=>decide (x.c=c))=none:=by
    rw [List.findIdx?_eq_none_iff]
    intro x hx
    simpa using hp x hx
  unfold posQ
  rw [this]
theorem posQ_find (dl:List DC) (c:Cl):((∀ y∈dl,y.c≠c)∧posQ dl c = -1) ∨ ∃ (i:Nat) (x:DC),dl[i]? = some x∧x.c=c∧posQ dl c=i:=by
  cases hf:dl.findIdx? fun x=>decide (x.c=c) with
  | none =>
    left
    refine ⟨fun y hy=>?_,by unfold posQ;rw [hf]⟩
    have:=List.findIdx?_eq_none_iff.1 hf y hy
    simpa using this
  | some i =>
    right
    obtain ⟨hlt,h1,h2⟩:=List.findIdx?_eq_some_iff_getElem.1 hf
    exact ⟨i,dl[i],List.getElem?_eq_getElem hlt,by simpa using h1,by unfold posQ;rw [hf]⟩
theorem vfindQ_ok (p:Option Addr) (cap:Nat) (dl:List DC) (hlen:dl.length≤1000) (c:Cl) (w:World) (hp:RdSl w p DC.v dl) :
    CallW Try.prog 18 [.slice p dl.length cap,kvC c] w fun v _=>v = .int .i64 (posQ dl c):=by
  refine enterW (tb:=tb) Try.func18 rfl Try.ntmps18 rfl ?_
  simp only [kvC]
  repeat' (first|(apply R.is1;first|(apply R.pure;exact rfl;(apply Ok1.assign;exact rfl))|(apply R.box;(iterate 3 exact rfl);intro))|apply R.nil|(apply T.is;first|apply T.seq|apply T.region|apply T.block))
  rename_i bc
  apply T.loopK (α:=Nat) (I:=fun i=>i≤dl.length∧∀ j y,j < i→dl[j]? = some y→y.c≠c) (σi:=fun i=>[(0,.slice p dl.length cap),(3,.pointer (some ⟨bc,0,none⟩)),(5,.int .i64 i)]) (Li:=fun i=>[(bc,.cells ⟨[.int .i64 c.id,.int .i64 c.roles,.int .i64 c.exp,.int .i64 c.ser]⟩ 24 (0,0))]) (μ:=fun i=>dl.length - i) (i0:=0)
  · exact ⟨Nat.zero_le _,by simp⟩
  · exact ⟨rfl,rfl,rfl,trivial⟩
  · (focus (repeat' first|exact Keep.nil _|exact Ext.one _ _|apply Keep.cons);done)
  · rintro i ⟨hi,hn⟩
    rcases Nat.lt_or_ge i dl.length with hlt|hge
    · obtain ⟨e,he⟩:∃ e,dl[i]? = some e:=⟨_,List.getElem?_eq_getElem (by omega)⟩
      obtain ⟨b,o,hpe,H⟩:=hp.at he
      replace H:=H 8 DC.v_len
      repeat' (first|(apply R.is1;first|(apply R.isBin;(apply R.pure;exact rfl;first|(apply Ok1.add64;exact rfl;exact rfl;omega;omega)|(apply Ok1.lss_t;exact rfl;exact rfl;omega)))|(apply R.isCall;(apply R.pure;exact rfl;(apply Ok1.lenS;(iterate 3 exact rfl))))|(apply R.pure;exact rfl;first|(apply Ok1.move;exact rfl)|(apply Ok1.assign;exact rfl)))|apply R.nil|(apply T.is;first|(apply T.drawC (id:=4) [0] (by decide);((apply A.tk 0;exact rfl;kernel_rfl;(apply Ok1.move;exact rfl))<;>(apply A.tk 1;exact rfl;kernel_rfl;(apply Ok1.move;exact rfl))<;>(apply A.tk 2;exact rfl;kernel_rfl;(apply Ok1.indexAddrP;(iterate 4 exact rfl);exact hpe;exact rfl;omega;omega))<;>(apply A.tk 3;exact rfl;kernel_rfl;(apply Ok1.fieldAddr;(iterate 5 exact rfl)))<;>(apply A.tk 4;exact rfl;kernel_rfl;(apply Ok1.load;exact rfl;apply Ld.rowk H;exact rfl;exact List.not_mem_nil;(iterate 3 exact rfl)))<;>(apply A.tk 5;exact rfl;kernel_rfl;(apply Ok1.load;exact rfl;(apply Ld.ownk;exact rfl;exact rfl;exact At.head;exact rfl)))<;>((apply A.tk 6;exact rfl;kernel_rfl;((apply Ok1.eqlF;(iterate 7 exact rfl)));apply A.dec (t:=18);exact rfl;all_goals intro))<;>(apply A.done;kernel_rfl)))|apply T.seq|apply T.region|apply T.block|apply T.skip|apply T.ret|(apply T.cond_t;exact rfl)|(apply T.cond_f;exact rfl)))
      · have hc:e.c=c:=clvinjK.1 ‹_›
        (apply RetOk.t;exact rfl)
        rw [posQ_at hn he hc]
      · have hc:e.c≠c:=fun h=>absurd (clvinjK.2 h) ‹_›
        refine ⟨i+1,⟨by omega,fun j x hj hx=>?_⟩,by omega,⟨rfl,rfl,rfl,trivial⟩,by (focus (repeat' first|exact Keep.nil _|exact Ext.one _ _|apply Keep.cons);done)⟩
        rcases Nat.lt_or_ge j i with h|h
        · exact hn j x h hx
        · have:j=i:=by omega
          subst this
          rw [he] at hx;cases hx;exact hc
    · have him:i=dl.length:=by omega
      subst him
      repeat' (first|(apply R.is1;first|(apply R.isBin;(apply R.pure;exact rfl;(apply Ok1.lss_f;exact rfl;exact rfl;omega)))|(apply R.isCall;(apply R.pure;exact rfl;(apply Ok1.lenS;(iterate 3 exact rfl))))|(apply R.pure;exact rfl;first|(apply Ok1.move;exact rfl)|(apply Ok1.assign;exact rfl)))|apply R.nil|(apply T.is;first|apply T.seq|apply T.region|apply T.exit|apply T.ret|(apply T.cond_f;exact rfl)))
      (apply RetOk.t;exact rfl)
      rw [posQ_none fun y hy=>by
        obtain ⟨j,hj,rfl⟩:=List.mem_iff_getElem.1 hy
        exact hn j _ hj (List.getElem?_eq_getElem hj)]
/-- Inserted ahead of the first that is greater. -/
def insQ:List DC→DC→List DC
  | [],e=>[e]
  | x::r,e=>if lessCl e.c x.c then e::x::r else x::insQ r e
def putQ (l:List DC) (e:DC):Bool:=l.any fun x=>lessCl e.c x.c
def accQ (l:List DC) (e:DC):List DC:=if putQ l e then insQ l e else l
theorem putQ_t {l:List DC} {e:DC} (h:putQ l e=true):∃ y∈l,lessCl e.c y.c=true:=by simpa [putQ] using h
theorem putQ_f {l:List DC} {e:DC} (h:putQ l e=false):∀ y∈l,¬ lessCl e.c y.c=true:=by simpa [putQ] using h
theorem insQ_len (e:DC):∀ l:List DC,(insQ l e).length=l.length+1
  | []=>rfl
  | y::r=>by
    simp only [insQ]
    split
    · rfl
    · simp only [List.length_cons,insQ_len e r]
theorem insQ_put {e x:DC}:∀ {l:List DC},(∃ y∈l,lessCl e.c y.c=true)→insQ (l++[x]) e=insQ l e++[x]
  | [],h=>by simp at h
  | y :: r,h=>by
    simp only [List.cons_append,insQ]
    split
    · rfl
    · rename_i hy
      have:∃ y∈r,lessCl e.c y.c=true:=by
        obtain ⟨z,hz,hlt⟩:=h
        rcases List.mem_cons.1 hz with rfl|hz
        · exact absurd hlt hy
        · exact ⟨z,hz,hlt⟩
      rw [insQ_put this]
      rfl
theorem insQ_end {e:DC}:∀ {l:List DC},(∀ y∈l,¬ lessCl e.c y.c=true)→insQ l e=l++[e]
  | [],_=>rfl
  | y::r,h=>by
    simp only [insQ]
    rw [if_neg (h y List.mem_cons_self),insQ_end fun z hz=>h z (List.mem_cons_of_mem _ hz)]
    rfl
theorem insQ_new {e x:DC} (hx:lessCl e.c x.c=true):∀ {l:List DC},(∀ y∈l,¬ lessCl e.c y.c=true)→insQ (l++[x]) e=l++[e]++[x]
  | [],_=>by simp [insQ,hx]
  | y::r,h=>by
    simp only [List.cons_append,insQ]
    rw [if_neg (h y List.mem_cons_self),insQ_new hx fun z hz=>h z (List.mem_cons_of_mem _ hz)]
    done
theorem insQ_perm (e:DC):∀ l:List DC,(insQ l e).Perm (e::l)
  | []=>.refl _
  | y::r=>by
    simp only [insQ]
    split
    · exact .refl _
    · exact ((insQ_perm e r).cons y).trans (.swap e y r)
theorem vlook15_none (p:Option Addr) (cap:Nat) (dl:List DC) (hlen:dl.length≤1000) (c:Cl) (a b:Int) (w:World) (hp:RdSl w p DC.v dl) (hn:∀ y∈dl,y.c≠c) :
    CallW Try.prog 15 [.slice p dl.length cap,kvC c,.agg ⟨[.int .i64 a,.int .i64 b]⟩] w fun v _=>v = .int .i64 7:=by
  have hfd:=fun w1 (h:Chg [] w w1)=>vfindQ_ok p cap dl hlen c w1 (hp.chg h (Off.nil _))
  rw [posQ_none hn] at hfd
  refine enterW (tb:=tb) Try.func15 rfl Try.ntmps15 rfl ?_
  simp only [kvC] at hfd ⊢
  repeat' (first|(apply R.is1;first|(apply R.isBin;(apply R.pure;exact rfl;(apply Ok1.lss_t;exact rfl;exact rfl;omega)))|(apply R.isCall;(apply R.callV (vs:=[.slice p dl.length cap,.agg ⟨_⟩]);(iterate 3 exact rfl);intro w1 hw1;exact hfd w1 hw1.chg))|(apply R.pure;exact rfl;first|(apply Ok1.load;exact rfl;(apply Ld.ownk;exact rfl;exact rfl;(focus (repeat' first|exact At.head|apply At.tail);done);exact rfl))|(apply Ok1.move;exact rfl)|(apply Ok1.assign;exact rfl))|(apply R.box;(iterate 3 exact rfl);intro))|apply R.nil|(apply T.is;first|apply T.seq|apply T.region|apply T.ret|(apply T.cond_t;exact rfl)))
  (apply RetOk.t;exact rfl)
  rfl
theorem vlook15_at (p:Option Addr) (cap:Nat) (dl:List DC) (hlen:dl.length≤1000) (c:Cl) (a b:Int) (w:World) (hp:RdSl w p DC.v dl) (i:Nat) (d:DC) (hd:dl[i]? = some d) (hpos:posQ dl c=i) (hl:d.tk.length≤1000) (hr:∀ p∈d.tk,NRc p.1 p.2) (ht:RdSl w d.tp nV d.tk) :
    CallW Try.prog 15 [.slice p dl.length cap,kvC c,.agg ⟨[.int .i64 a,.int .i64 b]⟩] w fun v _=>v = .int .i64 (if d.kn then vlook12 d.tk a b else 11):=by
  have hfd:=fun w1 (h:Chg [] w w1)=>vfindQ_ok p cap dl hlen c w1 (hp.chg h (Off.nil _))
  rw [hpos] at hfd
  have hlk:=fun w1 (h:Chg [] w w1)=>look12_ok d.tp d.tc d.tk hl hr a b w1 (ht.chg h (Off.nil _))
  obtain ⟨bb,o,hpe,H⟩:=hp.at hd
  replace H:=H 8 DC.v_len
  have hil:=(List.getElem?_eq_some_iff.1 hd).1
  obtain ⟨dc,kn,asked,ks,kp,kc,tk,tp,tc⟩:=d
  have hv:DC.v ⟨dc,kn,asked,ks,kp,kc,tk,tp,tc⟩=[.int .i64 dc.id,.int .i64 dc.roles,.int .i64 dc.exp,.int .i64 dc.ser,.bool kn,.int .i64 asked,.slice kp ks.length kc,.slice tp tk.length tc]:=rfl
  rw [hv] at H
  simp only at hlk ⊢
  refine enterW (tb:=tb) Try.func15 rfl Try.ntmps15 rfl ?_
  simp only [kvC] at hfd ⊢
  cases kn with
  | false =>
    repeat' (first|(apply R.is1;first|(apply R.isBin;(apply R.pure;exact rfl;(apply Ok1.lss_f;exact rfl;exact rfl;omega)))|(apply R.isCall;(apply R.callV (vs:=[.slice p dl.length cap,.agg ⟨_⟩]);(iterate 3 exact rfl);intro w1 hw1;exact hfd w1 hw1.chg))|(apply R.pure;exact rfl;first|(apply Ok1.indexAddrP;(iterate 4 exact rfl);exact hpe;exact rfl;omega;omega)|(apply Ok1.load;exact rfl;first|(apply Ld.row1 H;exact rfl;exact List.not_mem_nil;(iterate 3 exact rfl))|(apply Ld.ownk;exact rfl;exact rfl;(focus (repeat' first|exact At.head|apply At.tail);done);exact rfl))|(apply Ok1.move;exact rfl)|(apply Ok1.fieldAddr;(iterate 5 exact rfl))|(apply Ok1.assign;exact rfl)|(apply Ok1.not_f;exact rfl))|(apply R.box;(iterate 3 exact rfl);intro))|apply R.nil|(apply T.is;first|apply T.seq|apply T.region|apply T.skip|apply T.ret|(apply T.cond_t;exact rfl)|(apply T.cond_f;exact rfl)))
    all_goals skip
    (apply RetOk.t;exact rfl)
    rfl
  | true =>
    repeat' (first|(apply R.is1;first|(apply R.isBin;(apply R.pure;exact rfl;(apply Ok1.lss_f;exact rfl;exact rfl;omega)))|(apply R.isCall;(apply R.callV (vs:=[.slice p dl.length cap,.agg ⟨_⟩]);(iterate 3 exact rfl);intro w1 hw1;exact hfd w1 hw1.chg))|(apply R.pure;exact rfl;first|(apply Ok1.indexAddrP;(iterate 4 exact rfl);exact hpe;exact rfl;omega;omega)|(apply Ok1.load;exact rfl;first|(apply Ld.row1 H;exact rfl;exact List.not_mem_nil;(iterate 3 exact rfl))|(apply Ld.ownk;exact rfl;exact rfl;(focus (repeat' first|exact At.head|apply At.tail);done);exact rfl))|(apply Ok1.move;exact rfl)|(apply Ok1.fieldAddr;(iterate 5 exact rfl))|(apply Ok1.assign;exact rfl)|(apply Ok1.not_t;exact rfl))|(apply R.box;(iterate 3 exact rfl);intro))|apply R.nil|(apply T.is;first|(apply T.drawC (id:=6) [0,1] (by decide);((apply A.tk 0;exact rfl;kernel_rfl;(apply Ok1.move;exact rfl))<;>(apply A.tk 1;exact rfl;kernel_rfl;(apply Ok1.move;exact rfl))<;>(apply A.tk 2;exact rfl;kernel_rfl;(apply Ok1.indexAddrP;(iterate 4 exact rfl);exact hpe;exact rfl;omega;omega))<;>(apply A.tk 3;exact rfl;kernel_rfl;(apply Ok1.fieldAddr;(iterate 5 exact rfl)))<;>(apply A.tk 4;exact rfl;kernel_rfl;(apply Ok1.load;exact rfl;(apply Ld.row1 H;exact rfl;exact List.not_mem_nil;(iterate 3 exact rfl))))<;>(apply A.tk 5;exact rfl;kernel_rfl;(apply Ok1.load;exact rfl;(apply Ld.ownk;exact rfl;exact rfl;exact At.head;exact rfl)))<;>(apply A.one 6;kernel_rfl;exact rfl;(((apply R.callV (vs:=[.slice tp tk.length tc,.agg ⟨_⟩]);(iterate 3 exact rfl);intro w1 hw1;exact hlk w1 hw1.chg)));apply R.nil;refine ⟨?_,?_⟩;(focus (repeat' first|exact trivial|exact At.head|apply At.tail|refine ⟨?_,?_⟩)))<;>(apply A.tk 7;exact rfl;kernel_rfl;(apply Ok1.assign;exact rfl))<;>(apply A.done;kernel_rfl)))|apply T.seq|apply T.region|apply T.skip|apply T.ret|(apply T.cond_f;exact rfl)))
    all_goals skip
    (apply RetOk.t;exact rfl)
    rfl
end Go.Proofs.Ytijbmkjebidanaa
set_option linter.unusedSimpArgs false
set_option linter.unusedVariables false
namespace Go.Proofs.Ytijbmkjebidanaa
open Go.RowKit Go.Shelf Go.Sort
set_option maxRecDepth 100000
section
variable {X:Cx} {σ:Env} {L:Lst} {ty t:TypeId} {pos:String} {af:Array Edge} {x y:Operand} {r:TRow}
theorem Ok1.eqlB15 {d:Option Nat} {g:Option (Nat × Bool)} {ty2:TypeId} {b c q:Bool} (ht:X.tb.row t=some r) (hk:r.k = .bool) (hx:ev σ x=some (.bool b)) (hy:ev σ y=some (.bool c)) (hq:decide (b=c)=q):Ok1 X ⟨d,.binOp .eql t x y ty2,ty,pos,af,g⟩ σ L (.bool q):=.mk fun a w ha hw=>by
  have hu:X.P.underlying t=some .bool:=by have:=(X.tb.get ht).is;rw [hk] at this;exact this
  have hE:∀ n,(Op.equalIn (n+1) t (.bool b) (.bool c)).run X.P w = .ok q w:=by
    intro n
    rw [Op.equalIn]
    subst hq
    cases b<;>cases c<;>simp [run_underlying hu]
  obtain ⟨n,hm⟩:∃ n,Op.maxDepth=n+1:=⟨_,rfl⟩
  simp [execOp,ha.ev hx,ha.ev hy,eqGuard,binOp,Op.equal,hm,hE]
theorem Ok1.neqB15 {d:Option Nat} {g:Option (Nat × Bool)} {ty2:TypeId} {b c q:Bool} (ht:X.tb.row t=some r) (hk:r.k = .bool) (hx:ev σ x=some (.bool b)) (hy:ev σ y=some (.bool c)) (hq:decide (b≠c)=q):Ok1 X ⟨d,.binOp .neq t x y ty2,ty,pos,af,g⟩ σ L (.bool q):=.mk fun a w ha hw=>by
  have hu:X.P.underlying t=some .bool:=by have:=(X.tb.get ht).is;rw [hk] at this;exact this
  have hE:∀ n,(Op.equalIn (n+1) t (.bool b) (.bool c)).run X.P w = .ok (!q) w:=by
    intro n
    rw [Op.equalIn]
    subst hq
    cases b<;>cases c<;>simp [run_underlying hu]
  obtain ⟨n,hm⟩:∃ n,Op.maxDepth=n+1:=⟨_,rfl⟩
  simp [execOp,ha.ev hx,ha.ev hy,eqGuard,binOp,Op.equal,hm,hE]
end
theorem of15_ok (p:Option Addr) (cap:Nat) (dl:List DC) (hlen:dl.length≤1000) (q:Bool) (w:World) (hp:RdSl w p DC.v dl) :
    CallM Try.prog 62 [.slice p dl.length cap,.bool q] [] w fun v L=>∃ ov,OvOk 4 ov ((dl.filter fun d=>d.kn == q).map DC.c).length (fl Cl.v ((dl.filter fun d=>d.kn == q).map DC.c))∧v=slV ov ((dl.filter fun d=>d.kn == q).map DC.c).length∧L=blkL 24 ov (fl Cl.v ((dl.filter fun d=>d.kn == q).map DC.c)):=by
  obtain ⟨flt,hflt⟩:∃ flt:List DC→List Cl,flt=fun l=>(l.filter fun d=>d.kn == q).map DC.c:=⟨_,rfl⟩
  have hf1:∀ l x,(x.kn == q)=true→flt (l++[x])=flt l++[x.c]:=by intro l x h;subst hflt;simp [h]
  have hf0:∀ l x,(x.kn == q)=false→flt (l++[x])=flt l:=by intro l x h;subst hflt;simp [h]
  have hfn:flt []=[]:=by subst hflt;rfl
  have hfl:∀ l,(flt l).length≤l.length:=by intro l;subst hflt;rw [List.length_map];exact List.length_filter_le ..
  have hfe:(dl.filter fun d=>d.kn == q).map DC.c=flt dl:=by rw [hflt]
  rw [hfe]
  clear hflt hfe
  refine enterK (tb:=tb) Try.func62 rfl Try.ntmps62 rfl ?_
  repeat' (first|(apply R.is1;(apply R.pure;exact rfl;(apply Ok1.assign;exact rfl)))|apply R.nil|(apply T.is;first|apply T.seq|apply T.region|apply T.block))
  apply T.loopK (α:=Nat × Ov) (I:=fun y=>y.1≤dl.length∧OvOk 4 y.2 (flt (dl.take y.1)).length (fl Cl.v (flt (dl.take y.1)))) (σi:=fun y=>[(0,.slice p dl.length cap),(1,.bool q),(5,slV y.2 (flt (dl.take y.1)).length),(6,.int .i64 y.1)]) (Li:=fun y=>blkL 24 y.2 (fl Cl.v (flt (dl.take y.1)))) (μ:=fun y=>dl.length - y.1) (i0:=(0,none))
  · simp only [List.take_zero,hfn];exact ⟨Nat.zero_le _,OvOk.start 4⟩
  · simp only [List.take_zero,hfn];exact ⟨rfl,rfl,rfl,rfl,trivial⟩
  · (focus ((repeat' (exact Keep.nil _));done))
  rintro ⟨i,ov⟩ ⟨hi,hov⟩
  simp only at hi hov ⊢
  rcases Nat.lt_or_ge i dl.length with hlt|hge
  · obtain ⟨x,hx⟩:∃ x,dl[i]? = some x:=⟨_,List.getElem?_eq_getElem (by omega)⟩
    obtain ⟨b,o,hpe,H⟩:=hp.at hx
    replace H:=H 8 DC.v_len
    have htk:dl.take (i+1)=dl.take i++[x]:=by rw [List.take_add_one,hx];rfl
    have hf1x:=hf1 (dl.take i) x
    have hf0x:=hf0 (dl.take i) x
    have hfli:=hfl (dl.take i)
    rw [List.length_take] at hfli
    rw [← htk] at hf1x hf0x
    obtain ⟨dc,kn,asked,ks,kp,kc,tk,tp,tc⟩:=x
    have hv:DC.v ⟨dc,kn,asked,ks,kp,kc,tk,tp,tc⟩=[.int .i64 dc.id,.int .i64 dc.roles,.int .i64 dc.exp,.int .i64 dc.ser,.bool kn,.int .i64 asked,.slice kp ks.length kc,.slice tp tk.length tc]:=rfl
    rw [hv] at H
    simp only at hf1x hf0x
    by_cases hkq:kn=q
    · subst hkq
      have hA:=hf1x (beq_self_eq_true kn)
      generalize flt (dl.take i)=AA at *
      repeat' (first|(apply R.is1;first|(apply R.isBin;(apply R.pure;exact rfl;first|(apply Ok1.eqlB15;(iterate 4 exact rfl);exact decide_eq_true rfl)|(apply Ok1.add64;exact rfl;exact rfl;omega;omega)|(apply Ok1.lss_t;exact rfl;exact rfl;omega)))|(apply R.isCall;first|(apply R.append1;(iterate 12 exact rfl);(focus (repeat' first|exact OwnAt.base hov|apply OwnAt.tail);done);exact At.head;exact rfl;exact rfl;omega;omega;intro b2 j2 k2 hj2)|(apply R.pure;exact rfl;(apply Ok1.lenS;(iterate 3 exact rfl))))|(apply R.pure;exact rfl;first|(apply Ok1.indexAddrP;(iterate 4 exact rfl);exact hpe;exact rfl;omega;omega)|(apply Ok1.load;exact rfl;first|(apply Ld.row1 H;exact rfl;exact List.not_mem_nil;(iterate 3 exact rfl))|(apply Ld.rowk0 H;exact rfl;exact List.not_mem_nil;(iterate 3 exact rfl)))|(apply Ok1.move;exact rfl)|(apply Ok1.fieldAddr;(iterate 5 exact rfl))|(apply Ok1.assign;exact rfl))|(apply R.buildSlice;(iterate 12 exact rfl);intro))|apply R.nil|(apply T.is;first|apply T.seq|apply T.region|apply T.block|apply T.skip|(apply T.cond_t;exact rfl)))
      refine ⟨(i+1,some (b2,j2,k2)),?_⟩
      simp only [hA,List.length_append,List.length_singleton,fl_snoc]
      exact ⟨⟨by omega,OvOk.some (b:=b2) hov (ys:=Cl.v dc) (m:=1) rfl hj2⟩,by omega,⟨rfl,rfl,rfl,rfl,trivial⟩,by simp only [blkL];(focus (repeat' first|exact Keep.nil _|exact Ext.one _ _|apply Keep.cons);done)⟩
    · have hA:=hf0x (by simpa using hkq)
      generalize flt (dl.take i)=AA at *
      repeat' (first|(apply R.is1;first|(apply R.isBin;(apply R.pure;exact rfl;first|(apply Ok1.eqlB15;(iterate 4 exact rfl);exact decide_eq_false hkq)|(apply Ok1.add64;exact rfl;exact rfl;omega;omega)|(apply Ok1.lss_t;exact rfl;exact rfl;omega)))|(apply R.isCall;(apply R.pure;exact rfl;(apply Ok1.lenS;(iterate 3 exact rfl))))|(apply R.pure;exact rfl;first|(apply Ok1.indexAddrP;(iterate 4 exact rfl);exact hpe;exact rfl;omega;omega)|(apply Ok1.load;exact rfl;(apply Ld.row1 H;exact rfl;exact List.not_mem_nil;(iterate 3 exact rfl)))|(apply Ok1.move;exact rfl)|(apply Ok1.fieldAddr;(iterate 5 exact rfl))|(apply Ok1.assign;exact rfl)))|apply R.nil|(apply T.is;first|apply T.seq|apply T.region|apply T.block|apply T.skip|(apply T.cond_t;exact rfl)|(apply T.cond_f;exact rfl)))
      refine ⟨(i+1,ov),?_⟩
      simp only [hA]
      exact ⟨⟨by omega,hov⟩,by omega,⟨rfl,rfl,rfl,rfl,trivial⟩,by (focus (repeat' first|exact Ext.all _|apply Keep.last);done)⟩
  · have him:i=dl.length:=by omega
    subst him
    rw [List.take_length] at hov ⊢
    repeat' (first|(apply R.is1;first|(apply R.isBin;(apply R.pure;exact rfl;(apply Ok1.lss_f;exact rfl;exact rfl;omega)))|(apply R.isCall;(apply R.pure;exact rfl;(apply Ok1.lenS;(iterate 3 exact rfl))))|(apply R.pure;exact rfl;first|(apply Ok1.move;exact rfl)|(apply Ok1.assign;exact rfl)))|apply R.nil|(apply T.is;first|apply T.seq|apply T.region|apply T.exit|apply T.ret|(apply T.cond_f;exact rfl)))
    (apply RetOk.t;exact rfl)
    exact ⟨_,by (focus (repeat' first|exact Ext.all _|apply Keep.last);done),ov,hov,rfl,rfl⟩
theorem same15_ok (p1 p2:Option Addr) (c1 c2:Nat) (xs ys:List Cl) (hl:xs.length≤1000000) (hl2:ys.length≤1000000) (w:World) (hp1:RdSl w p1 Cl.v xs) (hp2:RdSl w p2 Cl.v ys) :
    CallW Try.prog 9 [.slice p1 xs.length c1,.slice p2 ys.length c2] w fun v _=>v = .bool (decide (xs=ys)):=by
  refine enterW (tb:=tb) Try.func9 rfl Try.ntmps9 rfl ?_
  by_cases hn:xs.length=ys.length
  case neg =>
    rw [decide_eq_false (fun h=>hn (by rw [h]))]
    repeat' (first|(apply R.is1;first|(apply R.isBin;(apply R.pure;exact rfl;(apply Ok1.neq_t;exact rfl;exact rfl;omega)))|(apply R.isCall;(apply R.pure;exact rfl;(apply Ok1.lenS;(iterate 3 exact rfl))))|(apply R.pure;exact rfl;first|(apply Ok1.move;exact rfl)|(apply Ok1.assign;exact rfl)))|apply R.nil|(apply T.is;first|apply T.seq|apply T.region|apply T.ret|(apply T.cond_t;exact rfl)))
    all_goals skip
    (apply RetOk.t;exact rfl)
    rfl
  repeat' (first|(apply R.is1;first|(apply R.isBin;(apply R.pure;exact rfl;(apply Ok1.neq_f;exact rfl;exact rfl;omega)))|(apply R.isCall;(apply R.pure;exact rfl;(apply Ok1.lenS;(iterate 3 exact rfl))))|(apply R.pure;exact rfl;first|(apply Ok1.move;exact rfl)|(apply Ok1.assign;exact rfl)))|apply R.nil|(apply T.is;first|(apply T.stop 3)|apply T.seq|apply T.region|apply T.skip|(apply T.cond_f;exact rfl)))
  all_goals skip
  refine ⟨?_⟩
  repeat' (first|(apply R.is1;(apply R.pure;exact rfl;(apply Ok1.assign;exact rfl)))|apply R.nil|(apply T.is;first|apply T.seq|apply T.region|apply T.block))
  apply T.loopK (α:=Nat) (I:=fun i=>i≤xs.length∧xs.take i=ys.take i) (σi:=fun i=>[(0,.slice p1 xs.length c1),(1,.slice p2 ys.length c2),(5,.int .i64 i)]) (Li:=fun i=>[]) (μ:=fun i=>xs.length - i) (i0:=0)
  · exact ⟨Nat.zero_le _,rfl⟩
  · exact ⟨rfl,rfl,rfl,trivial⟩
  · (focus ((repeat' (exact Keep.nil _));done))
  rintro i ⟨hi,htk⟩
  rcases Nat.lt_or_ge i xs.length with hlt|hge
  · obtain ⟨x,hx⟩:∃ x,xs[i]? = some x:=⟨_,List.getElem?_eq_getElem (by omega)⟩
    obtain ⟨y,hy⟩:∃ y,ys[i]? = some y:=⟨_,List.getElem?_eq_getElem (by omega)⟩
    obtain ⟨b1,o1,hpe1,H1⟩:=hp1.at hx
    obtain ⟨b2,o2,hpe2,H2⟩:=hp2.at hy
    replace H1:=H1 4 Cl.v_len
    replace H2:=H2 4 Cl.v_len
    have hof:=of5_ok x.id x.roles x.exp x.ser
    repeat' (first|(apply R.is1;first|(apply R.isBin;(apply R.pure;exact rfl;first|(apply Ok1.add64;exact rfl;exact rfl;omega;omega)|(apply Ok1.lss_t;exact rfl;exact rfl;omega)))|(apply R.isCall;(apply R.pure;exact rfl;(apply Ok1.lenS;(iterate 3 exact rfl))))|(apply R.pure;exact rfl;first|(apply Ok1.move;exact rfl)|(apply Ok1.assign;exact rfl)))|apply R.nil|(apply T.is;first|(apply T.drawC (id:=6) [] (by decide);((apply A.tk 0;exact rfl;kernel_rfl;(apply Ok1.move;exact rfl))<;>(apply A.tk 1;exact rfl;kernel_rfl;(apply Ok1.move;exact rfl))<;>(apply A.tk 2;exact rfl;kernel_rfl;(apply Ok1.indexAddrP;(iterate 4 exact rfl);exact hpe1;exact rfl;omega;omega))<;>(apply A.tk 3;exact rfl;kernel_rfl;(apply Ok1.load;exact rfl;(apply Ld.rowk0 H1;exact rfl;exact List.not_mem_nil;(iterate 3 exact rfl))))<;>(apply A.tk 5;exact rfl;kernel_rfl;(apply Ok1.move;exact rfl))<;>(apply A.tk 6;exact rfl;kernel_rfl;(apply Ok1.move;exact rfl))<;>(apply A.tk 7;exact rfl;kernel_rfl;(apply Ok1.indexAddrP;(iterate 4 exact rfl);exact hpe2;exact rfl;omega;omega))<;>(apply A.tk 8;exact rfl;kernel_rfl;(apply Ok1.load;exact rfl;(apply Ld.rowk0 H2;exact rfl;exact List.not_mem_nil;(iterate 3 exact rfl))))<;>(apply A.one 4;kernel_rfl;exact rfl;((apply R.callP rfl rfl rfl hof));apply R.nil;refine ⟨?_,?_⟩;(focus ((repeat' (exact trivial)))))<;>((apply A.tk 9;exact rfl;kernel_rfl;((apply Ok1.neqF;(iterate 7 exact rfl)));apply A.dec (t:=26);exact rfl;all_goals intro))<;>(apply A.done;kernel_rfl)))|apply T.seq|apply T.region|apply T.block|apply T.skip|apply T.ret|(apply T.cond_t;exact rfl)|(apply T.cond_f;exact rfl)))
    · have hne:x≠y:=fun h=>absurd (clvinjK.2 h) ‹_›
      (apply RetOk.t;exact rfl)
      rw [decide_eq_false]
      intro h
      rw [h,hy] at hx
      exact hne (Option.some.inj hx).symm
    · have hxy:x=y:=clvinjK.1 (Classical.not_not.1 ‹_›)
      refine ⟨i+1,⟨by omega,?_⟩,by omega,⟨rfl,rfl,rfl,trivial⟩,by (focus ((repeat' (exact Keep.nil _));done))⟩
      rw [List.take_add_one,List.take_add_one,htk,hx,hy,hxy]
  · have him:i=xs.length:=by omega
    subst him
    rw [List.take_length] at htk
    rw [hn,List.take_length] at htk
    repeat' (first|(apply R.is1;first|(apply R.isBin;(apply R.pure;exact rfl;(apply Ok1.lss_f;exact rfl;exact rfl;omega)))|(apply R.isCall;(apply R.pure;exact rfl;(apply Ok1.lenS;(iterate 3 exact rfl))))|(apply R.pure;exact rfl;first|(apply Ok1.move;exact rfl)|(apply Ok1.assign;exact rfl)))|apply R.nil|(apply T.is;first|apply T.seq|apply T.region|apply T.exit|apply T.ret|(apply T.cond_f;exact rfl)))
    (apply RetOk.t;exact rfl)
    rw [decide_eq_true htk]
end Go.Proofs.Ytijbmkjebidanaa
set_option linter.unusedSimpArgs false
set_option linter.unusedVariables false
namespace Go.Proofs.Ytijbmkjebidanaa
open Go.RowKit Go.Shelf Go.Sort
set_option maxRecDepth 100000
def newQ (c:Cl) (tick:Int):DC:=⟨c,false,tick,[],none,0,[],none,0⟩
section
variable (p:Option Addr) (cap:Nat) (dl:List DC) (hlen:dl.length≤1000) (c:Cl) (tick:Int)
theorem vwantQ_no (hlen:dl.length≤1000) (w:World) (hp:RdSl w p DC.v dl) (E:Int) (hE:(¬ c.right∧E=10) ∨ (c.right∧0≤posQ dl c∧E=8) ∨ (c.right∧posQ dl c = -1∧16≤dl.length∧E=6)) :
    CallW Try.prog 7 [.slice p dl.length cap,kvC c,.int .i64 tick] w fun v _=>v = .tuple #[.slice p dl.length cap,.int .i64 E]:=by
  have hfd:=fun w1 (h:Chg [] w w1)=>vfindQ_ok p cap dl hlen c w1 (hp.chg h (Off.nil _))
  have hrt:=right_ok c.id c.roles c.exp c.ser
  have hpb:posQ dl c≤1000:=by
    unfold posQ;split
    · rename_i i h
      have:=(List.findIdx?_eq_some_iff_getElem.1 h).1
      omega
    · omega
  generalize posQ dl c=P at *
  simp only [kvC] at hfd ⊢
  rcases hE with ⟨h1,rfl⟩|⟨h1,h2,rfl⟩|⟨h1,rfl,h3,rfl⟩
  · rw [decide_eq_false (p:=Cl.right ⟨c.id,c.roles,c.exp,c.ser⟩) h1] at hrt
    refine enterW (tb:=tb) Try.func7 rfl Try.ntmps7 rfl ?_
    repeat' (first|(apply R.is1;first|(apply R.isCall;apply R.callP rfl rfl rfl hrt)|(apply R.pure;exact rfl;first|(apply Ok1.load;exact rfl;(apply Ld.ownk;exact rfl;exact rfl;exact At.head;exact rfl))|(apply Ok1.move;exact rfl)|(apply Ok1.assign;exact rfl)|(apply Ok1.not_f;exact rfl))|(apply R.box;(iterate 3 exact rfl);intro))|apply R.nil|(apply T.is;first|apply T.seq|apply T.region|apply T.ret|(apply T.cond_t;exact rfl)))
    (apply RetOk.tt;exact rfl;exact rfl)
    rfl
  · rw [decide_eq_true (p:=Cl.right ⟨c.id,c.roles,c.exp,c.ser⟩) h1] at hrt
    refine enterW (tb:=tb) Try.func7 rfl Try.ntmps7 rfl ?_
    repeat' (first|(apply R.is1;first|(apply R.isBin;(apply R.pure;exact rfl;(apply Ok1.geq_t;exact rfl;exact rfl;omega)))|(apply R.isCall;first|apply R.callP rfl rfl rfl hrt|(apply R.callV (vs:=[.slice p dl.length cap,.agg ⟨_⟩]);(iterate 3 exact rfl);intro w1 hw1;exact hfd w1 hw1.chg))|(apply R.pure;exact rfl;first|(apply Ok1.load;exact rfl;(apply Ld.ownk;exact rfl;exact rfl;exact At.head;exact rfl))|(apply Ok1.move;exact rfl)|(apply Ok1.assign;exact rfl)|(apply Ok1.not_t;exact rfl))|(apply R.box;(iterate 3 exact rfl);intro))|apply R.nil|(apply T.is;first|apply T.seq|apply T.region|apply T.skip|apply T.ret|(apply T.cond_t;exact rfl)|(apply T.cond_f;exact rfl)))
    all_goals skip
    (apply RetOk.tt;exact rfl;exact rfl)
    rfl
  · rw [decide_eq_true (p:=Cl.right ⟨c.id,c.roles,c.exp,c.ser⟩) h1] at hrt
    refine enterW (tb:=tb) Try.func7 rfl Try.ntmps7 rfl ?_
    repeat' (first|(apply R.is1;first|(apply R.isBin;(apply R.pure;exact rfl;first|(apply Ok1.geq_t;exact rfl;exact rfl;omega)|(apply Ok1.geq_f;exact rfl;exact rfl;omega)))|(apply R.isCall;first|apply R.callP rfl rfl rfl hrt|(apply R.callV (vs:=[.slice p dl.length cap,.agg ⟨_⟩]);(iterate 3 exact rfl);intro w1 hw1;exact hfd w1 hw1.chg)|(apply R.pure;exact rfl;(apply Ok1.lenS;(iterate 3 exact rfl))))|(apply R.pure;exact rfl;first|(apply Ok1.load;exact rfl;(apply Ld.ownk;exact rfl;exact rfl;exact At.head;exact rfl))|(apply Ok1.move;exact rfl)|(apply Ok1.assign;exact rfl)|(apply Ok1.not_t;exact rfl))|(apply R.box;(iterate 3 exact rfl);intro))|apply R.nil|(apply T.is;first|apply T.seq|apply T.region|apply T.skip|apply T.ret|(apply T.cond_t;exact rfl)|(apply T.cond_f;exact rfl)))
    all_goals skip
    (apply RetOk.tt;exact rfl;exact rfl)
    rfl
theorem vwantQ_ok (hlen:dl.length < 16) (hr:c.right) (hpos:posQ dl c = -1) (w:World) (hp:RdSl w p DC.v dl) :
    CallM Try.prog 7 [.slice p dl.length cap,kvC c,.int .i64 tick] [] w fun v L=>∃ ov,OvOk 8 ov (insQ dl (newQ c tick)).length (fl DC.v (insQ dl (newQ c tick)))∧v = .tuple #[slV ov (insQ dl (newQ c tick)).length,.int .i64 0]∧L=blkL 56 ov (fl DC.v (insQ dl (newQ c tick))):=by
  have hls:=fun x:DC=>less_ok c x.c
  have hfd:=fun w1 (h:Chg [] w w1)=>vfindQ_ok p cap dl (by omega) c w1 (hp.chg h (Off.nil _))
  have hrt:=right_ok c.id c.roles c.exp c.ser
  rw [decide_eq_true (p:=Cl.right ⟨c.id,c.roles,c.exp,c.ser⟩) hr] at hrt
  rw [hpos] at hfd
  obtain ⟨e,he⟩:∃ e,e=newQ c tick:=⟨_,rfl⟩
  have hec:e.c=c:=by rw [he];rfl
  have hev:DC.v e=[.int .i64 c.id,.int .i64 c.roles,.int .i64 c.exp,.int .i64 c.ser,.bool false,.int .i64 tick,.slice none 0 0,.slice none 0 0]:=by rw [he];rfl
  rw [← he]
  rw [← hec] at hls
  clear he
  refine enterK (tb:=tb) Try.func7 rfl Try.ntmps7 rfl ?_
  simp only [kvC] at hfd ⊢
  repeat' (first|(apply R.is1;first|(apply R.isBin;(apply R.pure;exact rfl;(apply Ok1.geq_f;exact rfl;exact rfl;omega)))|(apply R.isCall;first|apply R.callP rfl rfl rfl hrt|(apply R.callV (vs:=[.slice p dl.length cap,.agg ⟨_⟩]);(iterate 3 exact rfl);intro w1 hw1;exact hfd w1 hw1.chg)|(apply R.pure;exact rfl;(apply Ok1.lenS;(iterate 3 exact rfl))))|(apply R.pure;exact rfl;first|(apply Ok1.load;exact rfl;(apply Ld.ownk;exact rfl;exact rfl;exact At.head;exact rfl))|(apply Ok1.move;exact rfl)|(apply Ok1.assign;exact rfl)|(apply Ok1.not_t;exact rfl))|(apply R.box;(iterate 3 exact rfl);intro))|apply R.nil|(apply T.is;first|apply T.seq|apply T.region|apply T.block|apply T.skip|(apply T.cond_f;exact rfl)))
  all_goals skip
  rename_i be
  apply T.loopK (α:=Nat × Ov) (I:=fun y=>y.1≤dl.length∧OvOk 8 y.2 (accQ (dl.take y.1) e).length (fl DC.v (accQ (dl.take y.1) e))) (σi:=fun y=>[(0,.slice p dl.length cap),(2,.int .i64 tick),(4,.pointer (some ⟨be,0,none⟩)),(8,slV y.2 (accQ (dl.take y.1) e).length),(9,.bool (putQ (dl.take y.1) e)),(10,.int .i64 y.1)]) (Li:=fun y=>(be,.cells ⟨[.int .i64 c.id,.int .i64 c.roles,.int .i64 c.exp,.int .i64 c.ser]⟩ 24 (0,0))::blkL 56 y.2 (fl DC.v (accQ (dl.take y.1) e))) (μ:=fun y=>dl.length - y.1) (i0:=(0,none))
  · exact ⟨Nat.zero_le _,OvOk.start 8⟩
  · exact ⟨rfl,rfl,rfl,rfl,rfl,rfl,trivial⟩
  · show Keep _ ((be,_)::[])
    (focus (repeat' first|exact Keep.nil _|exact Ext.one _ _|apply Keep.cons);done)
  · rintro ⟨i,ov2⟩ ⟨hi,hov2⟩
    simp only at hi hov2 ⊢
    rcases Nat.lt_or_ge i dl.length with hlt|hge
    · obtain ⟨x,hx⟩:∃ x,dl[i]? = some x:=⟨_,List.getElem?_eq_getElem (by omega)⟩
      obtain ⟨b,o,hpe,H⟩:=hp.at hx
      replace H:=H 8 DC.v_len
      have hlx:=hls x
      rw [hec] at hlx
      have hAl:(accQ (dl.take i) e).length≤1001:=by
        unfold accQ
        split
        · rw [insQ_len,List.length_take];omega
        · rw [List.length_take];omega
      have htk:dl.take (i+1)=dl.take i++[x]:=by rw [List.take_add_one,hx];rfl
      have hpn:putQ (dl.take (i+1)) e=(putQ (dl.take i) e || lessCl e.c x.c):=by rw [htk];simp [putQ]
      rw [hec] at hpn
      cases hpu:putQ (dl.take i) e with
      | true =>
        rw [hpu] at hpn
        have hA:accQ (dl.take (i+1)) e=accQ (dl.take i) e++[x]:=by unfold accQ;rw [hpn,hpu];simp only [Bool.true_or,if_true];rw [htk,insQ_put (putQ_t hpu)]
        generalize accQ (dl.take i) e=AA at *
        repeat' (first|(apply R.is1;first|(apply R.isBin;(apply R.pure;exact rfl;first|(apply Ok1.add64;exact rfl;exact rfl;omega;omega)|(apply Ok1.lss_t;exact rfl;exact rfl;omega)))|(apply R.isCall;first|(apply R.append1;(iterate 12 exact rfl);(focus (repeat' first|exact OwnAt.base hov2|apply OwnAt.tail);done);exact At.head;exact rfl;exact rfl;omega;omega;intro b2 j2 k2 hj2)|(apply R.pure;exact rfl;(apply Ok1.lenS;(iterate 3 exact rfl))))|(apply R.pure;exact rfl;first|(apply Ok1.indexAddrP;(iterate 4 exact rfl);exact hpe;exact rfl;omega;omega)|(apply Ok1.load;exact rfl;(apply Ld.rowk0 H;exact rfl;exact List.not_mem_nil;(iterate 3 exact rfl)))|(apply Ok1.move;exact rfl)|(apply Ok1.assign;exact rfl))|(apply R.buildSlice;(iterate 12 exact rfl);intro))|apply R.nil|(apply T.is;first|(apply T.drawC (id:=12) [0] (by decide);((apply A.tk 0;exact rfl;kernel_rfl;(apply Ok1.move;exact rfl))<;>(apply A.tk 1;exact rfl;kernel_rfl;(apply Ok1.not_t;exact rfl))<;>(apply A.tk 2;exact rfl;kernel_rfl;(apply Ok1.move;exact rfl))<;>((apply A.skG 3;(iterate 3 exact rfl);kernel_rfl))<;>((apply A.skG 4;(iterate 3 exact rfl);kernel_rfl))<;>((apply A.skG 5;(iterate 3 exact rfl);kernel_rfl))<;>((apply A.skG 6;(iterate 3 exact rfl);kernel_rfl))<;>((apply A.skG 7;(iterate 3 exact rfl);kernel_rfl))<;>((apply A.skG 8;(iterate 3 exact rfl);kernel_rfl))<;>(apply A.one 9;kernel_rfl;exact rfl;(((apply R.isG;(apply R.guard_not;(iterate 3 exact rfl)))));apply R.nil;refine ⟨?_,?_⟩;(focus ((repeat' (first|exact trivial|(refine ⟨?_,?_⟩;exact At.head))))))<;>(apply A.tk 10;exact rfl;kernel_rfl;(apply Ok1.pick_f;exact rfl;exact rfl))<;>(apply A.done;kernel_rfl)))|apply T.seq|apply T.region|apply T.block|apply T.skip|(apply T.cond_t;exact rfl)|(apply T.cond_f;exact rfl)))
        all_goals
          refine ⟨(i+1,some (b2,j2,k2)),?_⟩
          simp only [hA,hpn,Bool.true_or,List.length_append,List.length_singleton,fl_snoc]
          exact ⟨⟨by omega,OvOk.some (b:=b2) hov2 (m:=1) rfl hj2⟩,by omega,⟨rfl,rfl,rfl,rfl,rfl,rfl,trivial⟩,by simp only [blkL];(focus (repeat' first|exact Keep.nil _|exact Ext.one _ _|apply Keep.cons|apply Ext.cons);done)⟩
      | false =>
        rw [hpu] at hpn
        cases hcx:lessCl c x.c with
        | true =>
          rw [hcx] at hpn hlx
          have hA:accQ (dl.take (i+1)) e=accQ (dl.take i) e++[e]++[x]:=by unfold accQ;rw [hpn,hpu];simp only [Bool.or_true,if_true,if_false,Bool.false_eq_true];rw [htk,insQ_new (by rw [hec];exact hcx) (putQ_f hpu)]
          generalize accQ (dl.take i) e=AA at *
          repeat' (first|(apply R.is1;first|(apply R.isBin;(apply R.pure;exact rfl;(apply Ok1.lss_t;exact rfl;exact rfl;omega)))|(apply R.isCall;first|(apply R.append1;(iterate 12 exact rfl);(focus (repeat' first|exact OwnAt.base hov2|apply OwnAt.tail);done);exact At.head;exact rfl;exact rfl;omega;omega;intro b2 j2 k2 hj2)|(apply R.pure;exact rfl;(apply Ok1.lenS;(iterate 3 exact rfl))))|(apply R.pure;exact rfl;first|(apply Ok1.indexAddrP;(iterate 4 exact rfl);exact hpe;exact rfl;omega;omega)|(apply Ok1.load;exact rfl;first|(apply Ld.rowk0 H;exact rfl;exact List.not_mem_nil;(iterate 3 exact rfl))|(apply Ld.ownk;exact rfl;exact rfl;exact At.head;exact rfl))|(apply Ok1.move;exact rfl)|(apply Ok1.assign;exact rfl)|(apply Ok1.build;(iterate 5 exact rfl)))|(apply R.buildSlice;(iterate 12 exact rfl);intro))|apply R.nil|(apply T.is;first|(apply T.drawC (id:=12) [0] (by decide);((apply A.tk 0;exact rfl;kernel_rfl;(apply Ok1.move;exact rfl))<;>(apply A.tk 1;exact rfl;kernel_rfl;(apply Ok1.not_f;exact rfl))<;>(apply A.tk 2;exact rfl;kernel_rfl;(apply Ok1.move;exact rfl))<;>((apply A.tkG 3;(iterate 3 exact rfl);kernel_rfl;(apply Ok1.load;exact rfl;(apply Ld.ownk;exact rfl;exact rfl;exact At.head;exact rfl))))<;>((apply A.tkG 4;(iterate 3 exact rfl);kernel_rfl;(apply Ok1.move;exact rfl)))<;>((apply A.tkG 5;(iterate 3 exact rfl);kernel_rfl;(apply Ok1.move;exact rfl)))<;>((apply A.tkG 6;(iterate 3 exact rfl);kernel_rfl;(apply Ok1.indexAddrP;(iterate 4 exact rfl);exact hpe;exact rfl;omega;omega)))<;>((apply A.tkG 7;(iterate 3 exact rfl);kernel_rfl;(apply Ok1.fieldAddr;(iterate 5 exact rfl))))<;>((apply A.tkG 8;(iterate 3 exact rfl);kernel_rfl;(apply Ok1.load;exact rfl;(apply Ld.rowk0 H;exact rfl;exact List.not_mem_nil;(iterate 3 exact rfl)))))<;>(apply A.one 9;kernel_rfl;exact rfl;(((apply R.isG;apply R.guard_run;exact rfl;exact rfl;(apply R.callP rfl rfl rfl hlx))));apply R.nil;refine ⟨?_,?_⟩;(focus ((repeat' (first|exact trivial|(refine ⟨?_,?_⟩;exact At.head))))))<;>(apply A.tk 10;exact rfl;kernel_rfl;(apply Ok1.pick_t;exact rfl;exact rfl))<;>(apply A.done;kernel_rfl)))|apply T.seq|apply T.region|apply T.block|apply T.skip|(apply T.cond_t;exact rfl)))
          all_goals
            have hov5:=OvOk.some (b:=b2) hov2 (ys:=DC.v e) (m:=1) rfl hj2
            rw [hev] at hov5
            repeat' (first|(apply R.is1;first|(apply R.isBin;(apply R.pure;exact rfl;(apply Ok1.add64;exact rfl;exact rfl;omega;omega)))|(apply R.isCall;(apply R.append1;(iterate 12 exact rfl);(focus (repeat' first|exact OwnAt.mid hov5|apply OwnAt.tail);done);exact At.head;exact rfl;exact rfl;omega;omega;intro b2 j2 k2 hj2))|(apply R.pure;exact rfl;first|(apply Ok1.move;exact rfl)|(apply Ok1.assign;exact rfl)))|apply R.nil|(apply T.is;apply T.region))
            refine ⟨(i+1,some (b2,j2,k2)),?_⟩
            simp only [hA,hpn,Bool.or_true,List.length_append,List.length_singleton,fl_snoc,hev]
            exact ⟨⟨by omega,OvOk.some (b:=b2) hov5 (m:=1) rfl hj2⟩,by omega,⟨rfl,rfl,rfl,rfl,rfl,rfl,trivial⟩,by simp only [blkL];(focus (repeat' first|exact Keep.nil _|exact Ext.one _ _|apply Keep.cons|apply Ext.cons);done)⟩
        | false =>
          rw [hcx] at hpn hlx
          have hA:accQ (dl.take (i+1)) e=accQ (dl.take i) e++[x]:=by unfold accQ;rw [hpn,hpu];simp only [Bool.or_false,if_false,Bool.false_eq_true];rw [htk]
          generalize accQ (dl.take i) e=AA at *
          repeat' (first|(apply R.is1;first|(apply R.isBin;(apply R.pure;exact rfl;first|(apply Ok1.add64;exact rfl;exact rfl;omega;omega)|(apply Ok1.lss_t;exact rfl;exact rfl;omega)))|(apply R.isCall;first|(apply R.append1;(iterate 12 exact rfl);(focus (repeat' first|exact OwnAt.base hov2|apply OwnAt.tail);done);exact At.head;exact rfl;exact rfl;omega;omega;intro b2 j2 k2 hj2)|(apply R.pure;exact rfl;(apply Ok1.lenS;(iterate 3 exact rfl))))|(apply R.pure;exact rfl;first|(apply Ok1.indexAddrP;(iterate 4 exact rfl);exact hpe;exact rfl;omega;omega)|(apply Ok1.load;exact rfl;(apply Ld.rowk0 H;exact rfl;exact List.not_mem_nil;(iterate 3 exact rfl)))|(apply Ok1.move;exact rfl)|(apply Ok1.assign;exact rfl))|(apply R.buildSlice;(iterate 12 exact rfl);intro))|apply R.nil|(apply T.is;first|(apply T.drawC (id:=12) [0] (by decide);((apply A.tk 0;exact rfl;kernel_rfl;(apply Ok1.move;exact rfl))<;>(apply A.tk 1;exact rfl;kernel_rfl;(apply Ok1.not_f;exact rfl))<;>(apply A.tk 2;exact rfl;kernel_rfl;(apply Ok1.move;exact rfl))<;>((apply A.tkG 3;(iterate 3 exact rfl);kernel_rfl;(apply Ok1.load;exact rfl;(apply Ld.ownk;exact rfl;exact rfl;exact At.head;exact rfl))))<;>((apply A.tkG 4;(iterate 3 exact rfl);kernel_rfl;(apply Ok1.move;exact rfl)))<;>((apply A.tkG 5;(iterate 3 exact rfl);kernel_rfl;(apply Ok1.move;exact rfl)))<;>((apply A.tkG 6;(iterate 3 exact rfl);kernel_rfl;(apply Ok1.indexAddrP;(iterate 4 exact rfl);exact hpe;exact rfl;omega;omega)))<;>((apply A.tkG 7;(iterate 3 exact rfl);kernel_rfl;(apply Ok1.fieldAddr;(iterate 5 exact rfl))))<;>((apply A.tkG 8;(iterate 3 exact rfl);kernel_rfl;(apply Ok1.load;exact rfl;(apply Ld.rowk0 H;exact rfl;exact List.not_mem_nil;(iterate 3 exact rfl)))))<;>(apply A.one 9;kernel_rfl;exact rfl;(((apply R.isG;apply R.guard_run;exact rfl;exact rfl;(apply R.callP rfl rfl rfl hlx))));apply R.nil;refine ⟨?_,?_⟩;(focus ((repeat' (first|exact trivial|(refine ⟨?_,?_⟩;exact At.head))))))<;>(apply A.tk 10;exact rfl;kernel_rfl;(apply Ok1.pick_t;exact rfl;exact rfl))<;>(apply A.done;kernel_rfl)))|apply T.seq|apply T.region|apply T.block|apply T.skip|(apply T.cond_t;exact rfl)|(apply T.cond_f;exact rfl)))
          all_goals
            refine ⟨(i+1,some (b2,j2,k2)),?_⟩
            simp only [hA,hpn,Bool.or_false,List.length_append,List.length_singleton,fl_snoc]
            exact ⟨⟨by omega,OvOk.some (b:=b2) hov2 (m:=1) rfl hj2⟩,by omega,⟨rfl,rfl,rfl,rfl,rfl,rfl,trivial⟩,by simp only [blkL];(focus (repeat' first|exact Keep.nil _|exact Ext.one _ _|apply Keep.cons|apply Ext.cons);done)⟩
    · have him:i=dl.length:=by omega
      subst him
      rw [List.take_length] at hov2 ⊢
      cases hpu:putQ dl e with
      | true =>
        have hA:accQ dl e=insQ dl e:=by unfold accQ;rw [hpu];rfl
        rw [hA] at hov2 ⊢
        repeat' (first|(apply R.is1;first|(apply R.isBin;(apply R.pure;exact rfl;(apply Ok1.lss_f;exact rfl;exact rfl;omega)))|(apply R.isCall;(apply R.pure;exact rfl;(apply Ok1.lenS;(iterate 3 exact rfl))))|(apply R.pure;exact rfl;first|(apply Ok1.move;exact rfl)|(apply Ok1.assign;exact rfl)|(apply Ok1.not_t;exact rfl)))|apply R.nil|(apply T.is;first|apply T.seq|apply T.region|apply T.skip|apply T.exit|apply T.ret|(apply T.cond_f;exact rfl)))
        (apply RetOk.tt;exact rfl;exact rfl)
        exact ⟨_,by (focus (repeat' first|exact Ext.all _|apply Keep.last|apply Ext.cons);done),ov2,hov2,rfl,rfl⟩
      | false =>
        have hA:accQ dl e=dl:=by unfold accQ;rw [hpu];rfl
        rw [hA] at hov2 ⊢
        rw [insQ_end (putQ_f hpu)]
        repeat' (first|(apply R.is1;first|(apply R.isBin;(apply R.pure;exact rfl;(apply Ok1.lss_f;exact rfl;exact rfl;omega)))|(apply R.isCall;first|(apply R.append1;(iterate 12 exact rfl);(focus (repeat' first|exact OwnAt.base hov2|apply OwnAt.tail);done);exact At.head;exact rfl;exact rfl;omega;omega;intro b2 j2 k2 hj2)|(apply R.pure;exact rfl;(apply Ok1.lenS;(iterate 3 exact rfl))))|(apply R.pure;exact rfl;first|(apply Ok1.load;exact rfl;(apply Ld.ownk;exact rfl;exact rfl;exact At.head;exact rfl))|(apply Ok1.move;exact rfl)|(apply Ok1.assign;exact rfl)|(apply Ok1.build;(iterate 5 exact rfl))|(apply Ok1.not_f;exact rfl))|(apply R.buildSlice;(iterate 12 exact rfl);intro))|apply R.nil|(apply T.is;first|apply T.seq|apply T.region|apply T.exit|apply T.ret|(apply T.cond_t;exact rfl)|(apply T.cond_f;exact rfl)))
        (apply RetOk.tt;exact rfl;exact rfl)
        refine ⟨blkL 56 (some (b2,j2,k2)) (fl DC.v (dl++[e])),?_,some (b2,j2,k2),?_,?_,rfl⟩
        · simp only [blkL,fl_snoc,hev];(focus (repeat' first|exact Keep.nil _|exact Ext.one _ _|apply Keep.cons);done)
        · rw [List.length_append,List.length_singleton,fl_snoc]
          exact OvOk.some (b:=b2) hov2 (m:=1) rfl hj2
        · rw [List.length_append,List.length_singleton];rfl
end
end Go.Proofs.Ytijbmkjebidanaa
set_option linter.unusedSimpArgs false
set_option linter.unusedVariables false
namespace Go.Proofs.Ytijbmkjebidanaa
open Go.RowKit Go.Shelf Go.Sort
set_option maxRecDepth 100000
theorem vdropQ_ok (p:Option Addr) (cap:Nat) (dl:List DC) (hlen:dl.length≤1000) (c:Cl) (w:World) (hp:RdSl w p DC.v dl) :
    CallM Try.prog 20 [.slice p dl.length cap,kvC c] [] w fun v L=>∃ ov,OvOk 8 ov (dl.filter fun d=>decide (d.c≠c)).length (fl DC.v (dl.filter fun d=>decide (d.c≠c)))∧v=slV ov (dl.filter fun d=>decide (d.c≠c)).length∧L=blkL 56 ov (fl DC.v (dl.filter fun d=>decide (d.c≠c))):=by
  obtain ⟨flt,hflt⟩:∃ flt:List DC→List DC,flt=fun l=>l.filter fun d=>decide (d.c≠c):=⟨_,rfl⟩
  have hf1:∀ l x,x.c≠c→flt (l++[x])=flt l++[x]:=by intro l x h;subst hflt;simp [h]
  have hf0:∀ l x,x.c=c→flt (l++[x])=flt l:=by intro l x h;subst hflt;simp [h]
  have hfn:flt []=[]:=by subst hflt;rfl
  have hfl:∀ l,(flt l).length≤l.length:=by intro l;subst hflt;exact List.length_filter_le ..
  have hfe:(dl.filter fun d=>decide (d.c≠c))=flt dl:=by rw [hflt]
  rw [hfe]
  clear hflt hfe
  refine enterK (tb:=tb) Try.func20 rfl Try.ntmps20 rfl ?_
  simp only [kvC]
  repeat' (first|(apply R.is1;first|(apply R.pure;exact rfl;(apply Ok1.assign;exact rfl))|(apply R.box;(iterate 3 exact rfl);intro))|apply R.nil|(apply T.is;first|apply T.seq|apply T.region|apply T.block))
  rename_i bc
  apply T.loopK (α:=Nat × Ov) (I:=fun y=>y.1≤dl.length∧OvOk 8 y.2 (flt (dl.take y.1)).length (fl DC.v (flt (dl.take y.1)))) (σi:=fun y=>[(0,.slice p dl.length cap),(3,.pointer (some ⟨bc,0,none⟩)),(5,slV y.2 (flt (dl.take y.1)).length),(6,.int .i64 y.1)]) (Li:=fun y=>(bc,.cells ⟨[.int .i64 c.id,.int .i64 c.roles,.int .i64 c.exp,.int .i64 c.ser]⟩ 24 (0,0))::blkL 56 y.2 (fl DC.v (flt (dl.take y.1)))) (μ:=fun y=>dl.length - y.1) (i0:=(0,none))
  · simp only [List.take_zero,hfn];exact ⟨Nat.zero_le _,OvOk.start 8⟩
  · simp only [List.take_zero,hfn];exact ⟨rfl,rfl,rfl,rfl,trivial⟩
  · show Keep _ ((bc,_)::[])
    (focus (repeat' first|exact Keep.nil _|exact Ext.one _ _|apply Keep.cons);done)
  rintro ⟨i,ov⟩ ⟨hi,hov⟩
  simp only at hi hov ⊢
  rcases Nat.lt_or_ge i dl.length with hlt|hge
  · obtain ⟨x,hx⟩:∃ x,dl[i]? = some x:=⟨_,List.getElem?_eq_getElem (by omega)⟩
    obtain ⟨b,o,hpe,H⟩:=hp.at hx
    replace H:=H 8 DC.v_len
    have htk:dl.take (i+1)=dl.take i++[x]:=by rw [List.take_add_one,hx];rfl
    have hf1x:=hf1 (dl.take i) x
    have hf0x:=hf0 (dl.take i) x
    have hfli:=hfl (dl.take i)
    rw [List.length_take] at hfli
    rw [← htk] at hf1x hf0x
    by_cases hxc:x.c=c
    · have hA:=hf0x hxc
      have hxe:([.int .i64 x.c.id,.int .i64 x.c.roles,.int .i64 x.c.exp,.int .i64 x.c.ser]:List Value)=[.int .i64 c.id,.int .i64 c.roles,.int .i64 c.exp,.int .i64 c.ser]:=clvinjK.2 hxc
      generalize flt (dl.take i)=AA at *
      repeat' (first|(apply R.is1;first|(apply R.isBin;(apply R.pure;exact rfl;first|(apply Ok1.add64;exact rfl;exact rfl;omega;omega)|(apply Ok1.lss_t;exact rfl;exact rfl;omega)))|(apply R.isCall;first|(apply R.append1;(iterate 12 exact rfl);(focus (repeat' first|exact OwnAt.base hov|apply OwnAt.tail);done);exact At.head;exact rfl;exact rfl;omega;omega;intro b2 j2 k2 hj2)|(apply R.pure;exact rfl;(apply Ok1.lenS;(iterate 3 exact rfl))))|(apply R.pure;exact rfl;first|(apply Ok1.indexAddrP;(iterate 4 exact rfl);exact hpe;exact rfl;omega;omega)|(apply Ok1.load;exact rfl;(apply Ld.rowk0 H;exact rfl;exact List.not_mem_nil;(iterate 3 exact rfl)))|(apply Ok1.move;exact rfl)|(apply Ok1.assign;exact rfl))|(apply R.buildSlice;(iterate 12 exact rfl);intro))|apply R.nil|(apply T.is;first|(apply T.drawC (id:=5) [0] (by decide);((apply A.tk 0;exact rfl;kernel_rfl;(apply Ok1.move;exact rfl))<;>(apply A.tk 1;exact rfl;kernel_rfl;(apply Ok1.move;exact rfl))<;>(apply A.tk 2;exact rfl;kernel_rfl;(apply Ok1.indexAddrP;(iterate 4 exact rfl);exact hpe;exact rfl;omega;omega))<;>(apply A.tk 3;exact rfl;kernel_rfl;(apply Ok1.fieldAddr;(iterate 5 exact rfl)))<;>(apply A.tk 4;exact rfl;kernel_rfl;(apply Ok1.load;exact rfl;(apply Ld.rowk0 H;exact rfl;exact List.not_mem_nil;(iterate 3 exact rfl))))<;>(apply A.tk 5;exact rfl;kernel_rfl;(apply Ok1.load;exact rfl;(apply Ld.ownk;exact rfl;exact rfl;exact At.head;exact rfl)))<;>((apply A.tk 6;exact rfl;kernel_rfl;((apply Ok1.neqF;(iterate 7 exact rfl)));apply A.dec (t:=19);exact rfl;all_goals intro))<;>(apply A.done;kernel_rfl)))|apply T.seq|apply T.region|apply T.block|apply T.skip|(apply T.cond_t;exact rfl)|(apply T.cond_f;exact rfl)))
      all_goals first|(exfalso;exact absurd hxe (by assumption))|skip
      refine ⟨(i+1,ov),?_⟩
      simp only [hA]
      exact ⟨⟨by omega,hov⟩,by omega,⟨rfl,rfl,rfl,rfl,trivial⟩,by (focus (repeat' first|exact Ext.one _ _|exact Ext.all _|apply Keep.cons|apply Keep.last);done)⟩
    · have hA:=hf1x hxc
      have hxe:¬ ([.int .i64 x.c.id,.int .i64 x.c.roles,.int .i64 x.c.exp,.int .i64 x.c.ser]:List Value)=[.int .i64 c.id,.int .i64 c.roles,.int .i64 c.exp,.int .i64 c.ser]:=fun h=>hxc (clvinjK.1 h)
      generalize flt (dl.take i)=AA at *
      repeat' (first|(apply R.is1;first|(apply R.isBin;(apply R.pure;exact rfl;first|(apply Ok1.add64;exact rfl;exact rfl;omega;omega)|(apply Ok1.lss_t;exact rfl;exact rfl;omega)))|(apply R.isCall;first|(apply R.append1;(iterate 12 exact rfl);(focus (repeat' first|exact OwnAt.base hov|apply OwnAt.tail);done);exact At.head;exact rfl;exact rfl;omega;omega;intro b2 j2 k2 hj2)|(apply R.pure;exact rfl;(apply Ok1.lenS;(iterate 3 exact rfl))))|(apply R.pure;exact rfl;first|(apply Ok1.indexAddrP;(iterate 4 exact rfl);exact hpe;exact rfl;omega;omega)|(apply Ok1.load;exact rfl;(apply Ld.rowk0 H;exact rfl;exact List.not_mem_nil;(iterate 3 exact rfl)))|(apply Ok1.move;exact rfl)|(apply Ok1.assign;exact rfl))|(apply R.buildSlice;(iterate 12 exact rfl);intro))|apply R.nil|(apply T.is;first|(apply T.drawC (id:=5) [0] (by decide);((apply A.tk 0;exact rfl;kernel_rfl;(apply Ok1.move;exact rfl))<;>(apply A.tk 1;exact rfl;kernel_rfl;(apply Ok1.move;exact rfl))<;>(apply A.tk 2;exact rfl;kernel_rfl;(apply Ok1.indexAddrP;(iterate 4 exact rfl);exact hpe;exact rfl;omega;omega))<;>(apply A.tk 3;exact rfl;kernel_rfl;(apply Ok1.fieldAddr;(iterate 5 exact rfl)))<;>(apply A.tk 4;exact rfl;kernel_rfl;(apply Ok1.load;exact rfl;(apply Ld.rowk0 H;exact rfl;exact List.not_mem_nil;(iterate 3 exact rfl))))<;>(apply A.tk 5;exact rfl;kernel_rfl;(apply Ok1.load;exact rfl;(apply Ld.ownk;exact rfl;exact rfl;exact At.head;exact rfl)))<;>((apply A.tk 6;exact rfl;kernel_rfl;((apply Ok1.neqF;(iterate 7 exact rfl)));apply A.dec (t:=19);exact rfl;all_goals intro))<;>(apply A.done;kernel_rfl)))|apply T.seq|apply T.region|apply T.block|apply T.skip|(apply T.cond_t;exact rfl)|(apply T.cond_f;exact rfl)))
      all_goals first|(exfalso;exact hxe (Classical.not_not.1 (by assumption)))|skip
      refine ⟨(i+1,some (b2,j2,k2)),?_⟩
      simp only [hA,List.length_append,List.length_singleton,fl_snoc]
      exact ⟨⟨by omega,OvOk.some (b:=b2) hov (ys:=DC.v x) (m:=1) rfl hj2⟩,by omega,⟨rfl,rfl,rfl,rfl,trivial⟩,by simp only [blkL];(focus (repeat' first|exact Keep.nil _|exact Ext.one _ _|apply Keep.cons|apply Ext.cons);done)⟩
  · have him:i=dl.length:=by omega
    subst him
    rw [List.take_length] at hov ⊢
    repeat' (first|(apply R.is1;first|(apply R.isBin;(apply R.pure;exact rfl;(apply Ok1.lss_f;exact rfl;exact rfl;omega)))|(apply R.isCall;(apply R.pure;exact rfl;(apply Ok1.lenS;(iterate 3 exact rfl))))|(apply R.pure;exact rfl;first|(apply Ok1.move;exact rfl)|(apply Ok1.assign;exact rfl)))|apply R.nil|(apply T.is;first|apply T.seq|apply T.region|apply T.exit|apply T.ret|(apply T.cond_f;exact rfl)))
    (apply RetOk.t;exact rfl)
    exact ⟨_,by (focus (repeat' first|exact Ext.all _|apply Keep.last|apply Ext.cons);done),ov,hov,rfl,rfl⟩
theorem vputQ_no (p:Option Addr) (cap:Nat) (dl:List DC) (hlen:dl.length≤1000) (c:Cl) (kv:Value) (hkv:∃ kp kn kc,kv = .slice kp kn kc) (w:World) (hp:RdSl w p DC.v dl) (h:posQ dl c = -1 ∨ ∃ (i:Nat) (d:DC),posQ dl c=i∧dl[i]? = some d∧d.kn=true) :
    CallW Try.prog 14 [.slice p dl.length cap,kvC c,kv] w fun v _=>v = .int .i64 7:=by
  have hfd:=fun w1 (h:Chg [] w w1)=>vfindQ_ok p cap dl hlen c w1 (hp.chg h (Off.nil _))
  obtain ⟨kp,kn,kc,rfl⟩:=hkv
  simp only [kvC] at hfd ⊢
  rcases h with h|⟨i,d,h1,h2,h3⟩
  · rw [h] at hfd
    refine enterW (tb:=tb) Try.func14 rfl Try.ntmps14 rfl ?_
    repeat' (first|(apply R.is1;first|(apply R.isBin;(apply R.pure;exact rfl;(apply Ok1.lss_t;exact rfl;exact rfl;omega)))|(apply R.isCall;(apply R.callV (vs:=[.slice p dl.length cap,.agg ⟨_⟩]);(iterate 3 exact rfl);intro w1 hw1;exact hfd w1 hw1.chg))|(apply R.pure;exact rfl;first|(apply Ok1.load;exact rfl;(apply Ld.ownk;exact rfl;exact rfl;exact At.head;exact rfl))|(apply Ok1.move;exact rfl)|(apply Ok1.assign;exact rfl)|(apply Ok1.pick_t;exact rfl;exact rfl))|(apply R.box;(iterate 3 exact rfl);intro))|(apply R.isG;(apply R.guard_not;(iterate 3 exact rfl)))|apply R.nil|(apply T.is;first|apply T.seq|apply T.region|apply T.ret|(apply T.cond_t;exact rfl)))
    (apply RetOk.t;exact rfl)
    rfl
  · rw [h1] at hfd
    obtain ⟨bb,o,hpe,H⟩:=hp.at h2
    replace H:=H 8 DC.v_len
    have hil:=(List.getElem?_eq_some_iff.1 h2).1
    obtain ⟨dc,kn,asked,ks,kp2,kc2,tk,tp,tc⟩:=d
    simp only at h3
    subst h3
    have hv:DC.v ⟨dc,true,asked,ks,kp2,kc2,tk,tp,tc⟩=[.int .i64 dc.id,.int .i64 dc.roles,.int .i64 dc.exp,.int .i64 dc.ser,.bool true,.int .i64 asked,.slice kp2 ks.length kc2,.slice tp tk.length tc]:=rfl
    rw [hv] at H
    refine enterW (tb:=tb) Try.func14 rfl Try.ntmps14 rfl ?_
    repeat' (first|(apply R.is1;first|(apply R.isBin;(apply R.pure;exact rfl;(apply Ok1.lss_f;exact rfl;exact rfl;omega)))|(apply R.isCall;(apply R.callV (vs:=[.slice p dl.length cap,.agg ⟨_⟩]);(iterate 3 exact rfl);intro w1 hw1;exact hfd w1 hw1.chg))|(apply R.pure;exact rfl;first|(apply Ok1.indexAddrP;(iterate 4 exact rfl);exact hpe;exact rfl;omega;omega)|(apply Ok1.load;exact rfl;first|(apply Ld.row1 H;exact rfl;exact List.not_mem_nil;(iterate 3 exact rfl))|(apply Ld.ownk;exact rfl;exact rfl;exact At.head;exact rfl))|(apply Ok1.move;exact rfl)|(apply Ok1.fieldAddr;(iterate 5 exact rfl))|(apply Ok1.assign;exact rfl)|(apply Ok1.pick_f;exact rfl;exact rfl))|(apply R.box;(iterate 3 exact rfl);intro))|(apply R.isG;(apply R.guard_run;exact rfl;exact rfl))|apply R.nil|(apply T.is;first|apply T.seq|apply T.region|apply T.ret|(apply T.cond_t;exact rfl)))
    all_goals skip
    (apply RetOk.t;exact rfl)
    rfl
theorem vputQ_ok (ov:Ov) (dl:List DC) (hlen:dl.length≤1000) (hov:OvOk 8 ov dl.length (fl DC.v dl)) (c:Cl) (i:Nat) (d:DC) (hd:dl[i]? = some d) (hpos:posQ dl c=i) (hk:d.kn=false) (kp:Option Addr) (kc:Nat) (K:List Int) (hK:K.length≤1000) (w:World) (hkr:RdSl w kp u8V K) (hko:K≠[]→Off kp (blks (blkL 56 ov (fl DC.v dl)))) :
    CallM Try.prog 14 [slV ov dl.length,kvC c,.slice kp K.length kc] (blkL 56 ov (fl DC.v dl)) w fun v L=>v = .int .i64 0∧∃ ovk,OvOk 1 ovk K.length (u8s K)∧L=blkL 5 ovk (u8s K)++blkL 56 ov (fl DC.v (dl.set i ⟨d.c,true,d.asked,K,ovp ovk,ovc ovk K.length,d.tk,d.tp,d.tc⟩)):=by
  have hfd:=fun w1 (hw1:Hp w (blks (blkL 56 ov (fl DC.v dl))) (blkL 56 ov (fl DC.v dl)) w1)=>vfindQ_ok (ovp ov) (ovc ov dl.length) dl hlen c w1 (RdSl.own' hw1 (fun _ h=>h) hov DC.v_len)
  rw [hpos,← slV_eq hov] at hfd
  have hil:=(List.getElem?_eq_some_iff.1 hd).1
  match ov,hov with
  | none,hov=>exact absurd hov.2 (by omega)
  | some (b,j,junk),hov =>
  obtain ⟨dc,kn,asked,ks,kp2,kc2,tk,tp,tc⟩:=d
  simp only at hk
  subst hk
  have hset1:=setE_cell DC.v_len hd (f:=4) (by decide) ⟨dc,true,asked,ks,kp2,kc2,tk,tp,tc⟩ (u:=.bool true) rfl junk
  have hd1:(dl.set i ⟨dc,true,asked,ks,kp2,kc2,tk,tp,tc⟩)[i]? = some ⟨dc,true,asked,ks,kp2,kc2,tk,tp,tc⟩:=by rw [List.getElem?_set_self hil]
  have hset2:=fun pp cc=>setE_cell DC.v_len hd1 (f:=6) (by decide) ⟨dc,true,asked,K,pp,cc,tk,tp,tc⟩ (u:=.slice pp K.length cc) rfl junk
  simp only [List.set_set] at hset2
  simp only [kvC,slV,blkL] at hfd hko ⊢
  refine enterK (tb:=tb) Try.func14 rfl Try.ntmps14 rfl ?_
  repeat' (first|(apply R.is1;first|(apply R.buildSlice0;(iterate 4 exact rfl);intro b0)|(apply R.isBin;(apply R.pure;exact rfl;(apply Ok1.lss_f;exact rfl;exact rfl;omega)))|(apply R.isCall;first|(apply R.callV (vs:=[.slice (some ⟨b,0,none⟩) dl.length (dl.length+j),.agg ⟨_⟩]);(iterate 3 exact rfl);intro w1 hw1;exact hfd w1 (hw1.keep (by (focus (repeat' first|exact Keep.nil _|exact Ext.one _ _|apply Keep.cons|apply Ext.cons);done))))|(apply R.appendRd (xs:=K) (v:=u8V) (sz:=1) (ov:=some (b0,0,[])) (n:=0) (m:=K.length) (old:=[]);(iterate 12 exact rfl);exact ⟨rfl,rfl⟩;(focus ((repeat' (exact Ext.one _ _));done));exact rfl;exact u8V_len;exact rfl;(intro w1 hw1;exact hkr.chg' hw1.chg hko);(focus (rw [fl_u8];exact u8s_one _));omega;intro ov1 hov1 hsome1;rw [fl_u8,List.nil_append,Nat.zero_add];rw [fl_u8,List.nil_append,Nat.zero_add] at hov1;rw [slV_eq hov1]))|(apply R.pure;exact rfl;first|(apply Ok1.load;exact rfl;first|(apply Ld.ownrow1 (f:=4);(focus (repeat' first|exact At.head|apply At.tail);done);exact DC.v_len;exact hd;(focus ((simp;done)));(iterate 3 exact rfl))|(apply Ld.ownk;exact rfl;exact rfl;exact At.head;exact rfl))|(apply Ok1.move;exact rfl)|(apply Ok1.fieldAddr;(iterate 5 exact rfl))|(apply Ok1.assign;exact rfl)|(apply Ok1.indexAddr;(iterate 5 exact rfl);omega;omega)|(apply Ok1.pick_f;exact rfl;exact rfl))|(apply R.box;(iterate 3 exact rfl);intro))|(apply R.is0;(apply R.store;(iterate 6 exact rfl);(focus (repeat' first|exact Upd.head|apply Upd.tail|apply Upd.right);done);first|exact hset1|exact hset2 _ _))|(apply R.isG;(apply R.guard_run;exact rfl;exact rfl))|apply R.nil|(apply T.is;first|apply T.seq|apply T.region|apply T.skip|apply T.ret|(apply T.cond_f;exact rfl)))
  all_goals skip
  (apply RetOk.t;exact rfl)
  exact ⟨_,by (focus (repeat' first|exact Keep.nil _|exact Ext.one _ _|exact Ext.here _ _|apply Keep.cons|apply Keep.app|apply Ext.cons);done),rfl,ov1,hov1,rfl⟩
end Go.Proofs.Ytijbmkjebidanaa
