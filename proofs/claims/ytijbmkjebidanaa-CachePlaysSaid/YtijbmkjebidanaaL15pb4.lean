/- Texts of the proof: Cp14, Cp15, Cp16, Cp17, Cp18, Cp20, Cp21, Cp19, Lcp. -/
import Derived.Test.YtijbmkjebidanaaL15pb3
set_option linter.unusedSimpArgs false
set_option linter.unusedVariables false
namespace Go.Proofs.Ytijbmkjebidanaa
open Go.RowKit Go.Shelf Go.Sort
set_option maxRecDepth 100000
def dueD (tick:Int) (d:DC):Bool:=!d.kn && decide (8≤tick - d.asked)
def updD (tick:Int) (d:DC):DC:=if dueD tick d then ⟨d.c,d.kn,tick,d.ks,d.kp,d.kc,d.tk,d.tp,d.tc⟩ else d
def dlI (tick:Int) (dl:List DC) (i:Nat):List DC:=(dl.take i).map (updD tick)++dl.drop i
theorem dlI_zero (tick:Int) (dl:List DC):dlI tick dl 0=dl:=by simp [dlI]
theorem dlI_len (tick:Int) (dl:List DC) (i:Nat):(dlI tick dl i).length=dl.length:=by
  simp only [dlI,List.length_append,List.length_map,List.length_take,List.length_drop];omega
theorem dlI_all (tick:Int) (dl:List DC):dlI tick dl dl.length=dl.map (updD tick):=by simp [dlI]
theorem dlI_at {tick:Int} {dl:List DC} {i:Nat} {d:DC} (h:dl[i]? = some d):(dlI tick dl i)[i]? = some d:=by
  have hi:=(List.getElem?_eq_some_iff.1 h).1
  unfold dlI
  rw [List.getElem?_append_right (by rw [List.length_map,List.length_take];omega),List.length_map,List.length_take,List.getElem?_drop]
  rw [show i+(i - min i dl.length)=i by omega]
  exact h
theorem dlI_succ {tick:Int} {dl:List DC} {i:Nat} {d:DC} (h:dl[i]? = some d):(dlI tick dl i).set i (updD tick d)=dlI tick dl (i+1):=by
  obtain ⟨hi,hd⟩:=List.getElem?_eq_some_iff.1 h
  have hl:((dl.take i).map (updD tick)).length=i:=by rw [List.length_map,List.length_take];omega
  unfold dlI
  rw [List.set_append_right _ _ (by omega),hl,Nat.sub_self,List.drop_eq_getElem_cons hi,List.set_cons_zero,List.take_add_one,h,List.map_append]
  simp
section
variable (ov:Ov) (dl:List DC)
theorem vdueQ_ok (hlen:dl.length≤1000) (hov:OvOk 8 ov dl.length (fl DC.v dl)) (tick:Int) (ht:0≤tick∧tick≤1073741824) (hb:∀ d∈dl,0≤d.asked∧d.asked≤1073741824) (w:World) :
    CallM Try.prog 11 [slV ov dl.length,.int .i64 tick] (blkL 56 ov (fl DC.v dl)) w fun v L=>∃ ov2,OvOk 4 ov2 ((dl.filter (dueD tick)).map DC.c).length (fl Cl.v ((dl.filter (dueD tick)).map DC.c))∧v=slV ov2 ((dl.filter (dueD tick)).map DC.c).length∧L=blkL 24 ov2 (fl Cl.v ((dl.filter (dueD tick)).map DC.c))++blkL 56 ov (fl DC.v (dl.map (updD tick))):=by
  obtain ⟨flt,hflt⟩:∃ flt:List DC→List Cl,flt=fun l=>(l.filter (dueD tick)).map DC.c:=⟨_,rfl⟩
  have hf1:∀ l x,dueD tick x=true→flt (l++[x])=flt l++[x.c]:=by intro l x h;subst hflt;simp [h]
  have hf0:∀ l x,dueD tick x=false→flt (l++[x])=flt l:=by intro l x h;subst hflt;simp [h]
  have hfn:flt []=[]:=by subst hflt;rfl
  have hfl:∀ l,(flt l).length≤l.length:=by intro l;subst hflt;rw [List.length_map];exact List.length_filter_le ..
  have hfe:(dl.filter (dueD tick)).map DC.c=flt dl:=by rw [hflt]
  rw [hfe]
  clear hflt hfe
  refine enterK (tb:=tb) Try.func11 rfl Try.ntmps11 rfl ?_
  rw [slV_eq hov]
  repeat' (first|(apply R.is1;(apply R.pure;exact rfl;(apply Ok1.assign;exact rfl)))|apply R.nil|(apply T.is;first|apply T.seq|apply T.region|apply T.block))
  apply T.loopK (α:=Nat × Ov) (I:=fun y=>y.1≤dl.length∧OvOk 4 y.2 (flt (dl.take y.1)).length (fl Cl.v (flt (dl.take y.1)))) (σi:=fun y=>[(0,.slice (ovp ov) dl.length (ovc ov dl.length)),(1,.int .i64 tick),(5,slV y.2 (flt (dl.take y.1)).length),(6,.int .i64 y.1)]) (Li:=fun y=>blkL 56 ov (fl DC.v (dlI tick dl y.1))++blkL 24 y.2 (fl Cl.v (flt (dl.take y.1)))) (μ:=fun y=>dl.length - y.1) (i0:=(0,none))
  · simp only [List.take_zero,hfn];exact ⟨Nat.zero_le _,OvOk.start 4⟩
  · simp only [List.take_zero,hfn];exact ⟨rfl,rfl,rfl,rfl,trivial⟩
  · simp only [dlI_zero]
    rw [show blkL 24 none (fl Cl.v (flt (dl.take 0)))=[] from rfl,List.append_nil]
    (focus (repeat' first|exact Ext.all _|apply Keep.last);done)
  rintro ⟨i,ov2⟩ ⟨hi,hov2⟩
  simp only at hi hov2 ⊢
  rcases Nat.lt_or_ge i dl.length with hlt|hge
  · obtain ⟨x,hx⟩:∃ x,dl[i]? = some x:=⟨_,List.getElem?_eq_getElem (by omega)⟩
    match ov,hov with
    | none,hov=>exact absurd hov.2 (by omega)
    | some (b,j,junk),hov =>
    have hbk:∀ xs,blkL 56 (some (b,j,junk)) xs=[(b,.cells ⟨xs++junk⟩ 56 (0,0))]:=fun _=>rfl
    simp only [ovp,ovc,hbk,List.cons_append,List.nil_append]
    have htk:dl.take (i+1)=dl.take i++[x]:=by rw [List.take_add_one,hx];rfl
    have hd:=dlI_at (tick:=tick) hx
    have hsu:=dlI_succ (tick:=tick) hx
    have hDl:=dlI_len tick dl i
    have hf1x:=hf1 (dl.take i) x
    have hf0x:=hf0 (dl.take i) x
    have hfli:=hfl (dl.take i)
    have hbx:=hb x (List.mem_of_getElem? hx)
    rw [List.length_take] at hfli
    rw [← htk] at hf1x hf0x
    obtain ⟨dc,kn,asked,ks,kp,kc,tk,tp,tc⟩:=x
    simp only at hbx
    cases hdu:dueD tick ⟨dc,kn,asked,ks,kp,kc,tk,tp,tc⟩ with
    | false =>
      have hA:=hf0x hdu
      have hU:updD tick ⟨dc,kn,asked,ks,kp,kc,tk,tp,tc⟩=⟨dc,kn,asked,ks,kp,kc,tk,tp,tc⟩:=by unfold updD;rw [hdu];rfl
      rw [hU] at hsu
      have hD2:dlI tick dl (i+1)=dlI tick dl i:=by
        rw [← hsu]
        obtain ⟨g1,g2⟩:=List.getElem?_eq_some_iff.1 hd
        rw [← g2,List.set_getElem_self]
      generalize dlI tick dl i=D at *
      generalize flt (dl.take i)=AA at *
      have hdu':kn=true ∨ (kn=false∧¬ 8≤tick - asked):=by
        unfold dueD at hdu
        cases kn with
        | true=>exact .inl rfl
        | false=>right;simpa using hdu
      rcases hdu' with rfl|⟨rfl,hq⟩
      · repeat' (first|(apply R.is1;first|(apply R.isBin;(apply R.pure;exact rfl;first|(apply Ok1.add64;exact rfl;exact rfl;omega;omega)|(apply Ok1.lss_t;exact rfl;exact rfl;omega)))|(apply R.isCall;(apply R.pure;exact rfl;(apply Ok1.lenS;(iterate 3 exact rfl))))|(apply R.pure;exact rfl;first|(apply Ok1.load;exact rfl;(apply Ld.ownrow1 (f:=4);exact At.head;exact DC.v_len;exact hd;(focus ((simp;done)));(iterate 3 exact rfl)))|(apply Ok1.move;exact rfl)|(apply Ok1.fieldAddr;(iterate 5 exact rfl))|(apply Ok1.assign;exact rfl)|(apply Ok1.indexAddr;(iterate 5 exact rfl);omega;omega)|(apply Ok1.pick_f;exact rfl;exact rfl)|(apply Ok1.not_t;exact rfl)))|(apply R.isG;(apply R.guard_not;(iterate 3 exact rfl)))|apply R.nil|(apply T.is;first|apply T.seq|apply T.region|apply T.block|apply T.skip|(apply T.cond_t;exact rfl)|(apply T.cond_f;exact rfl)))
        refine ⟨(i+1,ov2),?_⟩
        simp only [hA,hD2]
        exact ⟨⟨by omega,hov2⟩,by omega,⟨rfl,rfl,rfl,rfl,trivial⟩,by (focus (repeat' first|exact Ext.one _ _|exact Ext.all _|apply Keep.cons|apply Keep.last);done)⟩
      · repeat' (first|(apply R.is1;first|(apply R.isBin;(apply R.pure;exact rfl;first|(apply Ok1.add64;exact rfl;exact rfl;omega;omega)|(apply Ok1.sub64;exact rfl;exact rfl;omega;omega)|(apply Ok1.lss_t;exact rfl;exact rfl;omega)|(apply Ok1.geq_f;exact rfl;exact rfl;omega)))|(apply R.isCall;(apply R.pure;exact rfl;(apply Ok1.lenS;(iterate 3 exact rfl))))|(apply R.pure;exact rfl;first|(apply Ok1.load;exact rfl;first|(apply Ld.ownrow1 (f:=4);exact At.head;exact DC.v_len;exact hd;(focus ((simp;done)));(iterate 3 exact rfl))|(apply Ld.ownrow1 (f:=5) (u:=.int .i64 asked);exact At.head;exact DC.v_len;exact hd;(focus ((simp;done)));(iterate 3 exact rfl)))|(apply Ok1.move;exact rfl)|(apply Ok1.fieldAddr;(iterate 5 exact rfl))|(apply Ok1.assign;exact rfl)|(apply Ok1.indexAddr;(iterate 5 exact rfl);omega;omega)|(apply Ok1.pick_t;exact rfl;exact rfl)|(apply Ok1.not_f;exact rfl)))|(apply R.isG;(apply R.guard_run;exact rfl;exact rfl))|apply R.nil|(apply T.is;first|apply T.seq|apply T.region|apply T.block|apply T.skip|(apply T.cond_t;exact rfl)|(apply T.cond_f;exact rfl)))
        all_goals skip
        refine ⟨(i+1,ov2),?_⟩
        simp only [hA,hD2]
        exact ⟨⟨by omega,hov2⟩,by omega,⟨rfl,rfl,rfl,rfl,trivial⟩,by (focus (repeat' first|exact Ext.one _ _|exact Ext.all _|apply Keep.cons|apply Keep.last);done)⟩
    | true =>
      have hA:=hf1x hdu
      have hU:updD tick ⟨dc,kn,asked,ks,kp,kc,tk,tp,tc⟩=⟨dc,kn,tick,ks,kp,kc,tk,tp,tc⟩:=by unfold updD;rw [hdu];rfl
      rw [hU] at hsu
      have hset:=setE_cell DC.v_len hd (f:=5) (by decide) ⟨dc,kn,tick,ks,kp,kc,tk,tp,tc⟩ (u:=.int .i64 tick) rfl junk
      rw [hsu] at hset
      generalize dlI tick dl i=D at *
      generalize flt (dl.take i)=AA at *
      have hdu':kn=false∧8≤tick - asked:=by
        unfold dueD at hdu
        simpa using hdu
      obtain ⟨rfl,hq⟩:=hdu'
      repeat' (first|(apply R.is1;first|(apply R.isBin;(apply R.pure;exact rfl;first|(apply Ok1.add64;exact rfl;exact rfl;omega;omega)|(apply Ok1.sub64;exact rfl;exact rfl;omega;omega)|(apply Ok1.lss_t;exact rfl;exact rfl;omega)|(apply Ok1.geq_t;exact rfl;exact rfl;omega)))|(apply R.isCall;first|(apply R.append1;(iterate 12 exact rfl);(focus (repeat' first|exact OwnAt.base hov2|apply OwnAt.tail);done);exact At.head;exact rfl;exact rfl;omega;omega;intro b2 j2 k2 hj2)|(apply R.pure;exact rfl;(apply Ok1.lenS;(iterate 3 exact rfl))))|(apply R.pure;exact rfl;first|(apply Ok1.load;exact rfl;first|(apply Ld.ownrow1 (f:=4);exact At.head;exact DC.v_len;exact hd;(focus ((simp;done)));(iterate 3 exact rfl))|(apply Ld.ownrow1 (f:=5) (u:=.int .i64 asked);exact At.head;exact DC.v_len;exact hd;(focus ((simp;done)));(iterate 3 exact rfl))|(apply Ld.ownrowk (f:=0);exact At.head;exact DC.v_len;exact hd;(focus ((simp;done)));(iterate 3 exact rfl)))|(apply Ok1.move;exact rfl)|(apply Ok1.fieldAddr;(iterate 5 exact rfl))|(apply Ok1.assign;exact rfl)|(apply Ok1.indexAddr;(iterate 5 exact rfl);omega;omega)|(apply Ok1.pick_t;exact rfl;exact rfl)|(apply Ok1.not_f;exact rfl))|(apply R.buildSlice;(iterate 12 exact rfl);intro))|(apply R.is0;(apply R.store;(iterate 6 exact rfl);(focus (repeat' first|exact Upd.head|apply Upd.tail);done);exact hset))|(apply R.isG;(apply R.guard_run;exact rfl;exact rfl))|apply R.nil|(apply T.is;first|apply T.seq|apply T.region|apply T.block|apply T.skip|(apply T.cond_t;exact rfl)))
      all_goals skip
      refine ⟨(i+1,some (b2,j2,k2)),?_⟩
      simp only [hA,List.length_append,List.length_singleton,fl_snoc]
      exact ⟨⟨by omega,OvOk.some (b:=b2) hov2 (ys:=Cl.v dc) (m:=1) rfl hj2⟩,by omega,⟨rfl,rfl,rfl,rfl,trivial⟩,by simp only [blkL];(focus (repeat' first|exact Keep.nil _|exact Ext.one _ _|apply Keep.cons|apply Ext.cons);done)⟩
  · have him:i=dl.length:=by omega
    subst him
    rw [List.take_length] at hov2 ⊢
    rw [dlI_all]
    repeat' (first|(apply R.is1;first|(apply R.isBin;(apply R.pure;exact rfl;(apply Ok1.lss_f;exact rfl;exact rfl;omega)))|(apply R.isCall;(apply R.pure;exact rfl;(apply Ok1.lenS;(iterate 3 exact rfl))))|(apply R.pure;exact rfl;first|(apply Ok1.move;exact rfl)|(apply Ok1.assign;exact rfl)))|apply R.nil|(apply T.is;first|apply T.seq|apply T.region|apply T.exit|apply T.ret|(apply T.cond_f;exact rfl)))
    (apply RetOk.t;exact rfl)
    exact ⟨blkL 24 ov2 (fl Cl.v (flt dl))++blkL 56 ov (fl DC.v (dl.map (updD tick))),by (focus (repeat' first|exact Ext.here _ _|exact Ext.all _|apply Keep.app|apply Keep.last|apply Ext.app);done),ov2,hov2,rfl,rfl⟩
end
end Go.Proofs.Ytijbmkjebidanaa
set_option linter.unusedSimpArgs false
set_option linter.unusedVariables false
set_option linter.unusedSectionVars false
namespace Go.Proofs.Ytijbmkjebidanaa
open Go.RowKit Go.Shelf Go.Sort
set_option maxRecDepth 100000
/-- An entry of the book beside the document's. -/
structure RelC (KB:Lst) (N:Nat) (d:DC) (x:En):Prop where
  ask:x.asked=d.asked
  rng:0≤d.asked∧d.asked≤1073741824
  win:WinR x d.tk
  num:d.tk.length≤N
  no:d.kn=false→x.key=none∧d.tk=[]
  yes:d.kn=true→∃ y:KE,x.key=some ⟨y.bk,0,none⟩∧y.K=d.ks∧y.ok∧∀ q∈y.L,q∈KB
  k40:d.ks.length≤40
  ksl:∃ ov,d.kp=ovp ov∧d.kc=ovc ov d.ks.length∧OvOk 1 ov d.ks.length (u8s d.ks)∧∀ q∈blkL 5 ov (u8s d.ks),q∈KB
  tsl:∃ ov,d.tp=ovp ov∧d.tc=ovc ov d.tk.length∧OvOk 2 ov d.tk.length (fl nV d.tk)∧∀ q∈blkL 26 ov (fl nV d.tk),q∈KB
theorem RelC.more {KB KB2:Lst} {N N2:Nat} {d:DC} {x:En} (h:RelC KB N d x) (hk:∀ q∈KB,q∈KB2) (hn:N≤N2):RelC KB2 N2 d x:=by
  obtain ⟨h1,h2,h3,h4,h5,h6,h7,⟨o1,a1,a2,a3,a4⟩,⟨o2,b1,b2,b3,b4⟩⟩:=h
  refine ⟨h1,h2,h3,by omega,h5,fun g=>?_,h7,⟨o1,a1,a2,a3,fun q hq=>hk q (a4 q hq)⟩,⟨o2,b1,b2,b3,fun q hq=>hk q (b4 q hq)⟩⟩
  obtain ⟨y,c1,c2,c3,c4⟩:=h6 g
  exact ⟨y,c1,c2,c3,fun q hq=>hk q (c4 q hq)⟩
theorem RelC.new (KB:Lst) (N:Nat) (c:Cl) (tick:Int) (ht:0≤tick∧tick≤1073741824):RelC KB N (newQ c tick) ⟨0,0,0,none,tick⟩ :=
  ⟨rfl,ht,WinR.nil _ _,Nat.zero_le _,fun _=>⟨rfl,rfl⟩,fun h=>(by cases h),Nat.zero_le _,⟨none,rfl,rfl,OvOk.start 1,by simp [blkL]⟩,⟨none,rfl,rfl,OvOk.start 2,by simp [blkL]⟩⟩
structure CZ where
  es:BS
  clk:Nat
  ov:Ov
  dl:List DC
  KB:Lst
structure CZ.ok (N:Nat) (z:CZ):Prop where
  wf:MWf (bms z.es,z.clk)
  perm:(z.dl.map DC.c).Perm (z.es.map BE.c)
  asc:(z.dl.map DC.c).Pairwise (fun a b=>¬ ltC b a)
  rel:∀ d∈z.dl,∃ e∈z.es,e.c=d.c∧RelC z.KB N d e.e
  len:z.dl.length≤16
  ov:OvOk 8 z.ov z.dl.length (fl DC.v z.dl)
theorem CZ.ok.nil (N:Nat) (KB:Lst):CZ.ok N ⟨[],0,none,[],KB⟩:=⟨MWf.nil,.refl _,.nil,by simp,by simp,OvOk.start 8⟩
theorem CZ.ok.nd {N:Nat} {z:CZ} (h:z.ok N):(z.es.map BE.c).Nodup:=by have:=h.wf.keys;rwa [bms_keys] at this
theorem CZ.ok.ndD {N:Nat} {z:CZ} (h:z.ok N):(z.dl.map DC.c).Nodup:=h.perm.nodup_iff.2 h.nd
theorem CZ.ok.elen {N:Nat} {z:CZ} (h:z.ok N):z.es.length=z.dl.length:=by
  have:=h.perm.length_eq
  simp only [List.length_map] at this
  exact this.symm
/-- One's claims: nobody's,or of an entry in both. -/
theorem CZ.ok.find {N:Nat} {z:CZ} (h:z.ok N) (c:Cl):((∀ y∈z.dl,y.c≠c)∧posQ z.dl c = -1∧c ∉ z.es.map BE.c) ∨ ∃ (j:Nat) (d:DC) (i:Nat) (e:BE),z.dl[j]? = some d∧d.c=c∧posQ z.dl c=j∧z.es[i]? = some e∧e.c=c∧RelC z.KB N d e.e:=by
  rcases posQ_find z.dl c with ⟨h1,h2⟩|⟨j,d,h1,h2,h3⟩
  · refine .inl ⟨h1,h2,fun g=>?_⟩
    obtain ⟨y,hy,he⟩:=List.mem_map.1 (h.perm.mem_iff.2 g)
    exact h1 y hy he
  · obtain ⟨e,he,hc,hr⟩:=h.rel d (List.mem_of_getElem? h1)
    obtain ⟨i,hi,rfl⟩:=List.mem_iff_getElem.1 he
    exact .inr ⟨j,d,i,z.es[i],h1,h2,h3,List.getElem?_eq_getElem hi,by rw [hc,h2],hr⟩
/-- More blocks are known. -/
theorem CZ.ok.more {N N2:Nat} {z:CZ} (h:z.ok N) (KB:Lst) (hk:∀ q∈z.KB,q∈KB) (hn:N≤N2):CZ.ok N2 ⟨z.es,z.clk,z.ov,z.dl,KB⟩:=by
  refine ⟨h.wf,h.perm,h.asc,fun d hd=>?_,h.len,h.ov⟩
  obtain ⟨e,he,hc,hr⟩:=h.rel d hd
  exact ⟨e,he,hc,hr.more hk hn⟩
theorem lessC_iff (c d:Cl):lessCl c d=true ↔ ltC c d:=lessCl_iff7 c d
theorem insQ_mem {e x:DC} {l:List DC}:x∈insQ l e ↔ x=e ∨ x∈l:=by
  rw [(insQ_perm e l).mem_iff,List.mem_cons]
theorem insQ_asc {e:DC}:∀ {l:List DC},(l.map DC.c).Pairwise (fun a b=>¬ ltC b a)→((insQ l e).map DC.c).Pairwise (fun a b=>¬ ltC b a)
  | [],_=>by simp [insQ]
  | x :: r,h=>by
    simp only [List.map_cons,List.pairwise_cons] at h
    obtain ⟨h1,h2⟩:=h
    simp only [insQ]
    split
    · rename_i hl
      rw [lessC_iff] at hl
      simp only [List.map_cons,List.pairwise_cons]
      refine ⟨fun y hy=>?_,h1,h2⟩
      rcases List.mem_cons.1 hy with rfl|hy
      · exact ltC_asym hl
      · exact fun g=>h1 y hy (ltC_trans g hl)
    · rename_i hl
      rw [lessC_iff] at hl
      simp only [List.map_cons,List.pairwise_cons]
      refine ⟨fun y hy=>?_,insQ_asc h2⟩
      obtain ⟨z,hz,rfl⟩:=List.mem_map.1 hy
      rcases insQ_mem.1 hz with rfl|hz
      · exact hl
      · exact h1 _ (List.mem_map_of_mem hz)
/-- One is wanted. -/
theorem CZ.ok.want {N:Nat} {z:CZ} (h:z.ok N) (c:Cl) (tick:Int) (ht:0≤tick∧tick≤1073741824) (hn:c ∉ z.es.map BE.c) (h16:z.dl.length < 16) (blk:Nat) (ov:Ov) (hov:OvOk 8 ov (insQ z.dl (newQ c tick)).length (fl DC.v (insQ z.dl (newQ c tick)))) :
    CZ.ok N ⟨z.es++[⟨c,blk,z.clk,⟨0,0,0,none,tick⟩⟩],z.clk+1,ov,insQ z.dl (newQ c tick),z.KB⟩:=by
  have hb:bms (z.es++[⟨c,blk,z.clk,⟨0,0,0,none,tick⟩⟩])=bms z.es++[(c,blk,z.clk)]:=by simp [bms]
  refine ⟨?_,?_,insQ_asc h.asc,?_,?_,hov⟩
  · rw [hb];exact h.wf.snoc (bget_none hn)
  · simp only [List.map_append,List.map_cons,List.map_nil]
    exact ((insQ_perm (newQ c tick) z.dl).map DC.c).trans ((h.perm.cons c).trans (List.perm_append_comm (l₁:=[c])))
  · intro d hd
    simp only at hd ⊢
    rcases insQ_mem.1 hd with rfl|hd
    · exact ⟨⟨c,blk,z.clk,⟨0,0,0,none,tick⟩⟩,by simp,rfl,RelC.new _ _ _ _ ht⟩
    · obtain ⟨e,he,h1,h2⟩:=h.rel d hd
      exact ⟨e,List.mem_append_left _ he,h1,h2⟩
  · simp only [insQ_len];omega
theorem setE6_c {es:BS} {i:Nat} {e:BE} (h:es[i]? = some e) (x:En):(setE6 es i e x).map BE.c=es.map BE.c:=by
  rw [← bms_keys,setE6_bms h,bms_keys]
theorem setD_c {dl:List DC} {j:Nat} {d d2:DC} (h:dl[j]? = some d) (hc:d2.c=d.c):(dl.set j d2).map DC.c=dl.map DC.c:=by
  obtain ⟨hj,hd⟩:=List.getElem?_eq_some_iff.1 h
  rw [List.map_set,hc,← hd]
  have:(dl.map DC.c)[j]'(by simpa using hj)=dl[j].c:=by simp
  rw [← this,List.set_getElem_self]
/-- One entry changes. -/
theorem CZ.ok.set {N N2:Nat} {z:CZ} (h:z.ok N) {j i:Nat} {d d2:DC} {e:BE} {x:En} (hd:z.dl[j]? = some d) (he:z.es[i]? = some e) (hec:e.c=d.c) (hc:d2.c=d.c) (KB:Lst) (hk:∀ q∈z.KB,q∈KB) (hn:N≤N2) (hr:RelC KB N2 d2 x) (ov:Ov) (hov:OvOk 8 ov z.dl.length (fl DC.v (z.dl.set j d2))) :
    CZ.ok N2 ⟨setE6 z.es i e x,z.clk,ov,z.dl.set j d2,KB⟩:=by
  obtain ⟨hj,hdj⟩:=List.getElem?_eq_some_iff.1 hd
  obtain ⟨hi,hei⟩:=List.getElem?_eq_some_iff.1 he
  refine ⟨?_,?_,?_,?_,?_,?_⟩
  · rw [setE6_bms he];exact h.wf
  · simp only;rw [setE6_c he,setD_c hd hc];exact h.perm
  · simp only;rw [setD_c hd hc];exact h.asc
  · intro u hu
    simp only at hu ⊢
    rcases List.mem_or_eq_of_mem_set hu with hu2|rfl
    · by_cases hdu:u.c=d.c
      · have hmem:d2∈z.dl.set j d2:=List.mem_set hj _
        obtain ⟨k1,hk1,e1⟩:=List.mem_iff_getElem.1 hu
        obtain ⟨k2,hk2,e2⟩:=List.mem_iff_getElem.1 hmem
        have hnd:((z.dl.set j d2).map DC.c).Nodup:=by rw [setD_c hd hc];exact h.ndD
        have:=(List.getElem_inj (xs:=(z.dl.set j d2).map DC.c) (i:=k1) (j:=k2) (h₀:=by simpa using hk1) (h₁:=by simpa using hk2) hnd).1 (by simp only [List.getElem_map,e1,e2,hc,hdu])
        subst this
        have hud:u=d2:=e1.symm.trans e2
        subst hud
        exact ⟨⟨e.c,e.blk,e.born,x⟩,List.mem_set hi _,by simp only;rw [hec,hc],hr⟩
      · obtain ⟨e2,he2,g1,g2⟩:=h.rel u hu2
        refine ⟨e2,?_,g1,g2.more hk hn⟩
        obtain ⟨k,hk9,hke⟩:=List.mem_iff_getElem.1 he2
        have hik:i≠k:=fun g=>hdu (by subst g;rw [← g1,← hke,hei,hec])
        have:(setE6 z.es i e x)[k]? = some e2:=by
          unfold setE6
          rw [List.getElem?_set_ne hik,List.getElem?_eq_getElem hk9,hke]
        exact List.mem_of_getElem? this
    · exact ⟨⟨e.c,e.blk,e.born,x⟩,List.mem_set hi _,by simp only;rw [hec,hc],hr⟩
  · simp only [List.length_set];exact h.len
  · simp only [List.length_set];exact hov
/-- Some are kept. -/
theorem CZ.ok.filt {N:Nat} {z:CZ} (h:z.ok N) (P:Cl→Bool) (ov:Ov) (hov:OvOk 8 ov (z.dl.filter fun d=>P d.c).length (fl DC.v (z.dl.filter fun d=>P d.c))) :
    CZ.ok N ⟨z.es.filter fun x=>P x.c,z.clk,ov,z.dl.filter fun d=>P d.c,z.KB⟩:=by
  have hs1:(z.es.filter fun x=>P x.c).Sublist z.es:=List.filter_sublist
  have hs2:(z.dl.filter fun d=>P d.c).Sublist z.dl:=List.filter_sublist
  have hb:(bms (z.es.filter fun x=>P x.c)).Sublist (bms z.es):=hs1.map _
  refine ⟨⟨fun e he=>h.wf.bnd e (hb.subset he),(hb.map _).nodup h.wf.nd,(hb.map _).nodup h.wf.keys⟩,?_,h.asc.sublist (hs2.map _),?_,?_,hov⟩
  · have e1:(z.dl.filter fun d=>P d.c).map DC.c=(z.dl.map DC.c).filter P:=by rw [List.filter_map];rfl
    have e2:(z.es.filter fun x=>P x.c).map BE.c=(z.es.map BE.c).filter P:=by rw [List.filter_map];rfl
    simp only
    rw [e1,e2]
    exact h.perm.filter P
  · intro d hd
    obtain ⟨hd1,hd2⟩:=List.mem_filter.1 hd
    obtain ⟨e,he,h1,h2⟩:=h.rel d hd1
    exact ⟨e,List.mem_filter.2 ⟨he,by rw [h1];exact hd2⟩,h1,h2⟩
  · have:=hs2.length_le
    have:=h.len
    simp only
    omega
/-- Those of whom both say yes. -/
theorem CZ.ok.same {N:Nat} {z:CZ} (h:z.ok N) (q:En→Bool) (qd:DC→Bool) (hq:∀ d x,RelC z.KB N d x→q x=qd d) {cs:List Cl} (hp:cs.Perm ((z.es.filter fun x=>q x.e).map BE.c)) (ha:Asc cmpCl cs):cs=(z.dl.filter qd).map DC.c:=by
  have hmem:∀ c,c∈(z.es.filter fun x=>q x.e).map BE.c ↔ c∈(z.dl.filter qd).map DC.c:=by
    intro c
    simp only [List.mem_map,List.mem_filter]
    constructor
    · rintro ⟨e,⟨he,hqe⟩,rfl⟩
      rcases h.find e.c with ⟨_,_,h3⟩|⟨j,d,i,e2,h1,h2,_,h4,h5,h6⟩
      · exact absurd (List.mem_map_of_mem he) h3
      · have:e2=e:=es_one h.nd (List.mem_of_getElem? h4) he h5
        subst this
        exact ⟨d,⟨List.mem_of_getElem? h1,by rw [← hq d e2.e h6];exact hqe⟩,h2⟩
    · rintro ⟨d,⟨hd,hqd⟩,rfl⟩
      obtain ⟨e,he,h1,h2⟩:=h.rel d hd
      exact ⟨e,⟨he,by rw [hq d e.e h2];exact hqd⟩,h1⟩
  have hn1:((z.es.filter fun x=>q x.e).map BE.c).Nodup:=(List.Sublist.map _ List.filter_sublist).nodup h.nd
  have hn2:((z.dl.filter qd).map DC.c).Nodup:=(List.Sublist.map _ List.filter_sublist).nodup h.ndD
  have hpp:((z.es.filter fun x=>q x.e).map BE.c).Perm ((z.dl.filter qd).map DC.c):=(List.perm_ext_iff_of_nodup hn1 hn2).2 hmem
  refine sortedC_one7 hp hpp.symm ha ?_
  rw [asc_iff]
  exact h.asc.sublist (List.Sublist.map _ List.filter_sublist)
/-- Some are asked for anew. -/
theorem CZ.ok.due {N:Nat} {z:CZ} (h:z.ok N) (tick:Int) (ht:0≤tick∧tick≤1073741824) (ov:Ov) (hov:OvOk 8 ov z.dl.length (fl DC.v (z.dl.map (updD tick)))) :
    CZ.ok N ⟨dueS tick ((z.dl.filter (dueD tick)).map DC.c) z.es,z.clk,ov,z.dl.map (updD tick),z.KB⟩:=by
  have hdc:∀ d,(updD tick d).c=d.c:=fun d=>by unfold updD;split<;>rfl
  have hcs:(z.dl.map (updD tick)).map DC.c=z.dl.map DC.c:=by
    rw [List.map_map];congr 1;funext d;exact hdc d
  refine ⟨?_,?_,?_,?_,by simpa using h.len,by simpa using hov⟩
  · simp only;rw [dueS_bms];exact h.wf
  · simp only;rw [dueS_c,hcs];exact h.perm
  · simp only;rw [hcs];exact h.asc
  · intro d2 hd2
    simp only at hd2 ⊢
    obtain ⟨d,hd,rfl⟩:=List.mem_map.1 hd2
    obtain ⟨e,he,h1,h2⟩:=h.rel d hd
    have hin:e.c∈(z.dl.filter (dueD tick)).map DC.c ↔ dueD tick d=true:=by
      rw [h1]
      constructor
      · intro g
        obtain ⟨d3,hd3,hc3⟩:=List.mem_map.1 g
        obtain ⟨g1,g2⟩:=List.mem_filter.1 hd3
        have:d3=d:=by
          obtain ⟨k1,hk1,e1⟩:=List.mem_iff_getElem.1 g1
          obtain ⟨k2,hk2,e2⟩:=List.mem_iff_getElem.1 hd
          have:=(List.getElem_inj (xs:=z.dl.map DC.c) (i:=k1) (j:=k2) (h₀:=by simpa using hk1) (h₁:=by simpa using hk2) h.ndD).1 (by simp only [List.getElem_map,e1,e2,hc3])
          subst this
          exact e1.symm.trans e2
        rw [← this];exact g2
      · intro g
        exact List.mem_map_of_mem (List.mem_filter.2 ⟨hd,g⟩)
    refine ⟨_,List.mem_map_of_mem he,?_,?_⟩
    · rw [hdc];split<;>exact h1
    · unfold updD
      by_cases hq:dueD tick d=true
      · rw [if_pos (hin.2 hq),if_pos hq]
        obtain ⟨g1,g2,⟨w1,w2,w3⟩,g4,g5,g6,g7,g8,g9⟩:=h2
        exact ⟨rfl,ht,⟨w1,w2,w3⟩,g4,g5,g6,g7,g8,g9⟩
      · rw [if_neg (fun g=>hq (hin.1 g)),if_neg hq]
        exact h2
theorem dropM_len {es:BS} (hnd:(es.map BE.c).Nodup) (c:Cl):(es.filter fun x=>decide (x.c≠c)).length+(if c∈es.map BE.c then 1 else 0)=es.length:=by
  induction es with
  | nil=>simp
  | cons x r ih =>
    simp only [List.map_cons,List.nodup_cons] at hnd
    have ih:=ih hnd.2
    by_cases hx:x.c=c
    · have hn:c ∉ r.map BE.c:=hx ▸ hnd.1
      rw [if_neg hn] at ih
      have e:(x::r).filter (fun y=>decide (y.c≠c))=r.filter fun y=>decide (y.c≠c):=by rw [List.filter_cons,if_neg (by simpa using hx)]
      rw [e,if_pos (by simp [hx]),List.length_cons]
      omega
    · have e:(x::r).filter (fun y=>decide (y.c≠c))=x::r.filter fun y=>decide (y.c≠c):=by rw [List.filter_cons,if_pos (by simpa using hx)]
      rw [e]
      simp only [List.map_cons,List.mem_cons,List.length_cons]
      have:(c=x.c ∨ c∈r.map BE.c) ↔ c∈r.map BE.c:=⟨fun h=>h.resolve_left fun g=>hx g.symm,.inr⟩
      simp only [this]
      omega
end Go.Proofs.Ytijbmkjebidanaa
set_option linter.unusedSimpArgs false
set_option linter.unusedVariables false
namespace Go.Proofs.Ytijbmkjebidanaa
open Go.RowKit Go.Shelf Go.Sort
set_option maxRecDepth 100000
theorem to12C_ok (a b:Int):CallP Try.prog 17 [.agg ⟨[.int .i64 a,.int .i64 b]⟩] (.agg ⟨[.int .i64 a,.int .i64 b]⟩):=by
  refine enterP (tb:=tb) Try.func17 rfl Try.ntmps17 rfl fun w=>?_
  repeat' (first|(apply R.is1;first|(apply R.pure;exact rfl;first|(apply Ok1.fieldAddr;(iterate 5 exact rfl))|(apply Ok1.load;exact rfl;(apply Ld.own1;exact rfl;exact rfl;(focus (repeat' first|exact At.head|apply At.tail);done);exact rfl))|(apply Ok1.build;(iterate 5 exact rfl)))|(apply R.box;(iterate 3 exact rfl);intro)|(apply R.alloc;(iterate 3 exact rfl);intro))|(apply R.is0;(apply R.store;(iterate 6 exact rfl);exact Upd.head;exact rfl))|apply R.nil|(apply T.is;first|apply T.seq|apply T.region|apply T.ret))
  (apply RetOk.c;exact rfl;((apply Ld.ownk;exact rfl;exact rfl;exact At.head;exact rfl)))
  rfl
section
variable (b bm:Nat) (es:BS) (clk:Nat) (c:Cl)
theorem BL_two:Ext (BL b bm es clk) (B2L b bm (bms es) clk) (bls es):=Ext.here (B2L b bm (bms es) clk) (bls es)
theorem CallM.two6 {f:FuncId} {vs:List Value} {w:World} {u:Value} (h:CallM Try.prog f vs (B2L b bm (bms es) clk) w fun v L=>v=u∧L=B2L b bm (bms es) clk):CallM Try.prog f vs (BL b bm es clk) w fun v L=>v=u∧L=BL b bm es clk :=
  CallM.part6 (BL_two b bm es clk) h fun v Lo h=>⟨BL b bm es clk,by rw [h.2];exact .last (.all _),h.1,rfl⟩
theorem lenB_ok (w:World):CallM Try.prog 55 [.pointer (some ⟨b,0,none⟩)] (BL b bm es clk) w fun v L=>v = .int .i64 es.length∧L=BL b bm es clk:=by
  have:=CallM.two6 b bm es clk (lenC_ok b bm (bms es) clk w)
  rwa [bms_len] at this
theorem lookB_none (h:c ∉ es.map BE.c) (n1 n2:Int) (w:World):CallM Try.prog 64 [.pointer (some ⟨b,0,none⟩),kvC c,.agg ⟨[.int .i64 n1,.int .i64 n2]⟩] (BL b bm es clk) w fun v L=>v = .int .i64 7∧L=BL b bm es clk :=
  CallM.two6 b bm es clk (lookC_none b bm (bms es) clk c (bget_none h) n1 n2 w)
theorem takeB_none (h:c ∉ es.map BE.c) (n1 n2:Int) (w:World):CallM Try.prog 16 [.pointer (some ⟨b,0,none⟩),kvC c,.agg ⟨[.int .i64 n1,.int .i64 n2]⟩] (BL b bm es clk) w fun v L=>v = .int .i64 7∧L=BL b bm es clk :=
  CallM.two6 b bm es clk (takeC_none b bm (bms es) clk c (bget_none h) n1 n2 w)
theorem keyB_none (h:c ∉ es.map BE.c) (w:World):CallM Try.prog 60 [.pointer (some ⟨b,0,none⟩),kvC c] (BL b bm es clk) w fun v L=>v = .tuple #[.pointer none,.int .i64 7]∧L=BL b bm es clk :=
  CallM.two6 b bm es clk (keyC_none b bm (bms es) clk c (bget_none h) w)
theorem putB_none (h:c ∉ es.map BE.c) (k:Nat) (w:World):CallM Try.prog 12 [.pointer (some ⟨b,0,none⟩),kvC c,.pointer (some ⟨k,0,none⟩)] (BL b bm es clk) w fun v L=>v = .int .i64 7∧L=BL b bm es clk :=
  CallM.two6 b bm es clk (putC_none b bm (bms es) clk c (bget_none h) k w)
variable {i:Nat} {e:BE} (hi:es[i]? = some e) (hnd:(es.map BE.c).Nodup)
theorem setE6_same (hi:es[i]? = some e):setE6 es i e e.e=es:=by
  obtain ⟨h1,h2⟩:=List.getElem?_eq_some_iff.1 hi
  unfold setE6
  rw [← h2,List.set_getElem_self]
theorem CallM.one6 (hi:es[i]? = some e) {f:FuncId} {vs:List Value} {w:World} {R:Value→Lst→Prop} {R':Value→Lst→Prop} (h:CallM Try.prog f vs (B3L b bm (bms es) clk e.blk e.e) w R) (hr:∀ v Lo,R v Lo→∃ A x,Lo=A++B3L b bm (bms es) clk e.blk x∧R' v (A++BL b bm (setE6 es i e x) clk)):CallM Try.prog f vs (BL b bm es clk) w R' :=
  CallM.part6 (BL_ext hi b bm clk) h fun v Lo h=>by
    obtain ⟨A,x,rfl,h2⟩:=hr v Lo h
    exact ⟨_,BL_keep hi b bm clk x A,h2⟩
theorem CallM.same6 (hi:es[i]? = some e) {f:FuncId} {vs:List Value} {w:World} {u:Value} (h:CallM Try.prog f vs (B3L b bm (bms es) clk e.blk e.e) w fun v L=>v=u∧L=B3L b bm (bms es) clk e.blk e.e):CallM Try.prog f vs (BL b bm es clk) w fun v L=>v=u∧L=BL b bm es clk :=
  CallM.one6 b bm es clk hi h fun v Lo h=>⟨[],e.e,h.2,h.1,by rw [setE6_same es hi];rfl⟩
def lookX (x:En) (n1 n2:Int):Int:=if x.key=none then 11 else lookE x n1 n2
def takeX (x:En) (n1 n2:Int):En:=if x.key=none then x else if NRc n1 n2 then takeC x n1 n2 else x
theorem lookB_at (hi:es[i]? = some e) (hnd:(es.map BE.c).Nodup) (hc:0≤e.e.ctr∧e.e.ctr≤2147483647) (n1 n2:Int) (w:World):CallM Try.prog 64 [.pointer (some ⟨b,0,none⟩),kvC e.c,.agg ⟨[.int .i64 n1,.int .i64 n2]⟩] (BL b bm es clk) w fun v L=>v = .int .i64 (lookX e.e n1 n2)∧L=BL b bm es clk:=by
  refine CallM.same6 b bm es clk hi ?_
  unfold lookX
  cases hk:e.e.key with
  | none=>exact lookC_wanted b bm (bms es) clk e.c e.blk e.e (bget_some hnd hi) hk n1 n2 w
  | some k =>
    rw [if_neg (by simp)]
    exact lookC_ok b bm (bms es) clk e.c e.blk e.e k (bget_some hnd hi) hk hc n1 n2 w
theorem takeB_at (hi:es[i]? = some e) (hnd:(es.map BE.c).Nodup) (hc:0≤e.e.ctr∧e.e.ctr≤2147483647) (n1 n2:Int) (w:World):CallM Try.prog 16 [.pointer (some ⟨b,0,none⟩),kvC e.c,.agg ⟨[.int .i64 n1,.int .i64 n2]⟩] (BL b bm es clk) w fun v L=>v = .int .i64 (lookX e.e n1 n2)∧L=BL b bm (setE6 es i e (takeX e.e n1 n2)) clk:=by
  unfold lookX takeX
  cases hk:e.e.key with
  | none =>
    refine CallM.one6 b bm es clk hi (takeC_wanted b bm (bms es) clk e.c e.blk e.e (bget_some hnd hi) hk n1 n2 w) fun v Lo h=>⟨[],e.e,h.2,h.1,rfl⟩
  | some k =>
    rw [if_neg (by simp),if_neg (by simp)]
    exact CallM.one6 b bm es clk hi (takeC_ok b bm (bms es) clk e.c e.blk e.e k (bget_some hnd hi) hk hc n1 n2 w) fun v Lo h=>⟨[],_,h.2,h.1,rfl⟩
theorem keyB_wanted (hi:es[i]? = some e) (hnd:(es.map BE.c).Nodup) (hk:e.e.key=none) (w:World):CallM Try.prog 60 [.pointer (some ⟨b,0,none⟩),kvC e.c] (BL b bm es clk) w fun v L=>v = .tuple #[.pointer none,.int .i64 11]∧L=BL b bm es clk :=
  CallM.same6 b bm es clk hi (keyC_wanted b bm (bms es) clk e.c e.blk e.e (bget_some hnd hi) hk w)
theorem blks_sub (hi:es[i]? = some e):∀ q∈blks (B3L b bm (bms es) clk e.blk e.e),q∈blks (BL b bm es clk):=by
  intro q hq
  obtain ⟨y,hy,rfl⟩:=List.mem_map.1 hq
  exact List.mem_map_of_mem ((BL_ext hi b bm clk).mem y hy)
theorem keyB_ok (hi:es[i]? = some e) (hnd:(es.map BE.c).Nodup) (bk:Nat) (K:List Int) (hk:e.e.key=some ⟨bk,0,none⟩) (hK:K.length≤1000000) (w:World) (hkc:∀ w1,Chg (blks (BL b bm es clk)) w w1→KeyR w1 bk K) :
    CallM Try.prog 60 [.pointer (some ⟨b,0,none⟩),kvC e.c] (BL b bm es clk) w fun v L=>∃ y:KE,y.K=K∧y.ok∧v = .tuple #[.pointer (some ⟨y.bk,0,none⟩),.int .i64 0]∧L=y.L++BL b bm es clk :=
  CallM.one6 b bm es clk hi (keyC_ok b bm (bms es) clk e.c e.blk e.e (bget_some hnd hi) bk K hk hK w fun w1 h=>hkc w1 (h.mono (blks_sub b bm es clk hi))) fun v Lo ⟨y,h1,h2,h3,h4⟩=>⟨y.L,e.e,h4,y,h1,h2,h3,by rw [setE6_same es hi]⟩
theorem putB_has (hi:es[i]? = some e) (hnd:(es.map BE.c).Nodup) (k:Addr) (hk:e.e.key=some k) (q:Nat) (w:World):CallM Try.prog 12 [.pointer (some ⟨b,0,none⟩),kvC e.c,.pointer (some ⟨q,0,none⟩)] (BL b bm es clk) w fun v L=>v = .int .i64 7∧L=BL b bm es clk :=
  CallM.same6 b bm es clk hi (putC_has b bm (bms es) clk e.c e.blk e.e k (bget_some hnd hi) hk q w)
theorem putB_ok (hi:es[i]? = some e) (hnd:(es.map BE.c).Nodup) (hx:e.e.key=none) (bk:Nat) (K:List Int) (hK:K.length≤1000000) (w:World) (hkc:∀ w1,Chg (blks (BL b bm es clk)) w w1→KeyR w1 bk K) :
    CallM Try.prog 12 [.pointer (some ⟨b,0,none⟩),kvC e.c,.pointer (some ⟨bk,0,none⟩)] (BL b bm es clk) w fun v L=>v = .int .i64 0∧∃ y:KE,y.K=K∧y.ok∧L=y.L++BL b bm (setE6 es i e ⟨e.e.boot,e.e.ctr,e.e.bits,some ⟨y.bk,0,none⟩,e.e.asked⟩) clk :=
  CallM.one6 b bm es clk hi (putC_ok b bm (bms es) clk e.c e.blk e.e (bget_some hnd hi) hx bk K hK w fun w1 h=>hkc w1 (h.mono (blks_sub b bm es clk hi))) fun v Lo ⟨h0,y,h1,h2,h3⟩=>⟨y.L,_,h3,h0,y,h1,h2,rfl⟩
theorem dropB_ok (hnd:(es.map BE.c).Nodup) (hl:es.length≤1000) (p:Option Addr) (cap:Nat) (w:World) (hp:RdSl w p Cl.v [c,c]) (hq:Off p (blks (BL b bm es clk))) :
    CallM Try.prog 19 [.pointer (some ⟨b,0,none⟩),.slice p 2 cap] (BL b bm es clk) w fun v L=>v = .int .i64 (if c∈es.map BE.c then 1 else 0)∧L=BL b bm (es.filter fun x=>decide (x.c≠c)) clk:=by
  have hk:(mkeys (bms es)).Nodup:=by rw [bms_keys];exact hnd
  have hdm:dropM [c,c] (bms es)=bms (es.filter fun x=>decide (x.c≠c)):=by
    unfold dropM bms
    rw [List.filter_map]
    congr 1
    refine List.filter_congr fun x hx=>?_
    simp [Function.comp_apply]
  have hln:=dropM_len hnd c
  refine CallM.part6 (BL_two b bm es clk) (dropC_ok b bm (bms es) clk hk (by rw [bms_len];exact hl) p cap [c,c] (by simp) w hp fun _ a ha hm=>hq a ha ?_) ?_
  · unfold BL blks
    simp only [List.map_cons]
    simp only [List.mem_cons,List.not_mem_nil,or_false] at hm ⊢
    rcases hm with h|h
    · exact .inl h
    · exact .inr (.inl h)
  · rintro v Lo ⟨rfl,rfl⟩
    refine ⟨BL b bm (es.filter fun x=>decide (x.c≠c)) clk,?_,?_,rfl⟩
    · rw [hdm]
      exact Keep.cons (.one _ _) (Keep.cons (.one _ _) (keepC_sub (List.Sublist.map _ List.filter_sublist)))
    · rw [hdm,bms_len,bms_len,← hln]
      congr 1
      split<;>omega
end
end Go.Proofs.Ytijbmkjebidanaa
set_option linter.unusedSimpArgs false
set_option linter.unusedVariables false
namespace Go.Proofs.Ytijbmkjebidanaa
open Go.RowKit Go.Shelf Go.Sort
set_option maxRecDepth 100000
/-- What is told by both is the same. -/
theorem look_same {KB:Lst} {N:Nat} {d:DC} {x:En} (h:RelC KB N d x) (n1 n2:Int):lookX x n1 n2=if d.kn then vlook12 d.tk n1 n2 else 11:=by
  unfold lookX
  cases hk:d.kn with
  | false=>rw [if_pos (h.no hk).1];rfl
  | true =>
    obtain ⟨y,hy,_⟩:=h.yes hk
    rw [if_neg (by rw [hy];simp),if_pos rfl]
    unfold lookE vlook12
    by_cases hN:NRc n1 n2
    · rw [if_pos hN,if_pos hN,win_look h.win]
    · rw [if_neg hN,if_neg hN]
theorem RelC.ctr {KB:Lst} {N:Nat} {d:DC} {x:En} (h:RelC KB N d x):0≤x.ctr∧x.ctr≤2147483647:=by
  have:=latN_rng h.win.rt
  rw [h.win.lat] at this
  exact this
section
variable (b bm:Nat) (N:Nat) (z:CZ) (c:Cl) (n1 n2:Int) (p:Option Addr) (cap:Nat) (w:World)
theorem tells15_ok (hN:N≤1000) (hz:z.ok N) (hp:RdSl w p DC.v z.dl) (hpo:z.dl≠[]→Off p (blks (BL b bm z.es z.clk)))
    (hk:∀ d∈z.dl,∀ w1,Chg (blks (BL b bm z.es z.clk)) w w1→RdSl w1 d.kp u8V d.ks∧RdSl w1 d.tp nV d.tk)
    (hy:∀ y:KE,y.ok→(∀ q∈y.L,q∈z.KB)→∀ w1,Chg (blks (BL b bm z.es z.clk)) w w1→KeyR w1 y.bk y.K) :
    CallM Try.prog 22 [.pointer (some ⟨b,0,none⟩),.slice p z.dl.length cap,kvC c,.agg ⟨[.int .i64 n1,.int .i64 n2]⟩] (BL b bm z.es z.clk) w fun v L=>v = .bool true∧L=BL b bm z.es z.clk:=by
  have hpc:=fun w1 (h:Chg (blks (BL b bm z.es z.clk)) w w1)=>hp.chg' h hpo
  have hl16:=hz.len
  have hfd:=fun w1 h=>vfindQ_ok p cap z.dl (by omega) c w1 (hpc w1 h)
  have hln:=fun w1=>lenB_ok b bm z.es z.clk w1
  rw [hz.elen] at hln
  have hel:=hz.elen
  have hKn:∀ w1,CallM Try.prog 61 [.pointer (some ⟨b,0,none⟩)] (BL b bm z.es z.clk) w1 fun v L=>∃ ov,OvOk 4 ov ((z.dl.filter fun d=>d.kn == true).map DC.c).length (fl Cl.v ((z.dl.filter fun d=>d.kn == true).map DC.c))∧v=slV ov ((z.dl.filter fun d=>d.kn == true).map DC.c).length∧L=blkL 34 ov (fl Cl.v ((z.dl.filter fun d=>d.kn == true).map DC.c))++BL b bm z.es z.clk:=fun w1 =>
    (knownB_ok b bm z.es z.clk hz.wf (by omega) w1).imp fun v L ⟨ov,cs,h1,h2,h3,h4,h5⟩=>by
      have:=hz.same (fun x=>x.key.isSome) (fun d=>d.kn == true) (fun d x h=>by
        cases hk:d.kn with
        | false=>rw [(h.no hk).1];rfl
        | true=>obtain ⟨y,hy,_⟩:=h.yes hk;rw [hy];rfl) h1 h2
      rw [this] at h3 h4 h5
      exact ⟨ov,h3,h4,h5⟩
  have hWn:∀ w1,CallM Try.prog 63 [.pointer (some ⟨b,0,none⟩)] (BL b bm z.es z.clk) w1 fun v L=>∃ ov,OvOk 4 ov ((z.dl.filter fun d=>d.kn == false).map DC.c).length (fl Cl.v ((z.dl.filter fun d=>d.kn == false).map DC.c))∧v=slV ov ((z.dl.filter fun d=>d.kn == false).map DC.c).length∧L=blkL 34 ov (fl Cl.v ((z.dl.filter fun d=>d.kn == false).map DC.c))++BL b bm z.es z.clk:=fun w1 =>
    (wantedB_ok b bm z.es z.clk hz.wf (by omega) w1).imp fun v L ⟨ov,cs,h1,h2,h3,h4,h5⟩=>by
      have:=hz.same (fun x=>x.key.isNone) (fun d=>d.kn == false) (fun d x h=>by
        cases hk:d.kn with
        | false=>rw [(h.no hk).1];rfl
        | true=>obtain ⟨y,hy,_⟩:=h.yes hk;rw [hy];rfl) h1 h2
      rw [this] at h3 h4 h5
      exact ⟨ov,h3,h4,h5⟩
  have hoT:=fun w1 h=>of15_ok p cap z.dl (by omega) true w1 (hpc w1 h)
  have hoF:=fun w1 h=>of15_ok p cap z.dl (by omega) false w1 (hpc w1 h)
  have hk1:((z.dl.filter fun d=>d.kn == true).map DC.c).length≤16:=by rw [List.length_map];exact Nat.le_trans (List.length_filter_le ..) hl16
  have hk2:((z.dl.filter fun d=>d.kn == false).map DC.c).length≤16:=by rw [List.length_map];exact Nat.le_trans (List.length_filter_le ..) hl16
  generalize (z.dl.filter fun d=>d.kn == true).map DC.c=ck at *
  generalize (z.dl.filter fun d=>d.kn == false).map DC.c=cw at *
  have hsm:=fun (xs:List Cl) (hx:xs.length≤16) p1 p2 c1 c2 w1 h1 h2=>same15_ok p1 p2 c1 c2 xs xs (by omega) (by omega) w1 h1 h2
  simp only [decide_true] at hsm
  have hto:=to5_ok c.id c.roles c.exp c.ser
  have hto2:=to12C_ok n1 n2
  obtain ⟨E,hlk,hvl⟩:∃ E,(∀ w1,CallM Try.prog 64 [.pointer (some ⟨b,0,none⟩),kvC c,.agg ⟨[.int .i64 n1,.int .i64 n2]⟩] (BL b bm z.es z.clk) w1 fun v L=>v = .int .i64 E∧L=BL b bm z.es z.clk)∧(∀ w1,Chg (blks (BL b bm z.es z.clk)) w w1→CallW Try.prog 15 [.slice p z.dl.length cap,kvC c,.agg ⟨[.int .i64 n1,.int .i64 n2]⟩] w1 fun v _=>v = .int .i64 E):=by
    rcases hz.find c with ⟨h1,h2,h3⟩|⟨j,d,i,e,h1,h2,h3,h4,h5,h6⟩
    · exact ⟨7,fun w1=>lookB_none b bm z.es z.clk c h3 n1 n2 w1,fun w1 h=>vlook15_none p cap z.dl (by omega) c n1 n2 w1 (hpc w1 h) h1⟩
    · refine ⟨lookX e.e n1 n2,fun w1=>h5 ▸ lookB_at b bm z.es z.clk h4 hz.nd h6.ctr n1 n2 w1,fun w1 h=>?_⟩
      rw [look_same h6]
      have:=h6.num
      exact vlook15_at p cap z.dl (by omega) c n1 n2 w1 (hpc w1 h) j d h1 h3 (by omega) h6.win.rt (hk d (List.mem_of_getElem? h1) w1 h).2
  have hkey:(posQ z.dl c = -1∧∀ w1,CallM Try.prog 60 [.pointer (some ⟨b,0,none⟩),kvC c] (BL b bm z.es z.clk) w1 fun v L=>v = .tuple #[.pointer none,.int .i64 7]∧L=BL b bm z.es z.clk) ∨
      (∃ (j:Nat) (d:DC),posQ z.dl c=j∧z.dl[j]? = some d∧d.kn=false∧∀ w1,CallM Try.prog 60 [.pointer (some ⟨b,0,none⟩),kvC c] (BL b bm z.es z.clk) w1 fun v L=>v = .tuple #[.pointer none,.int .i64 11]∧L=BL b bm z.es z.clk) ∨
      (∃ (j:Nat) (d:DC),posQ z.dl c=j∧z.dl[j]? = some d∧d.kn=true∧d.ks.length≤40∧∀ w1,Chg (blks (BL b bm z.es z.clk)) w w1→CallM Try.prog 60 [.pointer (some ⟨b,0,none⟩),kvC c] (BL b bm z.es z.clk) w1 fun v L=>∃ y:KE,y.K=d.ks∧y.ok∧v = .tuple #[.pointer (some ⟨y.bk,0,none⟩),.int .i64 0]∧L=y.L++BL b bm z.es z.clk):=by
    rcases hz.find c with ⟨h1,h2,h3⟩|⟨j,d,i,e,h1,h2,h3,h4,h5,h6⟩
    · exact .inl ⟨h2,fun w1=>keyB_none b bm z.es z.clk c h3 w1⟩
    · cases hkn:d.kn with
      | false=>exact .inr (.inl ⟨j,d,h3,h1,hkn,fun w1=>h5 ▸ keyB_wanted b bm z.es z.clk h4 hz.nd (h6.no hkn).1 w1⟩)
      | true =>
        obtain ⟨y,g1,g2,g3,g4⟩:=h6.yes hkn
        have h40:=h6.k40
        refine .inr (.inr ⟨j,d,h3,h1,hkn,h40,fun w1 h=>h5 ▸ keyB_ok b bm z.es z.clk h4 hz.nd y.bk d.ks g1 (by omega) w1 fun w2 hc=>?_⟩)
        rw [← g2]
        exact hy y g3 g4 w2 (h.trans hc)
  generalize hB0:BL b bm z.es z.clk=B0 at *
  simp only [kvC] at hfd hlk hvl hkey ⊢
  refine enterK (tb:=tb) Try.func22 rfl Try.ntmps22 rfl ?_
  repeat' (first|(apply R.is1;first|(apply R.pure;exact rfl;(apply Ok1.assign;exact rfl))|(apply R.box;(iterate 3 exact rfl);intro))|apply R.nil|(apply T.is;first|(apply T.stop1 1)|apply T.seq|apply T.region))
  rename_i b6 b7
  refine ⟨?_⟩
  rcases hkey with ⟨hpos,hkey⟩|⟨j,d,hpos,hd,hkn,hkey⟩|⟨j,d,hpos,hd,hkn,h40,hkey⟩
  case' inl =>
    rw [hpos] at hfd
    repeat' (first|(apply R.is1;first|(apply R.isBin;(apply R.pure;exact rfl;first|(apply Ok1.lss_t;exact rfl;exact rfl;omega)|(apply Ok1.neq_f;exact rfl;exact rfl;omega)))|(apply R.isCall;first|apply R.callP rfl rfl rfl hto|(apply R.callE (Li:=B0) (vs:=[.pointer (some ⟨b,0,none⟩),.agg ⟨_⟩]);(iterate 3 exact rfl);(focus (repeat' first|exact Ext.all _|apply Ext.cons);done);intro w1 hw1;exact hkey w1;rintro v Lo ⟨rfl,hq⟩;rw [hq];clear hq)|(apply R.callV (vs:=[.slice p z.dl.length cap,.agg ⟨_⟩]);(iterate 3 exact rfl);intro w1 hw1;exact hfd w1 hw1.chg))|(apply R.pure;exact rfl;first|(apply Ok1.load;exact rfl;(apply Ld.ownk;exact rfl;exact rfl;(focus (repeat' first|exact At.head|apply At.tail|apply At.right);done);exact rfl))|(apply Ok1.move;exact rfl)|(apply Ok1.assign;exact rfl)|(apply Ok1.extract;exact rfl;exact rfl)))|apply R.nil|(apply T.is;first|(apply T.stop1 11)|apply T.seq|apply T.region|apply T.block|apply T.skip|(apply T.cond_t;exact rfl)|(apply T.cond_f;exact rfl)))
    all_goals skip
    all_goals refine ⟨?_⟩
    all_goals refine T.weakK (σ':=[(0,.pointer (some ⟨b,0,none⟩)),(1,.slice p z.dl.length cap),(6,.pointer (some ⟨b6,0,none⟩)),(7,.pointer (some ⟨b7,0,none⟩))]) (L':=(b7,.cells ⟨[.int .i64 n1,.int .i64 n2]⟩ 26 (0,0))::(b6,.cells ⟨[.int .i64 c.id,.int .i64 c.roles,.int .i64 c.exp,.int .i64 c.ser]⟩ 24 (0,0))::B0) ?_ (by (focus (repeat' first|exact Ext.one _ _|exact Ext.here _ _|apply Keep.cons|apply Keep.last|apply Ext.app);done)) ⟨rfl,rfl,rfl,rfl,trivial⟩
  case' inr.inl =>
    rw [hpos] at hfd
    obtain ⟨bb,o,hpe,H⟩:=hp.at hd
    replace H:=H 8 DC.v_len
    have hS:bb ∉ blks B0:=hpo (fun e=>by rw [e] at hd;simp at hd) _ hpe
    have hjl:=(List.getElem?_eq_some_iff.1 hd).1
    obtain ⟨dc,kn,asked,ks,kp,kc,tk,tp,tc⟩:=d
    simp only at hkn
    subst hkn
    have hv:DC.v ⟨dc,false,asked,ks,kp,kc,tk,tp,tc⟩=[.int .i64 dc.id,.int .i64 dc.roles,.int .i64 dc.exp,.int .i64 dc.ser,.bool false,.int .i64 asked,.slice kp ks.length kc,.slice tp tk.length tc]:=rfl
    rw [hv] at H
    repeat' (first|(apply R.is1;first|(apply R.isBin;(apply R.pure;exact rfl;first|(apply Ok1.lss_f;exact rfl;exact rfl;omega)|(apply Ok1.neq_f;exact rfl;exact rfl;omega)))|(apply R.isCall;first|apply R.callP rfl rfl rfl hto|(apply R.callE (Li:=B0) (vs:=[.pointer (some ⟨b,0,none⟩),.agg ⟨_⟩]);(iterate 3 exact rfl);(focus (repeat' first|exact Ext.all _|apply Ext.cons);done);intro w1 hw1;exact hkey w1;rintro v Lo ⟨rfl,hq⟩;rw [hq];clear hq)|(apply R.callV (vs:=[.slice p z.dl.length cap,.agg ⟨_⟩]);(iterate 3 exact rfl);intro w1 hw1;exact hfd w1 hw1.chg))|(apply R.pure;exact rfl;first|(apply Ok1.indexAddrP;(iterate 4 exact rfl);exact hpe;exact rfl;omega;omega)|(apply Ok1.load;exact rfl;first|(apply Ld.row1 H;exact rfl;exact hS;(iterate 3 exact rfl))|(apply Ld.ownk;exact rfl;exact rfl;(focus (repeat' first|exact At.head|apply At.tail|apply At.right);done);exact rfl))|(apply Ok1.move;exact rfl)|(apply Ok1.fieldAddr;(iterate 5 exact rfl))|(apply Ok1.assign;exact rfl)|(apply Ok1.extract;exact rfl;exact rfl)|(apply Ok1.not_f;exact rfl)))|apply R.nil|(apply T.is;first|(apply T.stop1 11)|apply T.seq|apply T.region|apply T.block|apply T.skip|(apply T.cond_t;exact rfl)|(apply T.cond_f;exact rfl)))
    all_goals skip
    all_goals refine ⟨?_⟩
    all_goals refine T.weakK (σ':=[(0,.pointer (some ⟨b,0,none⟩)),(1,.slice p z.dl.length cap),(6,.pointer (some ⟨b6,0,none⟩)),(7,.pointer (some ⟨b7,0,none⟩))]) (L':=(b7,.cells ⟨[.int .i64 n1,.int .i64 n2]⟩ 26 (0,0))::(b6,.cells ⟨[.int .i64 c.id,.int .i64 c.roles,.int .i64 c.exp,.int .i64 c.ser]⟩ 24 (0,0))::B0) ?_ (by (focus (repeat' first|exact Ext.one _ _|exact Ext.here _ _|apply Keep.cons|apply Keep.last|apply Ext.app);done)) ⟨rfl,rfl,rfl,rfl,trivial⟩
  case' inr.inr =>
    rw [hpos] at hfd
    obtain ⟨bb,o,hpe,H⟩:=hp.at hd
    replace H:=H 8 DC.v_len
    have hS:bb ∉ blks B0:=hpo (fun e=>by rw [e] at hd;simp at hd) _ hpe
    have hjl:=(List.getElem?_eq_some_iff.1 hd).1
    have hkd:=fun w1 h=>(hk d (List.mem_of_getElem? hd) w1 h).1
    have hsa:=fun pa ca (K:List Int) (hK:K=d.ks) w1 h1 h2=>same_ok pa d.kp K.length d.ks.length ca d.kc K d.ks rfl rfl (by rw [hK];omega) w1 h1 h2
    have hsa:∀ pa ca (K:List Int),K=d.ks→∀ w1,RdSl w1 pa u8V K→RdSl w1 d.kp u8V d.ks→CallW Try.prog 34 [.slice pa K.length ca,.slice d.kp d.ks.length d.kc] w1 fun v _=>v = .bool true:=fun pa ca K hK w1 h1 h2=>by
      have:=hsa pa ca K hK w1 h1 h2
      rwa [decide_eq_true hK] at this
    have hv:DC.v d=[.int .i64 d.c.id,.int .i64 d.c.roles,.int .i64 d.c.exp,.int .i64 d.c.ser,.bool true,.int .i64 d.asked,.slice d.kp d.ks.length d.kc,.slice d.tp d.tk.length d.tc]:=by unfold DC.v;rw [hkn]
    rw [hv] at H
    repeat' (first|(apply R.is1;first|(apply R.isBin;(apply R.pure;exact rfl;(apply Ok1.lss_f;exact rfl;exact rfl;omega)))|(apply R.isCall;first|apply R.callP rfl rfl rfl hto|(apply R.callE (Li:=B0) (vs:=[.pointer (some ⟨b,0,none⟩),.agg ⟨_⟩]);(iterate 3 exact rfl);(focus (repeat' first|exact Ext.all _|apply Ext.cons);done);intro w1 hw1;exact hkey w1 hw1.chg;rintro v Lo ⟨y,hyK,hyo,rfl,rfl⟩;(obtain ⟨YL,hYL,hyl⟩:∃ YL,y.L=YL∧∀ q∈y.L,q∈YL:=⟨_,rfl,fun q h=>h⟩);rw [hYL,List.append_assoc])|(apply R.callV (vs:=[.slice p z.dl.length cap,.agg ⟨_⟩]);(iterate 3 exact rfl);intro w1 hw1;exact hfd w1 hw1.chg))|(apply R.pure;exact rfl;first|(apply Ok1.indexAddrP;(iterate 4 exact rfl);exact hpe;exact rfl;omega;omega)|(apply Ok1.load;exact rfl;first|(apply Ld.row1 H;exact rfl;exact hS;(iterate 3 exact rfl))|(apply Ld.ownk;exact rfl;exact rfl;(focus (repeat' first|exact At.head|apply At.tail|apply At.right);done);exact rfl))|(apply Ok1.move;exact rfl)|(apply Ok1.fieldAddr;(iterate 5 exact rfl))|(apply Ok1.assign;exact rfl)|(apply Ok1.extract;exact rfl;exact rfl)|(apply Ok1.not_t;exact rfl)))|apply R.nil|(apply T.is;first|(apply T.stop1 11)|(apply T.drawC (id:=9) [] (by decide);((apply A.tk 0;exact rfl;kernel_rfl;(apply Ok1.move;exact rfl))<;>((apply A.tk 1;exact rfl;kernel_rfl;(apply Ok1.neq_f;exact rfl;exact rfl;omega)))<;>(apply A.tk 2;exact rfl;kernel_rfl;(apply Ok1.move;exact rfl))<;>((apply A.tkG 3;(iterate 3 exact rfl);kernel_rfl;(apply Ok1.move;exact rfl)))<;>((apply A.tkG 5;(iterate 3 exact rfl);kernel_rfl;(apply Ok1.move;exact rfl)))<;>((apply A.tkG 6;(iterate 3 exact rfl);kernel_rfl;(apply Ok1.move;exact rfl)))<;>((apply A.tkG 7;(iterate 3 exact rfl);kernel_rfl;(apply Ok1.indexAddrP;(iterate 4 exact rfl);exact hpe;exact rfl;omega;omega)))<;>((apply A.tkG 8;(iterate 3 exact rfl);kernel_rfl;(apply Ok1.fieldAddr;(iterate 5 exact rfl))))<;>((apply A.tkG 9;(iterate 3 exact rfl);kernel_rfl;(apply Ok1.load;exact rfl;(apply Ld.row1 H;exact rfl;exact hS;(iterate 3 exact rfl)))))<;>(apply A.one 4;kernel_rfl;exact rfl;(((apply R.isG;apply R.guard_run;exact rfl;exact rfl;((apply R.callE (vs:=[.pointer (some ⟨y.bk,0,none⟩)]);(iterate 3 exact rfl);exact Ext.none _;intro w1 hw1;exact bytes_ok y.bk y.K (by rw [hyK];omega) w1 (KeyR.of hyo hw1 (fun q hq=>Ext.mem (by (focus ((repeat' (exact Ext.here _ _));done))) q (hyl q hq)));rintro v Lo ⟨oc,hoc,rfl,rfl⟩;rw [slV_eq hoc])))));apply R.nil;refine ⟨?_,?_⟩;(focus ((repeat' (exact trivial)))))<;>(apply A.one 10;kernel_rfl;exact rfl;(((apply R.isG;apply R.guard_run;exact rfl;exact rfl;((apply R.callV (vs:=[.slice (ovp oc) y.K.length (ovc oc y.K.length),.slice d.kp d.ks.length d.kc]);(iterate 3 exact rfl);intro w1 hw1;exact hsa (ovp oc) (ovc oc y.K.length) y.K hyK w1 (rdown hoc hw1 (Ext.mem (by (focus ((repeat' (exact Ext.here _ _));done))))) (hkd w1 hw1.chg))))));apply R.nil;refine ⟨?_,?_⟩;(focus ((repeat' (exact trivial)))))<;>((apply A.tkG 11;(iterate 3 exact rfl);kernel_rfl;(apply Ok1.not_t;exact rfl)))<;>(apply A.tk 12;exact rfl;kernel_rfl;(apply Ok1.pick_f;exact rfl;exact rfl))<;>(apply A.tk 13;exact rfl;kernel_rfl;(apply Ok1.assign;exact rfl))<;>(apply A.done;kernel_rfl)))|apply T.seq|apply T.region|apply T.block|apply T.skip|(apply T.cond_f;exact rfl)))
    all_goals skip
    all_goals refine ⟨?_⟩
    all_goals refine T.weakK (σ':=[(0,.pointer (some ⟨b,0,none⟩)),(1,.slice p z.dl.length cap),(6,.pointer (some ⟨b6,0,none⟩)),(7,.pointer (some ⟨b7,0,none⟩))]) (L':=(b7,.cells ⟨[.int .i64 n1,.int .i64 n2]⟩ 26 (0,0))::(b6,.cells ⟨[.int .i64 c.id,.int .i64 c.roles,.int .i64 c.exp,.int .i64 c.ser]⟩ 24 (0,0))::B0) ?_ (by (focus (repeat' first|exact Ext.one _ _|exact Ext.here _ _|apply Keep.cons|apply Keep.last|apply Ext.app);done)) ⟨rfl,rfl,rfl,rfl,trivial⟩
  all_goals repeat' ((apply T.is;first|(apply T.drawC (id:=11) [0,1] (by decide);(((apply A.tk 0;exact rfl;kernel_rfl;(apply Ok1.move;exact rfl));refine A.cast (listed':=#[true,false,false,false,false,false,false,false,false,false,false,false,false,false,false,false,false,false,false,false,false,false,false,false,false,false,false,false,false,false,false,false,false]) (by kernel_rfl) ?_)<;>((apply A.tk 2;exact rfl;kernel_rfl;(apply Ok1.move;exact rfl));refine A.cast (listed':=#[true,false,true,false,false,false,false,false,false,false,false,false,false,false,false,false,false,false,false,false,false,false,false,false,false,false,false,false,false,false,false,false,false]) (by kernel_rfl) ?_)<;>((apply A.tk 3;exact rfl;kernel_rfl;(apply Ok1.lenS;(iterate 3 exact rfl)));refine A.cast (listed':=#[true,false,true,true,false,false,false,false,false,false,false,false,false,false,false,false,false,false,false,false,false,false,false,false,false,false,false,false,false,false,false,false,false]) (by kernel_rfl) ?_)<;>(apply A.one 1;kernel_rfl;exact rfl;(((apply R.callE (Li:=B0) (vs:=[.pointer (some ⟨b,0,none⟩)]);(iterate 3 exact rfl);(focus (repeat' first|exact Ext.all _|apply Ext.cons);done);intro w1 hw1;exact hln w1;rintro v Lo ⟨rfl,hq⟩;rw [hq];clear hq)));apply R.nil;refine ⟨?_,?_⟩;(focus (repeat' first|exact trivial|exact At.head|apply At.tail|apply At.right|refine ⟨?_,?_⟩)))<;>(((apply A.tk 4;exact rfl;kernel_rfl;(apply Ok1.eql_t;exact rfl;exact rfl;omega)));refine A.cast (listed':=#[true,true,true,true,true,false,false,false,false,false,false,false,false,false,false,false,false,false,false,false,false,false,false,false,false,false,false,false,false,false,false,false,false]) (by kernel_rfl) ?_)<;>((apply A.tk 5;exact rfl;kernel_rfl;(apply Ok1.move;exact rfl));refine A.cast (listed':=#[true,true,true,true,true,true,false,false,false,false,false,false,false,false,false,false,false,false,false,false,false,false,false,false,false,false,false,false,false,false,false,false,false]) (by kernel_rfl) ?_)<;>(((apply A.tkG 6;(iterate 3 exact rfl);kernel_rfl;(apply Ok1.move;exact rfl)));refine A.cast (listed':=#[true,true,true,true,true,true,true,false,false,false,false,false,false,false,false,false,false,false,false,false,false,false,false,false,false,false,false,false,false,false,false,false,false]) (by kernel_rfl) ?_)<;>(((apply A.tkG 8;(iterate 3 exact rfl);kernel_rfl;(apply Ok1.move;exact rfl)));refine A.cast (listed':=#[true,true,true,true,true,true,true,false,true,false,false,false,false,false,false,false,false,false,false,false,false,false,false,false,false,false,false,false,false,false,false,false,false]) (by kernel_rfl) ?_)<;>(apply A.one 7;kernel_rfl;exact rfl;(((apply R.isG;apply R.guard_run;exact rfl;exact rfl;((apply R.callE (Li:=B0) (vs:=[.pointer (some ⟨b,0,none⟩)]);(iterate 3 exact rfl);(focus ((repeat' (exact Ext.here _ _));done));intro w1 hw1;exact hKn w1;rintro v Lo ⟨o1,ho1,rfl,rfl⟩;rw [slV_eq ho1,List.append_assoc])))));apply R.nil;refine ⟨?_,?_⟩;(focus (repeat' first|exact trivial|exact At.head|apply At.tail|apply At.right|refine ⟨?_,?_⟩)))<;>(apply A.one 9;kernel_rfl;exact rfl;(((apply R.isG;apply R.guard_run;exact rfl;exact rfl;((apply R.callE (vs:=[.slice p z.dl.length cap,.bool true]);(iterate 3 exact rfl);exact Ext.none _;intro w1 hw1;exact hoT w1 hw1.chg;rintro v Lo ⟨o2,ho2,rfl,rfl⟩;rw [slV_eq ho2])))));apply R.nil;refine ⟨?_,?_⟩;(focus (repeat' first|exact trivial|exact At.head|apply At.tail|apply At.right|refine ⟨?_,?_⟩)))<;>(apply A.one 10;kernel_rfl;exact rfl;(((apply R.isG;apply R.guard_run;exact rfl;exact rfl;((apply R.callV (vs:=[.slice (ovp o1) ck.length (ovc o1 ck.length),.slice (ovp o2) ck.length (ovc o2 ck.length)]);(iterate 3 exact rfl);intro w1 hw1;exact hsm ck hk1 _ _ _ _ w1 (RdSl.own' hw1 (Ext.mem (by (focus (repeat' first|exact Ext.here _ _|apply Ext.app);done))) ho1 Cl.v_len) (RdSl.own' hw1 (Ext.mem (by (focus ((repeat' (exact Ext.here _ _));done)))) ho2 Cl.v_len))))));apply R.nil;refine ⟨?_,?_⟩;(focus (repeat' first|exact trivial|exact At.head|apply At.tail|apply At.right|refine ⟨?_,?_⟩)))<;>((apply A.tk 11;exact rfl;kernel_rfl;(apply Ok1.pick_t;exact rfl;exact rfl));refine A.cast (listed':=#[true,true,true,true,true,true,true,true,true,true,true,true,false,false,false,false,false,false,false,false,false,false,false,false,false,false,false,false,false,false,false,false,false]) (by kernel_rfl) ?_)<;>((apply A.tk 12;exact rfl;kernel_rfl;(apply Ok1.move;exact rfl));refine A.cast (listed':=#[true,true,true,true,true,true,true,true,true,true,true,true,true,false,false,false,false,false,false,false,false,false,false,false,false,false,false,false,false,false,false,false,false]) (by kernel_rfl) ?_)<;>(((apply A.tkG 13;(iterate 3 exact rfl);kernel_rfl;(apply Ok1.move;exact rfl)));refine A.cast (listed':=#[true,true,true,true,true,true,true,true,true,true,true,true,true,true,false,false,false,false,false,false,false,false,false,false,false,false,false,false,false,false,false,false,false]) (by kernel_rfl) ?_)<;>(((apply A.tkG 15;(iterate 3 exact rfl);kernel_rfl;(apply Ok1.move;exact rfl)));refine A.cast (listed':=#[true,true,true,true,true,true,true,true,true,true,true,true,true,true,false,true,false,false,false,false,false,false,false,false,false,false,false,false,false,false,false,false,false]) (by kernel_rfl) ?_)<;>(apply A.one 14;kernel_rfl;exact rfl;(((apply R.isG;apply R.guard_run;exact rfl;exact rfl;((apply R.callE (Li:=B0) (vs:=[.pointer (some ⟨b,0,none⟩)]);(iterate 3 exact rfl);(focus (repeat' first|exact Ext.here _ _|apply Ext.app);done);intro w1 hw1;exact hWn w1;rintro v Lo ⟨o3,ho3,rfl,rfl⟩;rw [slV_eq ho3,List.append_assoc])))));apply R.nil;refine ⟨?_,?_⟩;(focus (repeat' first|exact trivial|exact At.head|apply At.tail|apply At.right|refine ⟨?_,?_⟩)))<;>(apply A.one 16;kernel_rfl;exact rfl;(((apply R.isG;apply R.guard_run;exact rfl;exact rfl;((apply R.callE (vs:=[.slice p z.dl.length cap,.bool false]);(iterate 3 exact rfl);exact Ext.none _;intro w1 hw1;exact hoF w1 hw1.chg;rintro v Lo ⟨o4,ho4,rfl,rfl⟩;rw [slV_eq ho4])))));apply R.nil;refine ⟨?_,?_⟩;(focus (repeat' first|exact trivial|exact At.head|apply At.tail|apply At.right|refine ⟨?_,?_⟩)))<;>(apply A.one 17;kernel_rfl;exact rfl;(((apply R.isG;apply R.guard_run;exact rfl;exact rfl;((apply R.callV (vs:=[.slice (ovp o3) cw.length (ovc o3 cw.length),.slice (ovp o4) cw.length (ovc o4 cw.length)]);(iterate 3 exact rfl);intro w1 hw1;exact hsm cw hk2 _ _ _ _ w1 (RdSl.own' hw1 (Ext.mem (by (focus (repeat' first|exact Ext.here _ _|apply Ext.app);done))) ho3 Cl.v_len) (RdSl.own' hw1 (Ext.mem (by (focus ((repeat' (exact Ext.here _ _));done)))) ho4 Cl.v_len))))));apply R.nil;refine ⟨?_,?_⟩;(focus (repeat' first|exact trivial|exact At.head|apply At.tail|apply At.right|refine ⟨?_,?_⟩)))<;>((apply A.tk 18;exact rfl;kernel_rfl;(apply Ok1.pick_t;exact rfl;exact rfl));refine A.cast (listed':=#[true,true,true,true,true,true,true,true,true,true,true,true,true,true,true,true,true,true,true,false,false,false,false,false,false,false,false,false,false,false,false,false,false]) (by kernel_rfl) ?_)<;>((apply A.tk 19;exact rfl;kernel_rfl;(apply Ok1.move;exact rfl));refine A.cast (listed':=#[true,true,true,true,true,true,true,true,true,true,true,true,true,true,true,true,true,true,true,true,false,false,false,false,false,false,false,false,false,false,false,false,false]) (by kernel_rfl) ?_)<;>(((apply A.tkG 20;(iterate 3 exact rfl);kernel_rfl;(apply Ok1.move;exact rfl)));refine A.cast (listed':=#[true,true,true,true,true,true,true,true,true,true,true,true,true,true,true,true,true,true,true,true,true,false,false,false,false,false,false,false,false,false,false,false,false]) (by kernel_rfl) ?_)<;>(((apply A.tkG 21;(iterate 3 exact rfl);kernel_rfl;(apply Ok1.load;exact rfl;(apply Ld.ownk;exact rfl;exact rfl;(focus (repeat' first|exact At.head|apply At.tail);done);exact rfl))));refine A.cast (listed':=#[true,true,true,true,true,true,true,true,true,true,true,true,true,true,true,true,true,true,true,true,true,true,false,false,false,false,false,false,false,false,false,false,false]) (by kernel_rfl) ?_)<;>(((apply A.tkG 23;(iterate 3 exact rfl);kernel_rfl;(apply Ok1.load;exact rfl;(apply Ld.ownk;exact rfl;exact rfl;exact At.head;exact rfl))));refine A.cast (listed':=#[true,true,true,true,true,true,true,true,true,true,true,true,true,true,true,true,true,true,true,true,true,true,false,true,false,false,false,false,false,false,false,false,false]) (by kernel_rfl) ?_)<;>(((apply A.tkG 26;(iterate 3 exact rfl);kernel_rfl;(apply Ok1.move;exact rfl)));refine A.cast (listed':=#[true,true,true,true,true,true,true,true,true,true,true,true,true,true,true,true,true,true,true,true,true,true,false,true,false,false,true,false,false,false,false,false,false]) (by kernel_rfl) ?_)<;>(((apply A.tkG 27;(iterate 3 exact rfl);kernel_rfl;(apply Ok1.load;exact rfl;(apply Ld.ownk;exact rfl;exact rfl;(focus (repeat' first|exact At.head|apply At.tail);done);exact rfl))));refine A.cast (listed':=#[true,true,true,true,true,true,true,true,true,true,true,true,true,true,true,true,true,true,true,true,true,true,false,true,false,false,true,true,false,false,false,false,false]) (by kernel_rfl) ?_)<;>(((apply A.tkG 28;(iterate 3 exact rfl);kernel_rfl;(apply Ok1.load;exact rfl;(apply Ld.ownk;exact rfl;exact rfl;exact At.head;exact rfl))));refine A.cast (listed':=#[true,true,true,true,true,true,true,true,true,true,true,true,true,true,true,true,true,true,true,true,true,true,false,true,false,false,true,true,true,false,false,false,false]) (by kernel_rfl) ?_)<;>(apply A.one 22;kernel_rfl;exact rfl;(((apply R.isG;apply R.guard_run;exact rfl;exact rfl;(apply R.callP rfl rfl rfl hto))));apply R.nil;refine ⟨?_,?_⟩;(focus (repeat' first|exact trivial|exact At.head|apply At.tail|apply At.right|refine ⟨?_,?_⟩)))<;>(apply A.one 24;kernel_rfl;exact rfl;(((apply R.isG;apply R.guard_run;exact rfl;exact rfl;(apply R.callP rfl rfl rfl hto2))));apply R.nil;refine ⟨?_,?_⟩;(focus (repeat' first|exact trivial|exact At.head|apply At.tail|apply At.right|refine ⟨?_,?_⟩)))<;>(apply A.one 25;kernel_rfl;exact rfl;(((apply R.isG;apply R.guard_run;exact rfl;exact rfl;((apply R.callE (Li:=B0) (vs:=[.pointer (some ⟨b,0,none⟩),.agg ⟨[.int .i64 c.id,.int .i64 c.roles,.int .i64 c.exp,.int .i64 c.ser]⟩,.agg ⟨[.int .i64 n1,.int .i64 n2]⟩]);(iterate 3 exact rfl);(focus (repeat' first|exact Ext.here _ _|apply Ext.app);done);intro w1 hw1;exact hlk w1;rintro v Lo ⟨rfl,hq⟩;rw [hq];clear hq)))));apply R.nil;refine ⟨?_,?_⟩;(focus (repeat' first|exact trivial|exact At.head|apply At.tail|apply At.right|refine ⟨?_,?_⟩)))<;>(apply A.one 29;kernel_rfl;exact rfl;(((apply R.isG;apply R.guard_run;exact rfl;exact rfl;((apply R.callV (vs:=[.slice p z.dl.length cap,.agg ⟨[.int .i64 c.id,.int .i64 c.roles,.int .i64 c.exp,.int .i64 c.ser]⟩,.agg ⟨[.int .i64 n1,.int .i64 n2]⟩]);(iterate 3 exact rfl);intro w1 hw1;exact hvl w1 hw1.chg)))));apply R.nil;refine ⟨?_,?_⟩;(focus (repeat' first|exact trivial|exact At.head|apply At.tail|apply At.right|refine ⟨?_,?_⟩)))<;>(((apply A.tkG 30;(iterate 3 exact rfl);kernel_rfl;(apply Ok1.eql_t;exact rfl;exact rfl;omega)));refine A.cast (listed':=#[true,true,true,true,true,true,true,true,true,true,true,true,true,true,true,true,true,true,true,true,true,true,true,true,true,true,true,true,true,true,true,false,false]) (by kernel_rfl) ?_)<;>((apply A.tk 31;exact rfl;kernel_rfl;(apply Ok1.pick_t;exact rfl;exact rfl));refine A.cast (listed':=#[true,true,true,true,true,true,true,true,true,true,true,true,true,true,true,true,true,true,true,true,true,true,true,true,true,true,true,true,true,true,true,true,false]) (by kernel_rfl) ?_)<;>((apply A.tk 32;exact rfl;kernel_rfl;(apply Ok1.assign;exact rfl));refine A.cast (listed':=#[true,true,true,true,true,true,true,true,true,true,true,true,true,true,true,true,true,true,true,true,true,true,true,true,true,true,true,true,true,true,true,true,true]) (by kernel_rfl) ?_)<;>(apply A.done;kernel_rfl)))|apply T.seq|apply T.ret))
  all_goals skip
  all_goals (apply RetOk.t;exact rfl)
  all_goals exact ⟨_,by (focus (repeat' first|exact Ext.here _ _|apply Keep.last);done),rfl,rfl⟩
end
end Go.Proofs.Ytijbmkjebidanaa
set_option linter.unusedSimpArgs false
set_option linter.unusedVariables false
namespace Go.Proofs.Ytijbmkjebidanaa
open Go.RowKit Go.Shelf Go.Sort
set_option maxRecDepth 100000
section
variable {X:Cx} {σ:Env} {L:Lst} {ty t:TypeId} {pos:String} {af:Array Edge} {x:Operand} {r re:TRow} {e:TypeId}
theorem Ok1.preRC {hi:Operand} {p:Option Addr} {n cap i:Nat} {m:Int} {d:Option Nat} {g:Option (Nat × Bool)} (ht:X.tb.row t=some r) (hk:r.k = .slice e) (he:X.tb.row e=some re) (hx:ev σ x=some (.slice p n cap)) (hh:ev σ hi=some (.int .i64 m)) (hm:m=(i:Int)) (h1:i≤cap) :
    Ok1 X ⟨d,.slice t x none (some hi) none,ty,pos,af,g⟩ σ L (.slice p i cap):=by
  subst hm;exact Ok1.preR ht hk he hx hh h1
end
def oneC (c:Cl) (blk born:Nat) (asked:Int):BS:=[⟨c,blk,born,⟨0,0,0,none,asked⟩⟩]
def kc5C:Cl:=⟨5,0,0,1⟩
theorem want5C (b bm:Nat) (w:World):CallM Try.prog 8 [.pointer (some ⟨b,0,none⟩),kvC kc5C,.int .i64 5] (BL b bm [] 0) w fun v L=>v = .int .i64 0∧∃ blk,L=BL b bm (oneC kc5C blk 0 5) 1:=by
  have hw:wante [] kc5C=0:=by decide
  refine (Want_ok b bm [] 0 kc5C 5 w).imp ?_
  rintro v L ⟨rfl,h⟩
  rw [hw] at h ⊢
  rcases h with ⟨h,_⟩|⟨_,blk,rfl⟩
  · exact absurd rfl h
  · exact ⟨rfl,blk,rfl⟩
theorem due5C (b bm blk:Nat) (asked tick:Int) (n:Nat) (a:Int) (hn:(asked≤tick - 8∧n=1∧a=tick) ∨ (¬ asked≤tick - 8∧n=0∧a=asked)) (ht:0≤tick) (ht2:tick≤1073741824) (w:World) :
    CallM Try.prog 10 [.pointer (some ⟨b,0,none⟩),.int .i64 tick] (BL b bm (oneC kc5C blk 0 asked) 1) w fun v L=>∃ ov xs,OvOk 4 ov n xs∧v=slV ov n∧L=blkL 34 ov xs++BL b bm (oneC kc5C blk 0 a) 1:=by
  have hwf:MWf (bms (oneC kc5C blk 0 asked),1):=⟨by simp [bms,oneC],by simp [bms,oneC],by simp [bms,oneC,mkeys]⟩
  refine (dueB_ok b bm (oneC kc5C blk 0 asked) 1 hwf (by simp [oneC]) tick ht ht2 w).imp ?_
  rintro v L ⟨ov,cs,h1,h2,h3,rfl,rfl⟩
  rcases hn with ⟨hd,rfl,rfl⟩|⟨hd,rfl,rfl⟩
  · have hcs:cs=[kc5C]:=by
      have:((oneC kc5C blk 0 asked).filter fun x=>isDue a x.e).map BE.c=[kc5C]:=by simp [oneC,isDue,hd]
      rw [this] at h1
      exact List.perm_singleton.1 h1
    subst hcs
    exact ⟨ov,_,h3,rfl,by simp [dueS,oneC]⟩
  · have hcs:cs=[]:=by
      have:((oneC kc5C blk 0 a).filter fun x=>isDue tick x.e).map BE.c=[]:=by simp [oneC,isDue,hd]
      rw [this] at h1
      exact List.perm_nil.1 h1
    subst hcs
    exact ⟨ov,_,h3,rfl,by simp [dueS,oneC]⟩
theorem known15C_ok:CallP Try.prog 23 [] (.bool true):=by
  refine enterP (tb:=tb) Try.func23 rfl Try.ntmps23 rfl fun w=>?_
  repeat' (first|(apply R.is1;first|(apply R.isBin;(apply R.pure;exact rfl;(apply Ok1.eql_t;exact rfl;exact rfl;omega)))|(apply R.isCall;first|(apply R.callE;(iterate 3 exact rfl);exact Ext.none _;intro w1 hw1;exact New_ok w1;rintro v Lo ⟨b,bm,rfl,rfl⟩)|(apply R.callE;(iterate 3 exact rfl);(focus (exact Ext.cons _ (Ext.here _ _)));intro w1 hw1;exact want5C b bm w1;rintro v Lo ⟨rfl,blk,rfl⟩)|(apply R.callE;(iterate 3 exact rfl);(focus (exact Ext.here _ _));intro w1 hw1;exact due5C b bm blk 5 12 0 5 (by decide) (by decide) (by decide) w1;rintro v Lo ⟨ov1,x1,g1,rfl,rfl⟩;simp only [List.append_assoc])|(apply R.callE;(iterate 3 exact rfl);(focus (exact Ext.app _ (Ext.here _ _)));intro w1 hw1;exact due5C b bm blk 5 13 1 13 (by decide) (by decide) (by decide) w1;rintro v Lo ⟨ov2,x2,g2,rfl,rfl⟩;simp only [List.append_assoc])|(apply R.callE;(iterate 3 exact rfl);(focus (exact Ext.app _ (Ext.here _ _)));intro w1 hw1;exact due5C b bm blk 13 20 0 13 (by decide) (by decide) (by decide) w1;rintro v Lo ⟨ov3,x3,g3,rfl,rfl⟩;simp only [List.append_assoc])|(apply R.callE;(iterate 3 exact rfl);(focus (exact Ext.app _ (Ext.here _ _)));intro w1 hw1;exact due5C b bm blk 13 21 1 21 (by decide) (by decide) (by decide) w1;rintro v Lo ⟨ov4,x4,g4,rfl,rfl⟩;simp only [List.append_assoc])|(apply R.pure;exact rfl;apply Ok1.lenOv;(iterate 3 exact rfl);exact g1)|(apply R.pure;exact rfl;apply Ok1.lenOv;(iterate 3 exact rfl);exact g2)|(apply R.pure;exact rfl;apply Ok1.lenOv;(iterate 3 exact rfl);exact g3)|(apply R.pure;exact rfl;apply Ok1.lenOv;(iterate 3 exact rfl);exact g4))|(apply R.pure;exact rfl;first|(apply Ok1.move;exact rfl)|(apply Ok1.load;exact rfl;(apply Ld.ownk;exact rfl;exact rfl;exact At.head;exact rfl))|(apply Ok1.assign;exact rfl)|(apply Ok1.build;(iterate 5 exact rfl))|(apply Ok1.pick_t;exact rfl;exact rfl))|(apply R.alloc;(iterate 3 exact rfl);intro))|(apply R.is0;(apply R.store;(iterate 6 exact rfl);exact Upd.head;exact rfl))|(apply R.isG;(apply R.guard_run;exact rfl;exact rfl))|apply R.nil|(apply T.is;first|apply T.seq|apply T.region|apply T.ret))
  all_goals (apply RetOk.t;exact rfl)
  all_goals rfl
/-- A call. -/
structure AC where
  k:Int
  t:Int
  c:Cl
  p:Option Addr
  cap:Nat
  xs:List Int
  n1:Int
  n2:Int
def AC.v (x:AC):List Value:=[.int .i64 x.k,.int .i64 x.t,.int .i64 x.c.id,.int .i64 x.c.roles,.int .i64 x.c.exp,.int .i64 x.c.ser,.slice x.p x.xs.length x.cap,.int .i64 x.n1,.int .i64 x.n2]
theorem AC.v_len (x:AC):x.v.length=9:=rfl
structure AC.okR (w:World) (x:AC):Prop where
  rd:RdSl w x.p u8V x.xs
  cap:x.xs.length≤x.cap
theorem tells_at {N:Nat} {z:CZ} (hz:z.ok N) (hN:N≤1000) (b bm:Nat) (c:Cl) (n1 n2:Int) {w0 w:World} {S:List Nat} {L Lr:Lst} (hw:Hp w0 S L w) (he:Ext L (BL b bm z.es z.clk) Lr) (h1:∀ q∈blkL 56 z.ov (fl DC.v z.dl),q∈Lr) (h2:∀ q∈z.KB,q∈Lr) :
    CallM Try.prog 22 [.pointer (some ⟨b,0,none⟩),.slice (ovp z.ov) z.dl.length (ovc z.ov z.dl.length),kvC c,.agg ⟨[.int .i64 n1,.int .i64 n2]⟩] (BL b bm z.es z.clk) w fun v L=>v = .bool true∧L=BL b bm z.es z.clk:=by
  have hin:∀ q∈Lr,q∈L:=fun q hq=>he.perm.subset (List.mem_append_right _ hq)
  refine tells15_ok b bm N z c n1 n2 _ _ w hN hz (RdSl.own' hw (fun q hq=>hin q (h1 q hq)) hz.ov DC.v_len) (fun _=>ovoff hw he h1) ?_ ?_
  · intro d hd w1 hc
    obtain ⟨e,_,_,hr⟩:=hz.rel d hd
    obtain ⟨o1,a1,a2,a3,a4⟩:=hr.ksl
    obtain ⟨o2,b1,b2,b3,b4⟩:=hr.tsl
    rw [a1,b1]
    exact ⟨(rdown a3 hw (fun q hq=>hin q (h2 q (a4 q hq)))).chg' hc fun _=>ovoff hw he fun q hq=>h2 q (a4 q hq),(RdSl.own' hw (fun q hq=>hin q (h2 q (b4 q hq))) b3 nV_len).chg' hc fun _=>ovoff hw he fun q hq=>h2 q (b4 q hq)⟩
  · intro y hy hq
    exact KeyR.stay7 hy hw he fun q h=>h2 q (hq q h)
/-- The state in memory. -/
def CZ.M (z:CZ) (b bm:Nat):Lst:=BL b bm z.es z.clk++(blkL 56 z.ov (fl DC.v z.dl)++z.KB)
end Go.Proofs.Ytijbmkjebidanaa
set_option linter.unusedSimpArgs false
set_option linter.unusedVariables false
namespace Go.Proofs.Ytijbmkjebidanaa
open Go.RowKit Go.Shelf Go.Sort
set_option maxRecDepth 100000
section
variable {N:Nat} {z:CZ} (hz:z.ok N) (b bm:Nat) (c:Cl) (tick:Int)
theorem wantZ (hz:z.ok N) :
    (∃ E:Int,(∀ w1,CallM Try.prog 8 [.pointer (some ⟨b,0,none⟩),kvC c,.int .i64 tick] (BL b bm z.es z.clk) w1 fun v L=>v = .int .i64 E∧L=BL b bm z.es z.clk)∧∀ p cap w1,RdSl w1 p DC.v z.dl→CallW Try.prog 7 [.slice p z.dl.length cap,kvC c,.int .i64 tick] w1 fun v _=>v = .tuple #[.slice p z.dl.length cap,.int .i64 E]) ∨
    (z.dl.length < 16∧c.right∧posQ z.dl c = -1∧c ∉ z.es.map BE.c∧∀ w1,CallM Try.prog 8 [.pointer (some ⟨b,0,none⟩),kvC c,.int .i64 tick] (BL b bm z.es z.clk) w1 fun v L=>v = .int .i64 0∧∃ blk,L=BL b bm (z.es++[⟨c,blk,z.clk,⟨0,0,0,none,tick⟩⟩]) (z.clk+1)):=by
  have hlen:=hz.len
  have hel:=hz.elen
  have hno:∀ E:Int,E≠0→wante z.es c=E→∀ w1,CallM Try.prog 8 [.pointer (some ⟨b,0,none⟩),kvC c,.int .i64 tick] (BL b bm z.es z.clk) w1 fun v L=>v = .int .i64 E∧L=BL b bm z.es z.clk:=fun E hE he w1=>by
    refine (Want_ok b bm z.es z.clk c tick w1).imp ?_
    rintro v L ⟨rfl,h⟩
    rw [he] at h ⊢
    rcases h with ⟨_,rfl⟩|⟨h,_⟩
    · exact ⟨rfl,rfl⟩
    · exact absurd h hE
  by_cases hr:c.right
  case neg =>
    exact .inl ⟨10,hno 10 (by decide) (by unfold wante;rw [if_pos hr]),fun p cap w1 hp=>vwantQ_no p cap z.dl c tick (by omega) w1 hp 10 (.inl ⟨hr,rfl⟩)⟩
  rcases hz.find c with ⟨h1,h2,h3⟩|⟨j,d,i,e,h1,h2,h3,h4,h5,h6⟩
  · by_cases hl:z.dl.length=16
    · exact .inl ⟨6,hno 6 (by decide) (by unfold wante;rw [if_neg (fun g=>g hr),bget_none h3];exact if_pos (by omega)),fun p cap w1 hp=>vwantQ_no p cap z.dl c tick (by omega) w1 hp 6 (.inr (.inr ⟨hr,h2,by omega,rfl⟩))⟩
    · refine .inr ⟨by omega,hr,h2,h3,fun w1=>?_⟩
      have he:wante z.es c=0:=by unfold wante;rw [if_neg (fun g=>g hr),bget_none h3];exact if_neg (by omega)
      refine (Want_ok b bm z.es z.clk c tick w1).imp ?_
      rintro v L ⟨rfl,h⟩
      rw [he] at h ⊢
      rcases h with ⟨h,_⟩|⟨_,h⟩
      · exact absurd rfl h
      · exact ⟨rfl,h⟩
  · have hm:=bget_some hz.nd h4
    rw [h5] at hm
    exact .inl ⟨8,hno 8 (by decide) (by unfold wante;rw [if_neg (fun g=>g hr),hm]),fun p cap w1 hp=>vwantQ_no p cap z.dl c tick (by omega) w1 hp 8 (.inr (.inl ⟨hr,by omega,rfl⟩))⟩
theorem dueZ (hz:z.ok N) (ht:0≤tick) (ht2:tick≤1073741824) (w1:World):CallM Try.prog 10 [.pointer (some ⟨b,0,none⟩),.int .i64 tick] (BL b bm z.es z.clk) w1 fun v L=>∃ ov,OvOk 4 ov ((z.dl.filter (dueD tick)).map DC.c).length (fl Cl.v ((z.dl.filter (dueD tick)).map DC.c))∧v=slV ov ((z.dl.filter (dueD tick)).map DC.c).length∧L=blkL 34 ov (fl Cl.v ((z.dl.filter (dueD tick)).map DC.c))++BL b bm (dueS tick ((z.dl.filter (dueD tick)).map DC.c) z.es) z.clk:=by
  have hlen:=hz.len
  have hel:=hz.elen
  refine (dueB_ok b bm z.es z.clk hz.wf (by omega) tick ht ht2 w1).imp ?_
  rintro v L ⟨ov,cs,h1,h2,h3,h4,h5⟩
  have:=hz.same (isDue tick) (dueD tick) (fun d x h=>by
    unfold isDue dueD
    rw [h.ask]
    have e:decide (d.asked≤tick - 8)=decide (8≤tick - d.asked):=by
      rw [decide_eq_decide];omega
    rw [e]
    cases hk:d.kn with
    | false=>rw [(h.no hk).1];rfl
    | true=>obtain ⟨y,hy,_⟩:=h.yes hk;rw [hy];rfl) h1 h2
  rw [this] at h3 h4 h5
  exact ⟨ov,h3,h4,h5⟩
theorem takeZ (hz:z.ok N) (hN:N≤1000) (n1 n2:Int):∃ E:Int,(∀ p cap w1,RdSl w1 p DC.v z.dl→(∀ d∈z.dl,RdSl w1 d.tp nV d.tk)→CallW Try.prog 15 [.slice p z.dl.length cap,kvC c,.agg ⟨[.int .i64 n1,.int .i64 n2]⟩] w1 fun v _=>v = .int .i64 E) ∧
    ((E≠0∧0≤E∧E≤100∧∀ w1,CallM Try.prog 16 [.pointer (some ⟨b,0,none⟩),kvC c,.agg ⟨[.int .i64 n1,.int .i64 n2]⟩] (BL b bm z.es z.clk) w1 fun v L=>v = .int .i64 E∧L=BL b bm z.es z.clk) ∨
     (E=0∧∃ (j:Nat) (d:DC) (i:Nat) (e:BE),z.dl[j]? = some d∧d.c=c∧posQ z.dl c=j∧z.es[i]? = some e∧e.c=c∧RelC z.KB N d e.e∧d.kn=true∧NRc n1 n2∧lookC e.e n1 n2=0∧∀ w1,CallM Try.prog 16 [.pointer (some ⟨b,0,none⟩),kvC c,.agg ⟨[.int .i64 n1,.int .i64 n2]⟩] (BL b bm z.es z.clk) w1 fun v L=>v = .int .i64 0∧L=BL b bm (setE6 z.es i e (takeC e.e n1 n2)) z.clk)):=by
  have hlen:=hz.len
  rcases hz.find c with ⟨h1,h2,h3⟩|⟨j,d,i,e,h1,h2,h3,h4,h5,h6⟩
  · exact ⟨7,fun p cap w1 hp _=>vlook15_none p cap z.dl (by omega) c n1 n2 w1 hp h1,.inl ⟨by decide,by decide,by decide,fun w1=>takeB_none b bm z.es z.clk c h3 n1 n2 w1⟩⟩
  · have hnum := h6.num
    refine ⟨lookX e.e n1 n2,fun p cap w1 hp ht=>?_,?_⟩
    · rw [look_same h6]
      exact vlook15_at p cap z.dl (by omega) c n1 n2 w1 hp j d h1 h3 (by omega) h6.win.rt (ht d (List.mem_of_getElem? h1))
    · have htk:=fun w1=>takeB_at b bm z.es z.clk h4 hz.nd h6.ctr n1 n2 w1
      rw [h5] at htk
      by_cases h0:lookX e.e n1 n2=0
      · right
        have hkn:d.kn=true:=by
          cases hk:d.kn with
          | true=>rfl
          | false =>
            unfold lookX at h0
            rw [if_pos (h6.no hk).1] at h0
            cases h0
        obtain ⟨y,hy,_⟩:=h6.yes hkn
        have hne:¬ e.e.key=none:=by rw [hy];simp
        have hN9:NRc n1 n2:=by
          refine Decidable.byContradiction fun g=>?_
          unfold lookX lookE at h0
          rw [if_neg hne,if_neg g] at h0
          cases h0
        have hl0:lookC e.e n1 n2=0:=by
          unfold lookX lookE at h0
          rwa [if_neg hne,if_pos hN9] at h0
        refine ⟨h0,j,d,i,e,h1,h2,h3,h4,h5,h6,hkn,hN9,hl0,fun w1=>?_⟩
        have:=htk w1
        rw [h0] at this
        unfold takeX at this
        rwa [if_neg hne,if_pos hN9] at this
      · left
        have hE:0≤lookX e.e n1 n2∧lookX e.e n1 n2≤100:=by
          unfold lookX lookE lookC
          repeat' split
          all_goals omega
        refine ⟨h0,hE.1,hE.2,fun w1=>?_⟩
        have hX:takeX e.e n1 n2=e.e:=by
          unfold takeX
          split
          · rfl
          · rename_i hne
            split
            · rename_i hN9
              unfold takeC
              rw [if_pos]
              intro g
              exact h0 (by unfold lookX lookE;rw [if_neg hne,if_pos hN9];exact g)
            · rfl
        have:=htk w1
        rw [hX,setE6_same z.es h4] at this
        exact this
theorem putZ (hz:z.ok N):((∀ bk w1,CallM Try.prog 12 [.pointer (some ⟨b,0,none⟩),kvC c,.pointer (some ⟨bk,0,none⟩)] (BL b bm z.es z.clk) w1 fun v L=>v = .int .i64 7∧L=BL b bm z.es z.clk)∧∀ p cap kp kn kc w1,RdSl w1 p DC.v z.dl→CallW Try.prog 14 [.slice p z.dl.length cap,kvC c,.slice kp kn kc] w1 fun v _=>v = .int .i64 7) ∨
    (∃ (j:Nat) (d:DC) (i:Nat) (e:BE),z.dl[j]? = some d∧d.c=c∧posQ z.dl c=j∧z.es[i]? = some e∧e.c=c∧RelC z.KB N d e.e∧d.kn=false∧∀ bk (K:List Int),K.length≤40→∀ w1,(∀ w2,Chg (blks (BL b bm z.es z.clk)) w1 w2→KeyR w2 bk K)→CallM Try.prog 12 [.pointer (some ⟨b,0,none⟩),kvC c,.pointer (some ⟨bk,0,none⟩)] (BL b bm z.es z.clk) w1 fun v L=>v = .int .i64 0∧∃ y:KE,y.K=K∧y.ok∧L=y.L++BL b bm (setE6 z.es i e ⟨e.e.boot,e.e.ctr,e.e.bits,some ⟨y.bk,0,none⟩,e.e.asked⟩) z.clk):=by
  have hlen:=hz.len
  rcases hz.find c with ⟨h1,h2,h3⟩|⟨j,d,i,e,h1,h2,h3,h4,h5,h6⟩
  · exact .inl ⟨fun bk w1=>putB_none b bm z.es z.clk c h3 bk w1,fun p cap kp kn kc w1 hp=>vputQ_no p cap z.dl (by omega) c _ ⟨kp,kn,kc,rfl⟩ w1 hp (.inl h2)⟩
  · cases hk:d.kn with
    | true =>
      obtain ⟨y,hy,_⟩:=h6.yes hk
      exact .inl ⟨fun bk w1=>h5 ▸ putB_has b bm z.es z.clk h4 hz.nd _ hy bk w1,fun p cap kp kn kc w1 hp=>vputQ_no p cap z.dl (by omega) c _ ⟨kp,kn,kc,rfl⟩ w1 hp (.inr ⟨j,d,h3,h1,hk⟩)⟩
    | false =>
      exact .inr ⟨j,d,i,e,h1,h2,h3,h4,h5,h6,hk,fun bk K hK w1 hc=>h5 ▸ putB_ok b bm z.es z.clk h4 hz.nd (h6.no hk).1 bk K (by omega) w1 hc⟩
theorem onlyZ (hz:z.ok N) (t:Int) (p:Option Addr) (cap:Nat) (w1:World) (hp:RdSl w1 p Cl.v ((z.dl.filter fun d=>decide (d.c.id≠t)).map DC.c)) (hq:(z.dl.filter fun d=>decide (d.c.id≠t)).map DC.c≠[]→Off p (blks (BL b bm z.es z.clk))) :
    CallM Try.prog 21 [.pointer (some ⟨b,0,none⟩),.slice p ((z.dl.filter fun d=>decide (d.c.id≠t)).map DC.c).length cap] (BL b bm z.es z.clk) w1 fun v L=>∃ ov,OvOk 4 ov ((z.dl.filter fun d=>decide (d.c.id=t)).map DC.c).length (fl Cl.v ((z.dl.filter fun d=>decide (d.c.id=t)).map DC.c))∧v=slV ov ((z.dl.filter fun d=>decide (d.c.id=t)).map DC.c).length∧L=blkL 34 ov (fl Cl.v ((z.dl.filter fun d=>decide (d.c.id=t)).map DC.c))++BL b bm (z.es.filter fun x=>decide (x.c.id≠t)) z.clk:=by
  have hlen:=hz.len
  have hel:=hz.elen
  have hmem:∀ q∈z.es.map BE.c,(q∈(z.dl.filter fun d=>decide (d.c.id≠t)).map DC.c ↔ q.id≠t):=by
    intro q hq
    have hq2:=hz.perm.mem_iff.2 hq
    obtain ⟨d,hd,rfl⟩:=List.mem_map.1 hq2
    constructor
    · intro h
      obtain ⟨d2,hd2,he⟩:=List.mem_map.1 h
      have:=(List.mem_filter.1 hd2).2
      rw [← he]
      simpa using this
    · intro h
      exact List.mem_map_of_mem (List.mem_filter.2 ⟨hd,by simpa using h⟩)
  refine (onlyB_ok b bm z.es z.clk hz.wf (by omega) p cap _ ?_ w1 hp hq).imp ?_
  · rw [List.length_map]
    have:=List.length_filter_le (fun d=>decide (d.c.id≠t)) z.dl
    omega
  · rintro v L ⟨ov,gs,h1,h2,h3,h4,h5⟩
    have e1:(z.es.map BE.c).filter (fun q=>!decide (q∈(z.dl.filter fun d=>decide (d.c.id≠t)).map DC.c))=(z.es.map BE.c).filter fun q=>decide (q.id=t):=by
      refine List.filter_congr fun q hq=>?_
      have:=hmem q hq
      by_cases h:q.id=t
      · rw [decide_eq_false (fun g=>(this.1 g) h),decide_eq_true h];rfl
      · rw [decide_eq_true (this.2 h),decide_eq_false h];rfl
    have e2:(z.es.filter fun x=>decide (x.c∈(z.dl.filter fun d=>decide (d.c.id≠t)).map DC.c))=z.es.filter fun x=>decide (x.c.id≠t):=by
      refine List.filter_congr fun x hx=>?_
      rw [decide_eq_decide]
      exact hmem x.c (List.mem_map_of_mem hx)
    rw [e1] at h1
    rw [e2] at h5
    have hg:gs=(z.dl.filter fun d=>decide (d.c.id=t)).map DC.c:=by
      have e3:(z.dl.filter fun d=>decide (d.c.id=t)).map DC.c=(z.dl.map DC.c).filter fun q=>decide (q.id=t):=by rw [List.filter_map];rfl
      rw [e3]
      refine sortedC_one7 h1 (hz.perm.filter _) h2 ?_
      rw [asc_iff]
      exact hz.asc.sublist List.filter_sublist
    rw [hg] at h3 h4 h5
    exact ⟨ov,h3,h4,h5⟩
end
end Go.Proofs.Ytijbmkjebidanaa
set_option linter.unusedSimpArgs false
set_option linter.unusedVariables false
namespace Go.Proofs.Ytijbmkjebidanaa
open Go.RowKit Go.Shelf Go.Sort
set_option maxRecDepth 100000
theorem nV_one (p:Int × Int):(nV p).all Value.oneCell'=true:=rfl
theorem OvOk.set8 {ov:Ov} {dl dl2:List DC} (h:OvOk 8 ov dl.length (fl DC.v dl)) (hl:dl2.length=dl.length):OvOk 8 ov dl.length (fl DC.v dl2):=by
  refine ⟨?_,h.2⟩
  rw [fl_len DC.v_len,hl]
theorem RelC.put {KB KB2:Lst} {N N2:Nat} {d:DC} {x:En} (h:RelC KB N d x) (hk:∀ q∈KB,q∈KB2) (hn:N≤N2) (y:KE) (K:List Int) (hyK:y.K=K) (hyo:y.ok) (hy:∀ q∈y.L,q∈KB2) (hK:K.length≤40) (ov:Ov) (hov:OvOk 1 ov K.length (u8s K)) (hb:∀ q∈blkL 5 ov (u8s K),q∈KB2) :
    RelC KB2 N2 ⟨d.c,true,d.asked,K,ovp ov,ovc ov K.length,d.tk,d.tp,d.tc⟩ ⟨x.boot,x.ctr,x.bits,some ⟨y.bk,0,none⟩,x.asked⟩:=by
  obtain ⟨h1,h2,⟨w1,w2,w3⟩,h4,h5,h6,h7,h8,⟨o2,b1,b2,b3,b4⟩⟩:=h
  exact ⟨h1,h2,⟨w1,w2,w3⟩,by simp only;omega,fun g=>(by cases g),fun _=>⟨y,rfl,hyK,hyo,hy⟩,hK,⟨ov,rfl,rfl,hov,hb⟩,⟨o2,b1,b2,b3,fun q hq=>hk q (b4 q hq)⟩⟩
theorem takeC_key (x:En) (a b:Int):(takeC x a b).key=x.key∧(takeC x a b).asked=x.asked:=by
  unfold takeC
  repeat' split
  all_goals exact ⟨rfl,rfl⟩
theorem RelC.take {KB KB2:Lst} {N N2:Nat} {d:DC} {x:En} (h:RelC KB N d x) (hk:∀ q∈KB,q∈KB2) (hn:N < N2) {a b:Int} (hkn:d.kn=true) (hN:NRc a b) (h0:lookC x a b=0) (ov:Ov) (hov:OvOk 2 ov (d.tk++[(a,b)]).length (fl nV (d.tk++[(a,b)]))) (hb:∀ q∈blkL 26 ov (fl nV (d.tk++[(a,b)])),q∈KB2) :
    RelC KB2 N2 ⟨d.c,d.kn,d.asked,d.ks,d.kp,d.kc,d.tk++[(a,b)],ovp ov,ovc ov (d.tk++[(a,b)]).length⟩ (takeC x a b):=by
  have hw:=win_take h.win hN h0
  obtain ⟨t1,t2⟩:=takeC_key x a b
  obtain ⟨h1,h2,h3,h4,h5,h6,h7,⟨o1,a1,a2,a3,a4⟩,h9⟩:=h
  refine ⟨by rw [t2];exact h1,h2,hw,?_,fun g=>?_,fun g=>?_,h7,⟨o1,a1,a2,a3,fun q hq=>hk q (a4 q hq)⟩,⟨ov,rfl,rfl,hov,hb⟩⟩
  · simp only [List.length_append,List.length_cons,List.length_nil];omega
  · rw [hkn] at g;cases g
  · obtain ⟨y,c1,c2,c3,c4⟩:=h6 g
    exact ⟨y,by rw [t1];exact c1,c2,c3,fun q hq=>hk q (c4 q hq)⟩
end Go.Proofs.Ytijbmkjebidanaa
set_option linter.unusedSimpArgs false
set_option linter.unusedVariables false
namespace Go.Proofs.Ytijbmkjebidanaa
open Go.RowKit Go.Shelf Go.Sort
set_option maxRecDepth 100000
theorem cachePlays_ok (pl:Option Addr) (cl:Nat) (ls:List AC) (c:Cl) (n1 n2:Int) (w:World) (hls:RdSl w pl AC.v ls) (hlo:∀ x∈ls,x.okR w) :
    CallW Try.prog 3 [.slice pl ls.length cl,kvC c,.agg ⟨[.int .i64 n1,.int .i64 n2]⟩] w fun v _=>v = .bool true:=by
  have hkn:=known15C_ok
  have htl:=fun {N:Nat} {z:CZ} (hz:z.ok N) (hN:N≤1000) (b bm:Nat) {w1:World} {L Lr:Lst} (hw:Hp w [] L w1) (he:Ext L (BL b bm z.es z.clk) Lr) h1 h2=>tells_at hz hN b bm c n1 n2 hw he h1 h2
  simp only [kvC] at htl
  refine enterW (tb:=tb) Try.func3 rfl Try.ntmps3 rfl ?_
  simp only [kvC]
  repeat' (first|(apply R.is1;first|(apply R.isBin;(apply R.pure;exact rfl;(apply Ok1.eqlP;(iterate 5 exact rfl))))|(apply R.isCall;(apply R.callE;(iterate 3 exact rfl);exact Ext.none _;intro w1 hw1;exact New_ok w1;rintro v Lo ⟨b,bm,rfl,rfl⟩))|(apply R.pure;exact rfl;first|(apply Ok1.move;exact rfl)|(apply Ok1.assign;exact rfl))|(apply R.box;(iterate 3 exact rfl);intro))|apply R.nil|(apply T.is;first|(apply T.stop 5)|apply T.seq|apply T.region|apply T.skip|(apply T.cond_f;exact rfl)))
  rename_i b4 b5
  refine ⟨?_⟩
  refine T.meetK (α:=Nat × CZ) (I:=fun y=>y.1≤50∧y.2.ok y.1) (σi:=fun y=>[(0,.slice pl ls.length cl),(4,.pointer (some ⟨b4,0,none⟩)),(5,.pointer (some ⟨b5,0,none⟩)),(7,.pointer (some ⟨b,0,none⟩)),(8,slV y.2.ov y.2.dl.length)]) (Li:=fun y=>(b5,.cells ⟨[.int .i64 n1,.int .i64 n2]⟩ 26 (0,0))::(b4,.cells ⟨[.int .i64 c.id,.int .i64 c.roles,.int .i64 c.exp,.int .i64 c.ser]⟩ 24 (0,0))::y.2.M b bm) ?_ ?_
  case refine_2 =>
    rintro ⟨i,z⟩ ⟨hi,hz⟩
    simp only at hi hz ⊢
    have htl:=fun {w1:World} {L Lr:Lst}=>@htl _ z hz (by omega) b bm w1 L Lr
    rw [slV_eq hz.ov]
    simp only [CZ.M]
    generalize blkL 56 z.ov (fl DC.v z.dl)=MB at *
    generalize BL b bm z.es z.clk=B0 at *
    repeat' (first|(apply R.is1;first|(apply R.isCall;first|apply R.callP rfl rfl rfl hkn|(apply R.callE (Li:=B0) (vs:=[.pointer (some ⟨b,0,none⟩),.slice (ovp z.ov) z.dl.length (ovc z.ov z.dl.length),.agg ⟨_⟩,.agg ⟨_⟩]);(iterate 3 exact rfl);(focus (repeat' first|exact Ext.here _ _|apply Ext.cons);done);intro w1 hw1;exact htl hw1 (by (focus (repeat' first|exact Ext.here _ _|apply Ext.cons);done)) (fun q hq=>Ext.mem (by (focus (repeat' first|exact Ext.here _ _|apply Ext.cons);done)) q hq) (fun q hq=>Ext.mem (by (focus (repeat' first|exact Ext.all _|apply Ext.cons|apply Ext.app);done)) q hq);rintro v Lo ⟨rfl,hq⟩;rw [hq];clear hq))|(apply R.pure;exact rfl;first|(apply Ok1.load;exact rfl;(apply Ld.ownk;exact rfl;exact rfl;(focus (repeat' first|exact At.head|apply At.tail);done);exact rfl))|(apply Ok1.move;exact rfl)|(apply Ok1.assign;exact rfl)|(apply Ok1.pick_t;exact rfl;exact rfl)))|(apply R.isG;(apply R.guard_run;exact rfl;exact rfl))|apply R.nil|(apply T.is;first|apply T.seq|apply T.region|apply T.ret))
    (apply RetOk.t;exact rfl)
    rfl
  repeat' (first|(apply R.is1;(apply R.pure;exact rfl;(apply Ok1.assign;exact rfl)))|apply R.nil|(apply T.is;first|apply T.seq|apply T.region|apply T.block))
  apply T.loopK (α:=Nat × CZ) (I:=fun y=>y.1≤ls.length∧y.1≤50∧y.2.ok y.1) (σi:=fun y=>[(0,.slice pl ls.length cl),(4,.pointer (some ⟨b4,0,none⟩)),(5,.pointer (some ⟨b5,0,none⟩)),(7,.pointer (some ⟨b,0,none⟩)),(8,slV y.2.ov y.2.dl.length),(9,.int .i64 y.1)]) (Li:=fun y=>(b5,.cells ⟨[.int .i64 n1,.int .i64 n2]⟩ 26 (0,0))::(b4,.cells ⟨[.int .i64 c.id,.int .i64 c.roles,.int .i64 c.exp,.int .i64 c.ser]⟩ 24 (0,0))::y.2.M b bm) (μ:=fun y=>ls.length - y.1) (i0:=(0,⟨[],0,none,[],[]⟩))
  · exact ⟨Nat.zero_le _,Nat.zero_le _,CZ.ok.nil 0 []⟩
  · exact ⟨rfl,rfl,rfl,rfl,rfl,rfl,trivial⟩
  · show Keep _ ((b5,_)::(b4,_)::BL b bm [] 0++([]++[]))
    generalize BL b bm [] 0=B0
    rw [List.append_nil]
    simp only [List.append_nil]
    (focus (repeat' first|exact Ext.one _ _|exact Ext.here _ _|apply Keep.cons|apply Keep.last|apply Ext.app);done)
  rintro ⟨i,z⟩ ⟨hi,hi50,hz⟩
  simp only at hi hi50 hz ⊢
  by_cases hlt:i < ls.length∧i < 50
  case neg =>
    generalize hM:CZ.M z b bm=M0
    repeat' (first|(apply R.is1;first|(apply R.isBin;first|(apply R.pure;exact rfl;(apply Ok1.lss_f;exact rfl;exact rfl;omega))|(apply R.lss rfl rfl rfl<;>intro))|(apply R.isCall;(apply R.pure;exact rfl;(apply Ok1.lenS;(iterate 3 exact rfl))))|(apply R.pure;exact rfl;first|(apply Ok1.move;exact rfl)|(apply Ok1.pick_t;exact rfl;exact rfl)|(apply Ok1.pick_f;exact rfl;exact rfl)))|(apply R.isG;first|(apply R.guard_run;exact rfl;exact rfl)|(apply R.guard_not;(iterate 3 exact rfl)))|apply R.nil|(apply T.is;first|apply T.seq|apply T.region|apply T.exit|(apply T.cond_f;exact rfl)))
    all_goals skip
    all_goals exact ⟨(i,z),⟨hi50,hz⟩,⟨rfl,rfl,rfl,rfl,rfl,trivial⟩,by rw [hM];(focus (repeat' first|exact Ext.one _ _|exact Ext.all _|apply Keep.cons|apply Keep.last);done)⟩
  obtain ⟨hlt1,hlt2⟩:=hlt
  obtain ⟨x,hx⟩:∃ x,ls[i]? = some x:=⟨_,List.getElem?_eq_getElem hlt1⟩
  obtain ⟨bb,o,hpe,H⟩:=hls.at hx
  replace H:=H 9 AC.v_len
  obtain ⟨xrd,xcp⟩:=hlo x (List.mem_of_getElem? hx)
  have hto:=to5_ok x.c.id x.c.roles x.c.exp x.c.ser
  have hlen:=hz.len
  have hav:AC.v x=[.int .i64 x.k,.int .i64 x.t,.int .i64 x.c.id,.int .i64 x.c.roles,.int .i64 x.c.exp,.int .i64 x.c.ser,.slice x.p x.xs.length x.cap,.int .i64 x.n1,.int .i64 x.n2]:=rfl
  rw [hav] at H
  have hsv:=slV_eq hz.ov
  simp only [CZ.M]
  rw [hsv]
  obtain ⟨MB,hMB⟩:∃ MB,MB=blkL 56 z.ov (fl DC.v z.dl):=⟨_,rfl⟩
  obtain ⟨B0,hB0⟩:∃ B0,B0=BL b bm z.es z.clk:=⟨_,rfl⟩
  rw [← hMB,← hB0]
  obtain ⟨hu0,hu1⟩:=u64_range7 x.t
  obtain ⟨hk0,hk1⟩:=u64_range7 x.k
  obtain ⟨K,hK⟩:∃ K,K=x.xs.take 40:=⟨_,rfl⟩
  have hmin:min (x.xs.length:Int) 40=(K.length:Int):=by rw [hK,List.length_take];omega
  have hKr:RdSl w x.p u8V K:=by rw [hK];exact xrd.pre u8V_len 40
  have hK40:K.length≤40:=by rw [hK,List.length_take];omega
  have hKc:K.length≤x.cap:=by rw [hK,List.length_take];omega
  clear hK
  repeat' (first|(apply R.is1;first|(apply R.isBin;(apply R.pure;exact rfl;first|(apply Ok1.lss_t;exact rfl;exact rfl;omega)|(apply Ok1.remN;exact rfl;exact rfl;omega;omega)))|(apply R.isCall;first|apply R.callP rfl rfl rfl hto|(apply R.pure;exact rfl;first|(apply Ok1.lenS;(iterate 3 exact rfl))|(apply Ok1.min2;exact rfl;exact rfl)))|(apply R.pure;exact rfl;first|(apply Ok1.indexAddrP;(iterate 4 exact rfl);exact hpe;exact rfl;omega;omega)|(apply Ok1.load;exact rfl;first|(apply Ld.rowk0 H;exact rfl;exact List.not_mem_nil;(iterate 3 exact rfl))|(apply Ld.own1;exact rfl;exact rfl;exact At.head;exact rfl)|(apply Ld.ownk;exact rfl;exact rfl;exact At.head;exact rfl))|(apply Ok1.preRC (i:=K.length);(iterate 5 exact rfl);exact hmin;omega)|(apply Ok1.move;exact rfl)|(apply Ok1.fieldAddr;(iterate 5 exact rfl))|(apply Ok1.assign;exact rfl)|(apply Ok1.pick_t;exact rfl;exact rfl)|(apply Ok1.convI64;(iterate 5 exact rfl);omega;omega)|(apply Ok1.conv;(iterate 5 exact rfl)))|(apply R.alloc;(iterate 3 exact rfl);intro))|(apply R.is0;(apply R.store;(iterate 6 exact rfl);exact Upd.head;exact rfl))|(apply R.isG;(apply R.guard_run;exact rfl;exact rfl))|apply R.nil|(apply T.is;first|(apply T.stop 12)|apply T.seq|apply T.region|apply T.block|apply T.skip|(apply T.cond_t;exact rfl)))
  rename_i b10 b13
  refine ⟨?_⟩
  obtain ⟨tick,htk⟩:∃ tick,tick=IntKind.u64.wrap x.t % 1073741824:=⟨_,rfl⟩
  rw [← htk]
  have ht0:0≤tick:=by omega
  have ht1:tick≤1073741824:=by omega
  clear htk hmin hu0 hu1
  have htl:=fun {z:CZ} (hz:z.ok (i+1)) {w1:World} {L Lr:Lst}=>@htl _ z hz (by omega) b bm w1 L Lr
  refine T.meetK (α:=CZ) (I:=fun z2=>z2.ok (i+1)) (σi:=fun z2=>[(0,.slice pl ls.length cl),(4,.pointer (some ⟨b4,0,none⟩)),(5,.pointer (some ⟨b5,0,none⟩)),(7,.pointer (some ⟨b,0,none⟩)),(8,slV z2.ov z2.dl.length),(9,.int .i64 i)]) (Li:=fun z2=>(b5,.cells ⟨[.int .i64 n1,.int .i64 n2]⟩ 26 (0,0))::(b4,.cells ⟨[.int .i64 c.id,.int .i64 c.roles,.int .i64 c.exp,.int .i64 c.ser]⟩ 24 (0,0))::z2.M b bm) ?_ ?_
  case refine_2 =>
    clear hlen hsv hB0 hMB B0 MB hz z hlo
    intro z hz
    have htl:=fun {w1:World} {L Lr:Lst}=>@htl z hz w1 L Lr
    have hsv:=slV_eq hz.ov
    rw [hsv]
    simp only [CZ.M]
    obtain ⟨MB,hMB⟩:∃ MB,MB=blkL 56 z.ov (fl DC.v z.dl):=⟨_,rfl⟩
    obtain ⟨B0,hB0⟩:∃ B0,B0=BL b bm z.es z.clk:=⟨_,rfl⟩
    rw [← hMB,← hB0]
    rw [← hMB,← hB0] at htl
    repeat' (first|(apply R.is1;first|(apply R.isBin;(apply R.pure;exact rfl;(apply Ok1.add64;exact rfl;exact rfl;omega;omega)))|(apply R.isCall;(apply R.callE (Li:=B0) (vs:=[.pointer (some ⟨b,0,none⟩),.slice (ovp z.ov) z.dl.length (ovc z.ov z.dl.length),.agg ⟨_⟩,.agg ⟨_⟩]);(iterate 3 exact rfl);(focus (repeat' first|exact Ext.here _ _|apply Ext.cons);done);intro w1 hw1;exact htl hw1 (by (focus (repeat' first|exact Ext.here _ _|apply Ext.cons);done)) (fun q hq=>Ext.mem (by (focus (repeat' first|exact Ext.here _ _|apply Ext.cons);done)) q hq) (fun q hq=>Ext.mem (by (focus (repeat' first|exact Ext.all _|apply Ext.cons|apply Ext.app);done)) q hq);rintro v Lo ⟨rfl,hq⟩;rw [hq];clear hq))|(apply R.pure;exact rfl;first|(apply Ok1.load;exact rfl;(apply Ld.ownk;exact rfl;exact rfl;(focus (repeat' first|exact At.head|apply At.tail);done);exact rfl))|(apply Ok1.move;exact rfl)|(apply Ok1.assign;exact rfl)|(apply Ok1.not_t;exact rfl)))|apply R.nil|(apply T.is;first|apply T.seq|apply T.region|apply T.skip|(apply T.cond_f;exact rfl)))
    exact ⟨(i+1,z),⟨by simp only;omega,by simp only;omega,hz⟩,by simp only;omega,⟨rfl,rfl,rfl,rfl,by rw [hsv];rfl,rfl,trivial⟩,by rw [← hMB,← hB0];(focus (repeat' first|exact Ext.one _ _|exact Ext.here _ _|exact Ext.all _|apply Keep.cons|apply Keep.app|apply Keep.last|apply Ext.app);done)⟩
  have hq:IntKind.u64.wrap x.k % 6=0 ∨ IntKind.u64.wrap x.k % 6=1 ∨ IntKind.u64.wrap x.k % 6=2 ∨ IntKind.u64.wrap x.k % 6=3 ∨ IntKind.u64.wrap x.k % 6=4 ∨ IntKind.u64.wrap x.k % 6=5:=by omega
  have hzn:=hz.more z.KB (fun _ h=>h) (Nat.le_succ i)
  have hown:∀ {w1:World} {S:List Nat} {L:Lst},Hp w S L w1→(∀ q∈MB,q∈L)→RdSl w1 (ovp z.ov) DC.v z.dl:=fun hw hb=>RdSl.own' hw (by rw [← hMB];exact hb) hz.ov DC.v_len
  clear htl hkn hav
  rcases hq with hq|hq|hq|hq|hq|hq
  · have hWZ:=wantZ b bm x.c tick hz
    simp only [kvC] at hWZ
    rw [← hB0] at hWZ
    rcases hWZ with ⟨E,hWb,hWv⟩|⟨h16,hr,hpos,hnm,hWb⟩
    · have hv:=fun {w1:World} {S:List Nat} {L:Lst} (hw:Hp w S L w1) (hb:∀ q∈MB,q∈L)=>hWv (ovp z.ov) (ovc z.ov z.dl.length) w1 (hown hw hb)
      repeat' (first|(apply R.is1;first|(apply R.isBin;(apply R.pure;exact rfl;first|(apply Ok1.eql_t;exact rfl;exact rfl;omega)|(apply Ok1.neq_f;exact rfl;exact rfl;omega)|(apply Ok1.remN;exact rfl;exact rfl;omega;omega)))|(apply R.isCall;first|(apply R.callV (vs:=[.slice (ovp z.ov) z.dl.length (ovc z.ov z.dl.length),.agg ⟨_⟩,.int .i64 tick]);(iterate 3 exact rfl);intro w1 hw1;exact hv hw1 (Ext.mem (by (focus (repeat' first|exact Ext.here _ _|apply Ext.cons|apply Ext.app);done))))|(apply R.callE (Li:=B0) (vs:=[.pointer (some ⟨b,0,none⟩),.agg ⟨_⟩,.int .i64 tick]);(iterate 3 exact rfl);(focus (repeat' first|exact Ext.here _ _|apply Ext.cons);done);intro w1 hw1;exact hWb w1;rintro v Lo ⟨rfl,hq⟩;rw [hq];clear hq))|(apply R.pure;exact rfl;first|(apply Ok1.load;exact rfl;first|(apply Ld.own1;exact rfl;exact rfl;(focus (repeat' first|exact At.head|apply At.tail);done);exact rfl)|(apply Ld.ownk;exact rfl;exact rfl;(focus (repeat' first|exact At.head|apply At.tail);done);exact rfl))|(apply Ok1.move;exact rfl)|(apply Ok1.fieldAddr;(iterate 5 exact rfl))|(apply Ok1.assign;exact rfl)|(apply Ok1.extract;exact rfl;exact rfl)|(apply Ok1.conv;(iterate 5 exact rfl))))|apply R.nil|(apply T.is;first|apply T.seq|apply T.region|apply T.block|apply T.skip|(apply T.cond_t;exact rfl)|(apply T.cond_f;exact rfl)))
      all_goals skip
      all_goals exact ⟨z,hzn,⟨rfl,rfl,rfl,rfl,by rw [hsv];rfl,rfl,trivial⟩,by simp only [CZ.M];rw [← hMB,← hB0];(focus (repeat' first|exact Ext.one _ _|exact Ext.here _ _|exact Ext.all _|apply Keep.cons|apply Keep.app|apply Keep.last|apply Ext.cons|apply Ext.app);done)⟩
    · have hv:=fun {w1:World} {S:List Nat} {L:Lst} (hw:Hp w S L w1) (hb:∀ q∈MB,q∈L)=>vwantQ_ok (ovp z.ov) (ovc z.ov z.dl.length) z.dl x.c tick h16 hr hpos w1 (hown hw hb)
      have hfin:=fun blk ov hov=>hzn.want x.c tick ⟨ht0,ht1⟩ hnm h16 blk ov hov
      simp only [kvC] at hv
      generalize insQ z.dl (newQ x.c tick)=D2 at *
      repeat' (first|(apply R.is1;first|(apply R.isBin;(apply R.pure;exact rfl;first|(apply Ok1.eql_t;exact rfl;exact rfl;omega)|(apply Ok1.neq_f;exact rfl;exact rfl;omega)|(apply Ok1.remN;exact rfl;exact rfl;omega;omega)))|(apply R.isCall;first|(apply R.callE (vs:=[.slice (ovp z.ov) z.dl.length (ovc z.ov z.dl.length),.agg ⟨_⟩,.int .i64 tick]);(iterate 3 exact rfl);exact Ext.none _;intro w1 hw1;exact hv hw1 (Ext.mem (by (focus (repeat' first|exact Ext.here _ _|apply Ext.cons|apply Ext.app);done)));rintro v Lo ⟨ovn,hovn,rfl,rfl⟩)|(apply R.callE (Li:=B0) (vs:=[.pointer (some ⟨b,0,none⟩),.agg ⟨_⟩,.int .i64 tick]);(iterate 3 exact rfl);(focus (repeat' first|exact Ext.here _ _|apply Ext.cons|apply Ext.app);done);intro w1 hw1;exact hWb w1;rintro v Lo ⟨rfl,blk,hB1⟩))|(apply R.pure;exact rfl;first|(apply Ok1.load;exact rfl;first|(apply Ld.own1;exact rfl;exact rfl;(focus (repeat' first|exact At.head|apply At.tail);done);exact rfl)|(apply Ld.ownk;exact rfl;exact rfl;(focus (repeat' first|exact At.head|apply At.tail|apply At.right);done);exact rfl))|(apply Ok1.move;exact rfl)|(apply Ok1.fieldAddr;(iterate 5 exact rfl))|(apply Ok1.assign;exact rfl)|(apply Ok1.extract;exact rfl;exact rfl)|(apply Ok1.conv;(iterate 5 exact rfl))))|apply R.nil|(apply T.is;first|apply T.seq|apply T.region|apply T.block|apply T.skip|(apply T.cond_t;exact rfl)|(apply T.cond_f;exact rfl)))
      all_goals skip
      exact ⟨⟨_,_,ovn,D2,z.KB⟩,hfin blk ovn hovn,⟨rfl,rfl,rfl,rfl,rfl,rfl,trivial⟩,by simp only [CZ.M];rw [← hB1];(focus (repeat' first|exact Ext.one _ _|exact Ext.here _ _|exact Ext.all _|apply Keep.cons|apply Keep.app|apply Keep.last|apply Ext.cons|apply Ext.app);done)⟩
  · have hrg:∀ d∈z.dl,0≤d.asked∧d.asked≤1073741824:=fun d hd=>by obtain ⟨e,_,_,hr⟩:=hz.rel d hd;exact hr.rng
    have hlF:((z.dl.filter (dueD tick)).map DC.c).length≤16:=by rw [List.length_map];exact Nat.le_trans (List.length_filter_le ..) hlen
    have hDb:=dueZ b bm tick hz ht0 ht1
    have hDv:=vdueQ_ok z.ov z.dl (by omega) hz.ov tick ⟨ht0,ht1⟩ hrg
    have hfin:=hzn.due tick ⟨ht0,ht1⟩ z.ov (hz.ov.set8 (by rw [List.length_map]))
    rw [← hMB,hsv] at hDv
    rw [← hB0] at hDb
    simp only at hfin
    obtain ⟨M1,hM1⟩:∃ M1,M1=blkL 56 z.ov (fl DC.v (z.dl.map (updD tick))):=⟨_,rfl⟩
    obtain ⟨B1,hB1⟩:∃ B1,B1=BL b bm (dueS tick ((z.dl.filter (dueD tick)).map DC.c) z.es) z.clk:=⟨_,rfl⟩
    rw [← hM1] at hDv
    rw [← hB1] at hDb
    generalize hcs:(z.dl.filter (dueD tick)).map DC.c=cs at *
    have hsm:=fun p1 p2 c1 c2 w1 h1 h2=>same15_ok p1 p2 c1 c2 cs cs (by omega) (by omega) w1 h1 h2
    simp only [decide_true] at hsm
    repeat' (first|(apply R.is1;first|(apply R.isBin;(apply R.pure;exact rfl;first|(apply Ok1.eql_t;exact rfl;exact rfl;omega)|(apply Ok1.eql_f;exact rfl;exact rfl;omega)|(apply Ok1.remN;exact rfl;exact rfl;omega;omega)))|(apply R.isCall;first|(apply R.callE (Li:=B0) (vs:=[.pointer (some ⟨b,0,none⟩),.int .i64 tick]);(iterate 3 exact rfl);(focus (repeat' first|exact Ext.here _ _|apply Ext.cons);done);intro w1 hw1;exact hDb w1;rintro v Lo ⟨o1,ho1,rfl,rfl⟩;rw [slV_eq ho1,List.append_assoc])|(apply R.callE (Li:=MB) (vs:=[.slice (ovp z.ov) z.dl.length (ovc z.ov z.dl.length),.int .i64 tick]);(iterate 3 exact rfl);(focus (repeat' first|exact Ext.here _ _|apply Ext.cons|apply Ext.app);done);intro w1 hw1;exact hDv w1;rintro v Lo ⟨o2,ho2,rfl,rfl⟩;rw [slV_eq ho2,List.append_assoc])|(apply R.callV (vs:=[.slice (ovp o1) cs.length (ovc o1 cs.length),.slice (ovp o2) cs.length (ovc o2 cs.length)]);(iterate 3 exact rfl);intro w1 hw1;exact hsm _ _ _ _ w1 (RdSl.own' hw1 (Ext.mem (by (focus (repeat' first|exact Ext.here _ _|apply Ext.app);done))) ho1 Cl.v_len) (RdSl.own' hw1 (Ext.mem (by (focus ((repeat' (exact Ext.here _ _));done)))) ho2 Cl.v_len)))|(apply R.pure;exact rfl;first|(apply Ok1.load;exact rfl;(apply Ld.own1;exact rfl;exact rfl;(focus (repeat' first|exact At.head|apply At.tail);done);exact rfl))|(apply Ok1.move;exact rfl)|(apply Ok1.fieldAddr;(iterate 5 exact rfl))|(apply Ok1.assign;exact rfl)|(apply Ok1.not_t;exact rfl)|(apply Ok1.conv;(iterate 5 exact rfl))))|apply R.nil|(apply T.is;first|apply T.seq|apply T.region|apply T.block|apply T.skip|(apply T.cond_t;exact rfl)|(apply T.cond_f;exact rfl)))
    all_goals skip
    exact ⟨⟨_,z.clk,z.ov,z.dl.map (updD tick),z.KB⟩,hfin,⟨rfl,rfl,rfl,rfl,by simp only [List.length_map];rw [hsv];rfl,rfl,trivial⟩,by simp only [CZ.M];rw [← hM1,← hB1];(focus (repeat' first|exact Ext.one _ _|exact Ext.here _ _|exact Ext.all _|apply Keep.cons|apply Keep.app|apply Keep.last|apply Ext.cons|apply Ext.app);done)⟩
  · have hPZ:=putZ b bm x.c hz
    have hpn:=putC_nok b x.c w
    have hnw:=fun w1 (h:Chg [] w w1)=>new_ok x.p K.length x.cap K rfl (by omega) w1 (hKr.chg' h (fun _=>Off.nil _))
    simp only [kvC] at hPZ hpn
    rw [← hB0] at hPZ
    rcases hPZ with ⟨hPb,hPv⟩|⟨j,d,ix,e,hd,hdc,hpos,he,hec,hr,hkn,hPb⟩
    · have hv:=fun {w1:World} {S:List Nat} {L:Lst} (hw:Hp w S L w1) (hb:∀ q∈MB,q∈L)=>hPv (ovp z.ov) (ovc z.ov z.dl.length) x.p K.length x.cap w1 (hown hw hb)
      repeat' (first|(apply R.is1;first|(apply R.isBin;(apply R.pure;exact rfl;first|(apply Ok1.eql_t;exact rfl;exact rfl;omega)|(apply Ok1.eql_f;exact rfl;exact rfl;omega)|(apply Ok1.remN;exact rfl;exact rfl;omega;omega)))|(apply R.pure;exact rfl;first|(apply Ok1.load;exact rfl;(apply Ld.own1;exact rfl;exact rfl;(focus (repeat' first|exact At.head|apply At.tail);done);exact rfl))|(apply Ok1.fieldAddr;(iterate 5 exact rfl))|(apply Ok1.assign;exact rfl)|(apply Ok1.conv;(iterate 5 exact rfl))))|apply R.nil|(apply T.is;first|(apply T.drawC (id:=35) [0,1] (by decide);((apply A.tk 0;exact rfl;kernel_rfl;(apply Ok1.move;exact rfl))<;>(apply A.tk 1;exact rfl;kernel_rfl;(apply Ok1.load;exact rfl;(apply Ld.ownk;exact rfl;exact rfl;exact At.head;exact rfl)))<;>(apply A.one 2;kernel_rfl;exact rfl;((apply R.callP rfl rfl rfl hpn));apply R.nil;refine ⟨?_,?_⟩;(focus (repeat' first|exact trivial|exact At.head|apply At.tail|refine ⟨?_,?_⟩)))<;>((apply A.tk 3;exact rfl;kernel_rfl;(apply Ok1.neq_f;exact rfl;exact rfl;omega)))<;>(apply A.tk 4;exact rfl;kernel_rfl;(apply Ok1.move;exact rfl))<;>((apply A.tkG 5;(iterate 3 exact rfl);kernel_rfl;(apply Ok1.move;exact rfl)))<;>((apply A.tkG 6;(iterate 3 exact rfl);kernel_rfl;(apply Ok1.load;exact rfl;(apply Ld.ownk;exact rfl;exact rfl;exact At.head;exact rfl))))<;>((apply A.tkG 7;(iterate 3 exact rfl);kernel_rfl;(apply Ok1.move;exact rfl)))<;>((apply A.tkG 10;(iterate 3 exact rfl);kernel_rfl;(apply Ok1.move;exact rfl)))<;>((apply A.tkG 11;(iterate 3 exact rfl);kernel_rfl;(apply Ok1.fieldAddr;(iterate 5 exact rfl))))<;>((apply A.tkG 12;(iterate 3 exact rfl);kernel_rfl;(apply Ok1.load;exact rfl;(apply Ld.ownk;exact rfl;exact rfl;(focus (repeat' first|exact At.head|apply At.tail);done);exact rfl))))<;>((apply A.tkG 13;(iterate 3 exact rfl);kernel_rfl;(apply Ok1.move;exact rfl)))<;>(apply A.one 8;kernel_rfl;exact rfl;(((apply R.isG;apply R.guard_run;exact rfl;exact rfl;((apply R.callE (vs:=[.slice x.p K.length x.cap]);(iterate 3 exact rfl);exact Ext.none _;intro w1 hw1;exact hnw w1 hw1.chg;rintro v Lo ⟨bk,ovk,rfl,hovk,_,rfl⟩;(obtain ⟨KN,hKN,hknm⟩:∃ KN,KL bk ovk K=KN∧∀ q∈KL bk ovk K,q∈KN:=⟨_,rfl,fun q h=>h⟩);rw [hKN])))));apply R.nil;refine ⟨?_,?_⟩;(focus (repeat' first|exact trivial|exact At.head|apply At.tail|apply At.right|refine ⟨?_,?_⟩)))<;>(apply A.one 9;kernel_rfl;exact rfl;(((apply R.isG;apply R.guard_run;exact rfl;exact rfl;((apply R.callE (Li:=B0) (vs:=[.pointer (some ⟨b,0,none⟩),.agg ⟨_⟩,.pointer (some ⟨bk,0,none⟩)]);(iterate 3 exact rfl);(focus (repeat' first|exact Ext.here _ _|apply Ext.cons|apply Ext.app);done);intro w1 hw1;exact hPb bk w1;rintro v Lo ⟨rfl,hq⟩;rw [hq];clear hq)))));apply R.nil;refine ⟨?_,?_⟩;(focus (repeat' first|exact trivial|exact At.head|apply At.tail|apply At.right|refine ⟨?_,?_⟩)))<;>(apply A.one 14;kernel_rfl;exact rfl;(((apply R.isG;apply R.guard_run;exact rfl;exact rfl;((apply R.callV (vs:=[.slice (ovp z.ov) z.dl.length (ovc z.ov z.dl.length),.agg ⟨_⟩,.slice x.p K.length x.cap]);(iterate 3 exact rfl);intro w1 hw1;exact hv hw1 (Ext.mem (by (focus (repeat' first|exact Ext.here _ _|apply Ext.cons|apply Ext.app);done))))))));apply R.nil;refine ⟨?_,?_⟩;(focus (repeat' first|exact trivial|exact At.head|apply At.tail|apply At.right|refine ⟨?_,?_⟩)))<;>((apply A.tkG 15;(iterate 3 exact rfl);kernel_rfl;(apply Ok1.neq_f;exact rfl;exact rfl;omega)))<;>(apply A.tk 16;exact rfl;kernel_rfl;(apply Ok1.pick_f;exact rfl;exact rfl))<;>(apply A.done;kernel_rfl)))|apply T.seq|apply T.region|apply T.block|apply T.skip|(apply T.cond_t;exact rfl)|(apply T.cond_f;exact rfl)))
      all_goals skip
      all_goals exact ⟨z,hzn,⟨rfl,rfl,rfl,rfl,by rw [hsv];rfl,rfl,trivial⟩,by simp only [CZ.M];rw [← hMB,← hB0];(focus (repeat' first|exact Ext.one _ _|exact Ext.here _ _|exact Ext.all _|apply Keep.cons|apply Keep.app|apply Keep.last|apply Ext.cons|apply Ext.app);done)⟩
    · have hPb2:=fun bk ovk (hok:OvOk 1 ovk K.length (u8s K)) w1 L Lr S (hw:Hp w S L w1) (he:Ext L B0 Lr) (hk:∀ q∈KL bk ovk K,q∈Lr)=>hPb bk K hK40 w1 (KeyR.stay7 hok hw he hk)
      have hPv:=fun w1 (hkr:RdSl w1 x.p u8V K) (hko:K≠[]→Off x.p (blks MB))=>vputQ_ok z.ov z.dl (by omega) hz.ov x.c j d hd hpos hkn x.p x.cap K (by omega) w1 hkr (by rw [← hMB];exact hko)
      simp only [kvC] at hPv
      rw [← hMB,hsv] at hPv
      repeat' (first|(apply R.is1;first|(apply R.isBin;(apply R.pure;exact rfl;first|(apply Ok1.eql_t;exact rfl;exact rfl;omega)|(apply Ok1.eql_f;exact rfl;exact rfl;omega)|(apply Ok1.remN;exact rfl;exact rfl;omega;omega)))|(apply R.pure;exact rfl;first|(apply Ok1.load;exact rfl;(apply Ld.own1;exact rfl;exact rfl;(focus (repeat' first|exact At.head|apply At.tail);done);exact rfl))|(apply Ok1.fieldAddr;(iterate 5 exact rfl))|(apply Ok1.assign;exact rfl)|(apply Ok1.conv;(iterate 5 exact rfl))))|apply R.nil|(apply T.is;first|(apply T.drawC (id:=35) [0,1] (by decide);((apply A.tk 0;exact rfl;kernel_rfl;(apply Ok1.move;exact rfl))<;>(apply A.tk 1;exact rfl;kernel_rfl;(apply Ok1.load;exact rfl;(apply Ld.ownk;exact rfl;exact rfl;exact At.head;exact rfl)))<;>(apply A.one 2;kernel_rfl;exact rfl;((apply R.callP rfl rfl rfl hpn));apply R.nil;refine ⟨?_,?_⟩;(focus (repeat' first|exact trivial|exact At.head|apply At.tail|refine ⟨?_,?_⟩)))<;>((apply A.tk 3;exact rfl;kernel_rfl;(apply Ok1.neq_f;exact rfl;exact rfl;omega)))<;>(apply A.tk 4;exact rfl;kernel_rfl;(apply Ok1.move;exact rfl))<;>((apply A.tkG 5;(iterate 3 exact rfl);kernel_rfl;(apply Ok1.move;exact rfl)))<;>((apply A.tkG 6;(iterate 3 exact rfl);kernel_rfl;(apply Ok1.load;exact rfl;(apply Ld.ownk;exact rfl;exact rfl;exact At.head;exact rfl))))<;>((apply A.tkG 7;(iterate 3 exact rfl);kernel_rfl;(apply Ok1.move;exact rfl)))<;>((apply A.tkG 10;(iterate 3 exact rfl);kernel_rfl;(apply Ok1.move;exact rfl)))<;>((apply A.tkG 11;(iterate 3 exact rfl);kernel_rfl;(apply Ok1.fieldAddr;(iterate 5 exact rfl))))<;>((apply A.tkG 12;(iterate 3 exact rfl);kernel_rfl;(apply Ok1.load;exact rfl;(apply Ld.ownk;exact rfl;exact rfl;(focus (repeat' first|exact At.head|apply At.tail);done);exact rfl))))<;>((apply A.tkG 13;(iterate 3 exact rfl);kernel_rfl;(apply Ok1.move;exact rfl)))<;>(apply A.one 8;kernel_rfl;exact rfl;(((apply R.isG;apply R.guard_run;exact rfl;exact rfl;((apply R.callE (vs:=[.slice x.p K.length x.cap]);(iterate 3 exact rfl);exact Ext.none _;intro w1 hw1;exact hnw w1 hw1.chg;rintro v Lo ⟨bk,ovk,rfl,hovk,_,rfl⟩;(obtain ⟨KN,hKN,hknm⟩:∃ KN,KL bk ovk K=KN∧∀ q∈KL bk ovk K,q∈KN:=⟨_,rfl,fun q h=>h⟩);rw [hKN])))));apply R.nil;refine ⟨?_,?_⟩;(focus (repeat' first|exact trivial|exact At.head|apply At.tail|apply At.right|refine ⟨?_,?_⟩)))<;>(apply A.one 9;kernel_rfl;exact rfl;(((apply R.isG;apply R.guard_run;exact rfl;exact rfl;((apply R.callE (Li:=B0) (vs:=[.pointer (some ⟨b,0,none⟩),.agg ⟨_⟩,.pointer (some ⟨bk,0,none⟩)]);(iterate 3 exact rfl);(focus (repeat' first|exact Ext.here _ _|apply Ext.cons|apply Ext.app);done);intro w1 hw1;exact hPb2 bk ovk hovk w1 _ _ _ hw1 (by (focus (repeat' first|exact Ext.here _ _|apply Ext.cons|apply Ext.app);done)) (fun q hq=>Ext.mem (by (focus ((repeat' (exact Ext.here _ _));done))) q (hknm q hq));rintro v Lo ⟨rfl,y,hyK,hyo,hq⟩;(obtain ⟨YL,hYL,hyl⟩:∃ YL,y.L=YL∧∀ q∈y.L,q∈YL:=⟨_,rfl,fun q h=>h⟩);(obtain ⟨B1,hB1⟩:∃ B1,BL b bm (setE6 z.es ix e ⟨e.e.boot,e.e.ctr,e.e.bits,some ⟨y.bk,0,none⟩,e.e.asked⟩) z.clk=B1:=⟨_,rfl⟩);rw [hq,hYL,hB1,List.append_assoc];clear hq)))));apply R.nil;refine ⟨?_,?_⟩;(focus (repeat' first|exact trivial|exact At.head|apply At.tail|apply At.right|refine ⟨?_,?_⟩)))<;>(apply A.one 14;kernel_rfl;exact rfl;(((apply R.isG;apply R.guard_run;exact rfl;exact rfl;((apply R.callE (Li:=MB) (vs:=[.slice (ovp z.ov) z.dl.length (ovc z.ov z.dl.length),.agg ⟨_⟩,.slice x.p K.length x.cap]);(iterate 3 exact rfl);(focus (repeat' first|exact Ext.here _ _|apply Ext.cons|apply Ext.app);done);intro w1 hw1;exact hPv w1 (hKr.chg' hw1.chg (fun _=>Off.nil _)) (RdSl.old u8V_len (by decide) hKr (fun _=>Off.nil _) hw1 (by (focus (repeat' first|exact Ext.here _ _|apply Ext.cons|apply Ext.app);done)));rintro v Lo ⟨rfl,ovq,hovq,hq⟩;(obtain ⟨UB,hUB,hub⟩:∃ UB,blkL 5 ovq (u8s K)=UB∧∀ q∈blkL 5 ovq (u8s K),q∈UB:=⟨_,rfl,fun q h=>h⟩);(obtain ⟨M1,hM1⟩:∃ M1,blkL 56 z.ov (fl DC.v (z.dl.set j ⟨d.c,true,d.asked,K,ovp ovq,ovc ovq K.length,d.tk,d.tp,d.tc⟩))=M1:=⟨_,rfl⟩);rw [hq,hUB,hM1,List.append_assoc];clear hq)))));apply R.nil;refine ⟨?_,?_⟩;(focus (repeat' first|exact trivial|exact At.head|apply At.tail|apply At.right|refine ⟨?_,?_⟩)))<;>((apply A.tkG 15;(iterate 3 exact rfl);kernel_rfl;(apply Ok1.neq_f;exact rfl;exact rfl;omega)))<;>(apply A.tk 16;exact rfl;kernel_rfl;(apply Ok1.pick_f;exact rfl;exact rfl))<;>(apply A.done;kernel_rfl)))|apply T.seq|apply T.region|apply T.block|apply T.skip|(apply T.cond_t;exact rfl)|(apply T.cond_f;exact rfl)))
      all_goals skip
      exact ⟨⟨_,z.clk,z.ov,z.dl.set j ⟨d.c,true,d.asked,K,ovp ovq,ovc ovq K.length,d.tk,d.tp,d.tc⟩,YL++(UB++z.KB)⟩,hz.set (d2:=⟨d.c,true,d.asked,K,ovp ovq,ovc ovq K.length,d.tk,d.tp,d.tc⟩) (x:=⟨e.e.boot,e.e.ctr,e.e.bits,some ⟨y.bk,0,none⟩,e.e.asked⟩) hd he (hec.trans hdc.symm) rfl _ (fun q h=>List.mem_append_right _ (List.mem_append_right _ h)) (Nat.le_succ i) (hr.put (fun q h=>List.mem_append_right _ (List.mem_append_right _ h)) (Nat.le_succ i) y K hyK hyo (fun q h=>List.mem_append_left _ (hyl q h)) hK40 ovq hovq (fun q h=>List.mem_append_right _ (List.mem_append_left _ (hub q h)))) z.ov (hz.ov.set8 (by rw [List.length_set])),⟨rfl,rfl,rfl,rfl,by simp only [List.length_set];rw [hsv];rfl,rfl,trivial⟩,by simp only [CZ.M];rw [hM1,hB1];(focus (repeat' first|exact Ext.one _ _|exact Ext.here _ _|exact Ext.all _|apply Keep.cons|apply Keep.app|apply Keep.last|apply Ext.cons|apply Ext.app);done)⟩
  · have hto2:=to12C_ok x.n1 x.n2
    have hTZ:=takeZ b bm x.c hz (by omega) x.n1 x.n2
    simp only [kvC] at hTZ
    rw [← hB0] at hTZ
    obtain ⟨E,hlk,hTZ⟩:=hTZ
    have htr:∀ {w1:World} {S:List Nat} {L:Lst},Hp w S L w1→(∀ q∈z.KB,q∈L)→∀ d∈z.dl,RdSl w1 d.tp nV d.tk:=fun hw hk d hd=>by
      obtain ⟨e,_,_,hr⟩:=hz.rel d hd
      obtain ⟨o2,b1,b2,b3,b4⟩:=hr.tsl
      rw [b1]
      exact RdSl.own' hw (fun q hq=>hk q (b4 q hq)) b3 nV_len
    have hv:=fun {w1:World} {S:List Nat} {L:Lst} (hw:Hp w S L w1) (hb:∀ q∈MB,q∈L) (hk:∀ q∈z.KB,q∈L)=>hlk (ovp z.ov) (ovc z.ov z.dl.length) w1 (hown hw hb) (htr hw hk)
    rcases hTZ with ⟨hE,hE0,hE1,hTb⟩|⟨hE,j,d,ix,e,hd,hdc,hpos,he,hec,hr,hkn,hN,hl,hTb⟩
    · repeat' (first|(apply R.is1;first|(apply R.isBin;(apply R.pure;exact rfl;first|(apply Ok1.eql_t;exact rfl;exact rfl;omega)|(apply Ok1.eql_f;exact rfl;exact rfl;omega)|(apply Ok1.remN;exact rfl;exact rfl;omega;omega)))|(apply R.isCall;(apply R.callV (vs:=[.slice (ovp z.ov) z.dl.length (ovc z.ov z.dl.length),.agg ⟨_⟩,.agg ⟨_⟩]);(iterate 3 exact rfl);intro w1 hw1;exact hv hw1 (Ext.mem (by (focus (repeat' first|exact Ext.here _ _|apply Ext.cons|apply Ext.app);done))) (Ext.mem (by (focus (repeat' first|exact Ext.all _|apply Ext.cons|apply Ext.app);done)))))|(apply R.pure;exact rfl;first|(apply Ok1.load;exact rfl;first|(apply Ld.own1;exact rfl;exact rfl;(focus (repeat' first|exact At.head|apply At.tail);done);exact rfl)|(apply Ld.ownk;exact rfl;exact rfl;(focus (repeat' first|exact At.head|apply At.tail);done);exact rfl))|(apply Ok1.move;exact rfl)|(apply Ok1.fieldAddr;(iterate 5 exact rfl))|(apply Ok1.assign;exact rfl)|(apply Ok1.conv;(iterate 5 exact rfl))))|apply R.nil|(apply T.is;first|(apply T.drawC (id:=39) [0,1] (by decide);((apply A.tk 0;exact rfl;kernel_rfl;(apply Ok1.move;exact rfl))<;>(apply A.tk 1;exact rfl;kernel_rfl;(apply Ok1.load;exact rfl;(apply Ld.ownk;exact rfl;exact rfl;exact At.head;exact rfl)))<;>(apply A.tk 2;exact rfl;kernel_rfl;(apply Ok1.fieldAddr;(iterate 5 exact rfl)))<;>(apply A.tk 3;exact rfl;kernel_rfl;(apply Ok1.load;exact rfl;(apply Ld.ownk;exact rfl;exact rfl;(focus (repeat' first|exact At.head|apply At.tail);done);exact rfl)))<;>(apply A.tk 6;exact rfl;kernel_rfl;(apply Ok1.move;exact rfl))<;>(apply A.one 4;kernel_rfl;exact rfl;((apply R.callP rfl rfl rfl hto2));apply R.nil;refine ⟨?_,?_⟩;(focus (repeat' first|exact trivial|exact At.head|apply At.tail|refine ⟨?_,?_⟩)))<;>(apply A.one 5;kernel_rfl;exact rfl;(((apply R.callE (Li:=B0) (vs:=[.pointer (some ⟨b,0,none⟩),.agg ⟨_⟩,.agg ⟨_⟩]);(iterate 3 exact rfl);(focus (repeat' first|exact Ext.here _ _|apply Ext.cons);done);intro w1 hw1;exact hTb w1;rintro v Lo ⟨rfl,hq⟩;rw [hq];clear hq)));apply R.nil;refine ⟨?_,?_⟩;(focus (repeat' first|exact trivial|exact At.head|apply At.tail|apply At.right|refine ⟨?_,?_⟩)))<;>((apply A.tk 7;exact rfl;kernel_rfl;(apply Ok1.neq_f;exact rfl;exact rfl;omega)))<;>(apply A.done;kernel_rfl)))|apply T.seq|apply T.region|apply T.block|apply T.skip|(apply T.cond_t;exact rfl)|(apply T.cond_f;exact rfl)))
      all_goals skip
      all_goals exact ⟨z,hzn,⟨rfl,rfl,rfl,rfl,by rw [hsv];rfl,rfl,trivial⟩,by simp only [CZ.M];rw [← hMB,← hB0];(focus (repeat' first|exact Ext.one _ _|exact Ext.here _ _|exact Ext.all _|apply Keep.cons|apply Keep.app|apply Keep.last|apply Ext.cons|apply Ext.app);done)⟩
    · subst hE
      have hfd:=fun {w1:World} {S:List Nat} {L:Lst} (hw:Hp w S L w1) (hb:∀ q∈MB,q∈L)=>vfindQ_ok (ovp z.ov) (ovc z.ov z.dl.length) z.dl (by omega) x.c w1 (hown hw hb)
      simp only [kvC] at hfd
      rw [hpos] at hfd
      have hnum:=hr.num
      have hjl:=(List.getElem?_eq_some_iff.1 hd).1
      obtain ⟨bq,jq,kq,hzo⟩:∃ bq jq kq,z.ov=some (bq,jq,kq):=by
        have hzv:=hz.ov
        cases hzo:z.ov with
        | none=>rw [hzo] at hzv;have:=hzv.2;omega
        | some q=>exact ⟨_,_,_,rfl⟩
      have hMB3:MB=[(bq,.cells ⟨fl DC.v z.dl++kq⟩ 56 (0,0))]:=by rw [hMB,hzo];rfl
      have hpq:ovp z.ov=some ⟨bq,0,none⟩:=by rw [hzo];rfl
      repeat' (first|(apply R.is1;first|(apply R.isBin;(apply R.pure;exact rfl;first|(apply Ok1.eql_t;exact rfl;exact rfl;omega)|(apply Ok1.eql_f;exact rfl;exact rfl;omega)|(apply Ok1.remN;exact rfl;exact rfl;omega;omega)))|(apply R.isCall;first|(apply R.callV (vs:=[.slice (ovp z.ov) z.dl.length (ovc z.ov z.dl.length),.agg ⟨_⟩,.agg ⟨_⟩]);(iterate 3 exact rfl);intro w1 hw1;exact hv hw1 (Ext.mem (by (focus (repeat' first|exact Ext.here _ _|apply Ext.cons|apply Ext.app);done))) (Ext.mem (by (focus (repeat' first|exact Ext.all _|apply Ext.cons|apply Ext.app);done))))|(apply R.callV (vs:=[.slice (ovp z.ov) z.dl.length (ovc z.ov z.dl.length),.agg ⟨_⟩]);(iterate 3 exact rfl);intro w1 hw1;exact hfd hw1 (Ext.mem (by (focus (repeat' first|exact Ext.here _ _|apply Ext.cons|apply Ext.app);done)))))|(apply R.pure;exact rfl;first|(apply Ok1.load;exact rfl;first|(apply Ld.own1;exact rfl;exact rfl;(focus (repeat' first|exact At.head|apply At.tail);done);exact rfl)|(apply Ld.ownk;exact rfl;exact rfl;(focus (repeat' first|exact At.head|apply At.tail|apply At.right);done);exact rfl))|(apply Ok1.move;exact rfl)|(apply Ok1.fieldAddr;(iterate 5 exact rfl))|(apply Ok1.assign;exact rfl)|(apply Ok1.conv;(iterate 5 exact rfl))))|apply R.nil|(apply T.is;first|(apply T.drawC (id:=39) [0,1] (by decide);((apply A.tk 0;exact rfl;kernel_rfl;(apply Ok1.move;exact rfl))<;>(apply A.tk 1;exact rfl;kernel_rfl;(apply Ok1.load;exact rfl;(apply Ld.ownk;exact rfl;exact rfl;exact At.head;exact rfl)))<;>(apply A.tk 2;exact rfl;kernel_rfl;(apply Ok1.fieldAddr;(iterate 5 exact rfl)))<;>(apply A.tk 3;exact rfl;kernel_rfl;(apply Ok1.load;exact rfl;(apply Ld.ownk;exact rfl;exact rfl;(focus (repeat' first|exact At.head|apply At.tail);done);exact rfl)))<;>(apply A.tk 6;exact rfl;kernel_rfl;(apply Ok1.move;exact rfl))<;>(apply A.one 4;kernel_rfl;exact rfl;((apply R.callP rfl rfl rfl hto2));apply R.nil;refine ⟨?_,?_⟩;(focus (repeat' first|exact trivial|exact At.head|apply At.tail|refine ⟨?_,?_⟩)))<;>(apply A.one 5;kernel_rfl;exact rfl;(((apply R.callE (Li:=B0) (vs:=[.pointer (some ⟨b,0,none⟩),.agg ⟨_⟩,.agg ⟨_⟩]);(iterate 3 exact rfl);(focus (repeat' first|exact Ext.here _ _|apply Ext.cons);done);intro w1 hw1;exact hTb w1;rintro v Lo ⟨rfl,hB1⟩)));apply R.nil;refine ⟨?_,?_⟩;(focus (repeat' first|exact trivial|exact At.head|apply At.tail|apply At.right|refine ⟨?_,?_⟩)))<;>((apply A.tk 7;exact rfl;kernel_rfl;(apply Ok1.neq_f;exact rfl;exact rfl;omega)))<;>(apply A.done;kernel_rfl)))|apply T.seq|apply T.region|apply T.block|apply T.skip|(apply T.cond_t;exact rfl)|(apply T.cond_f;exact rfl)))
      all_goals skip
      show T _ _ _ _ _
      rw [hMB3,hpq]
      simp only [List.cons_append,List.nil_append]
      refine T.weakK (σ':=[(0,.slice pl ls.length cl),(4,.pointer (some ⟨b4,0,none⟩)),(5,.pointer (some ⟨b5,0,none⟩)),(7,.pointer (some ⟨b,0,none⟩)),(8,.slice (some ⟨bq,0,none⟩) z.dl.length (ovc z.ov z.dl.length)),(9,.int .i64 i),(10,.pointer (some ⟨b10,0,none⟩)),(17,.int .i64 j)]) (L':=(b10,.cells ⟨[.int .i64 x.k,.int .i64 x.t,.int .i64 x.c.id,.int .i64 x.c.roles,.int .i64 x.c.exp,.int .i64 x.c.ser,.slice x.p x.xs.length x.cap,.int .i64 x.n1,.int .i64 x.n2]⟩ 32 (0,0))::(bq,.cells ⟨fl DC.v z.dl++kq⟩ 56 (0,0))::(b5,.cells ⟨[.int .i64 n1,.int .i64 n2]⟩ 26 (0,0))::(b4,.cells ⟨[.int .i64 c.id,.int .i64 c.roles,.int .i64 c.exp,.int .i64 c.ser]⟩ 24 (0,0))::(Lo++z.KB)) ?_ (by (focus (repeat' first|exact Ext.one _ _|exact Ext.here _ _|exact Ext.all _|apply Keep.cons|apply Keep.app|apply Keep.last|apply Ext.cons|apply Ext.app);done)) ⟨rfl,rfl,rfl,rfl,rfl,rfl,rfl,rfl,trivial⟩
      have hset:∀ b2 j2 (k2:List Value),setE (fl DC.v z.dl++kq) (0+j * 8+7) [.slice (some ⟨b2,0,none⟩) (d.tk.length+1) (d.tk.length+1+j2)]=some (fl DC.v (z.dl.set j ⟨d.c,d.kn,d.asked,d.ks,d.kp,d.kc,d.tk++[(x.n1,x.n2)],ovp (some (b2,j2,k2)),ovc (some (b2,j2,k2)) (d.tk++[(x.n1,x.n2)]).length⟩)++kq):=fun b2 j2 k2=>setE_cell DC.v_len hd (f:=7) (by decide) _ (by simp only [DC.v,List.length_append,List.length_cons,List.length_nil,ovp,ovc];rfl) kq
      repeat' ((apply T.is;(apply T.drawC (id:=43) [0] (by decide);((apply A.tk 0;exact rfl;kernel_rfl;(apply Ok1.move;exact rfl))<;>(apply A.tk 1;exact rfl;kernel_rfl;(apply Ok1.move;exact rfl))<;>(apply A.tk 3;exact rfl;kernel_rfl;(apply Ok1.move;exact rfl))<;>(apply A.tk 4;exact rfl;kernel_rfl;(apply Ok1.move;exact rfl))<;>(apply A.tk 5;exact rfl;kernel_rfl;(apply Ok1.indexAddr;(iterate 5 exact rfl);omega;omega))<;>(apply A.tk 6;exact rfl;kernel_rfl;(apply Ok1.fieldAddr;(iterate 5 exact rfl)))<;>(apply A.tk 9;exact rfl;kernel_rfl;(apply Ok1.fieldAddr;(iterate 5 exact rfl)))<;>(apply A.tk 10;exact rfl;kernel_rfl;(apply Ok1.load;exact rfl;(apply Ld.ownk;exact rfl;exact rfl;exact At.head;exact rfl)))<;>(apply A.multi [2,7,11];kernel_rfl;exact List.cons_ne_nil _ _;simp only [AllOf];refine ⟨⟨_,rfl,?_⟩,⟨_,rfl,?_⟩,⟨_,rfl,?_⟩,trivial⟩;(focus (((((apply R.buildSlice0;(iterate 4 exact rfl);intro b0)));apply R.nil;refine ⟨?_,?_⟩;(focus (repeat' first|exact trivial|exact At.head|apply At.tail|refine ⟨?_,?_⟩)))<;>(apply A.two 7 11;kernel_rfl;exact rfl;exact rfl;rotate_left 1;(focus (((((apply R.buildSlice;(iterate 12 exact rfl);intro)));apply R.nil;refine ⟨?_,?_⟩;(focus (repeat' first|exact trivial|exact At.head|apply At.tail|refine ⟨?_,?_⟩)))<;>(apply A.one 7;kernel_rfl;exact rfl;(((apply R.pure;exact rfl;(apply Ok1.load;exact rfl;(apply Ld.ownrow1 (f:=7);(focus (repeat' first|exact At.head|apply At.tail);done);exact DC.v_len;exact hd;(focus ((simp;done)));(iterate 3 exact rfl))))));apply R.nil;refine ⟨?_,?_⟩;(focus (repeat' first|exact trivial|exact At.head|apply At.tail|refine ⟨?_,?_⟩)))<;>(apply A.one 8;kernel_rfl;exact rfl;(((apply R.appendRd (xs:=d.tk) (v:=nV) (sz:=2) (ov:=some (b0,0,[])) (n:=0) (m:=d.tk.length) (old:=[]);(iterate 12 exact rfl);exact ⟨rfl,rfl⟩;(focus (repeat' first|exact Ext.one _ _|apply Ext.cons);done);exact rfl;exact nV_len;exact rfl;(intro w1 hw1;exact htr hw1 (Ext.mem (by (focus (repeat' first|exact Ext.all _|apply Ext.cons|apply Ext.app);done))) d (List.mem_of_getElem? hd));exact fl_oneG nV_one _;omega;intro ov1 hov1 hsome1;rw [List.nil_append,Nat.zero_add];rw [List.nil_append,Nat.zero_add] at hov1)));apply R.nil;refine ⟨?_,?_⟩;(focus (repeat' first|exact trivial|exact At.head|apply At.tail|apply At.right|refine ⟨?_,?_⟩)))<;>(apply A.one 12;kernel_rfl;exact rfl;(((apply R.append1;(iterate 12 exact rfl);(focus ((repeat' (exact OwnAt.mid hov1));done));(focus (repeat' first|exact At.head|apply At.right);done);exact rfl;exact rfl;omega;omega;intro b2 j2 k2 hj2)));apply R.nil;refine ⟨?_,?_⟩;(focus (repeat' first|exact trivial|exact At.head|apply At.tail|refine ⟨?_,?_⟩)))<;>(apply A.tk 13;exact rfl;kernel_rfl;(apply Ok1.indexAddr;(iterate 5 exact rfl);omega;omega))<;>(apply A.tk 14;exact rfl;kernel_rfl;(apply Ok1.fieldAddr;(iterate 5 exact rfl)))<;>(apply A.one 15;kernel_rfl;exact rfl;(((apply R.store;(iterate 6 exact rfl);(focus (repeat' first|exact Upd.head|apply Upd.tail);done);exact hset b2 j2 k2)));apply R.nil;refine ⟨?_,?_⟩;(focus (repeat' first|exact trivial|exact At.head|apply At.tail|refine ⟨?_,?_⟩)))<;>(apply A.done;kernel_rfl)));rotate_right 1;(focus (((((apply R.pure;exact rfl;(apply Ok1.load;exact rfl;(apply Ld.ownrow1 (f:=7);(focus (repeat' first|exact At.head|apply At.tail);done);exact DC.v_len;exact hd;(focus ((simp;done)));(iterate 3 exact rfl))))));apply R.nil;refine ⟨?_,?_⟩;(focus (repeat' first|exact trivial|exact At.head|apply At.tail|refine ⟨?_,?_⟩)))<;>(apply A.two 8 11;kernel_rfl;exact rfl;exact rfl;rotate_left 1;(focus (((((apply R.buildSlice;(iterate 12 exact rfl);intro)));apply R.nil;refine ⟨?_,?_⟩;(focus (repeat' first|exact trivial|exact At.head|apply At.tail|refine ⟨?_,?_⟩)))<;>(apply A.one 8;kernel_rfl;exact rfl;(((apply R.appendRd (xs:=d.tk) (v:=nV) (sz:=2) (ov:=some (b0,0,[])) (n:=0) (m:=d.tk.length) (old:=[]);(iterate 12 exact rfl);exact ⟨rfl,rfl⟩;(focus (repeat' first|exact Ext.one _ _|apply Ext.cons);done);exact rfl;exact nV_len;exact rfl;(intro w1 hw1;exact htr hw1 (Ext.mem (by (focus (repeat' first|exact Ext.all _|apply Ext.cons|apply Ext.app);done))) d (List.mem_of_getElem? hd));exact fl_oneG nV_one _;omega;intro ov1 hov1 hsome1;rw [List.nil_append,Nat.zero_add];rw [List.nil_append,Nat.zero_add] at hov1)));apply R.nil;refine ⟨?_,?_⟩;(focus (repeat' first|exact trivial|exact At.head|apply At.tail|apply At.right|refine ⟨?_,?_⟩)))<;>(apply A.one 12;kernel_rfl;exact rfl;(((apply R.append1;(iterate 12 exact rfl);(focus ((repeat' (exact OwnAt.mid hov1));done));(focus (repeat' first|exact At.head|apply At.right);done);exact rfl;exact rfl;omega;omega;intro b2 j2 k2 hj2)));apply R.nil;refine ⟨?_,?_⟩;(focus (repeat' first|exact trivial|exact At.head|apply At.tail|refine ⟨?_,?_⟩)))<;>(apply A.tk 13;exact rfl;kernel_rfl;(apply Ok1.indexAddr;(iterate 5 exact rfl);omega;omega))<;>(apply A.tk 14;exact rfl;kernel_rfl;(apply Ok1.fieldAddr;(iterate 5 exact rfl)))<;>(apply A.one 15;kernel_rfl;exact rfl;(((apply R.store;(iterate 6 exact rfl);(focus (repeat' first|exact Upd.head|apply Upd.tail);done);exact hset b2 j2 k2)));apply R.nil;refine ⟨?_,?_⟩;(focus (repeat' first|exact trivial|exact At.head|apply At.tail|refine ⟨?_,?_⟩)))<;>(apply A.done;kernel_rfl)));rotate_right 1;(focus (((((apply R.appendRd (xs:=d.tk) (v:=nV) (sz:=2) (ov:=some (b0,0,[])) (n:=0) (m:=d.tk.length) (old:=[]);(iterate 12 exact rfl);exact ⟨rfl,rfl⟩;(focus ((repeat' (exact Ext.one _ _));done));exact rfl;exact nV_len;exact rfl;(intro w1 hw1;exact htr hw1 (Ext.mem (by (focus (repeat' first|exact Ext.all _|apply Ext.cons|apply Ext.app);done))) d (List.mem_of_getElem? hd));exact fl_oneG nV_one _;omega;intro ov1 hov1 hsome1;rw [List.nil_append,Nat.zero_add];rw [List.nil_append,Nat.zero_add] at hov1)));apply R.nil;refine ⟨?_,?_⟩;(focus (repeat' first|exact trivial|exact At.head|apply At.right|refine ⟨?_,?_⟩)))<;>(apply A.one 11;kernel_rfl;exact rfl;(((apply R.buildSlice;(iterate 12 exact rfl);intro)));apply R.nil;refine ⟨?_,?_⟩;(focus (repeat' first|exact trivial|exact At.head|apply At.tail|apply At.right|refine ⟨?_,?_⟩)))<;>(apply A.one 12;kernel_rfl;exact rfl;(((apply R.append1;(iterate 12 exact rfl);(focus (repeat' first|exact OwnAt.mid hov1|apply OwnAt.tail);done);exact At.head;exact rfl;exact rfl;omega;omega;intro b2 j2 k2 hj2)));apply R.nil;refine ⟨?_,?_⟩;(focus (repeat' first|exact trivial|exact At.head|apply At.tail|refine ⟨?_,?_⟩)))<;>(apply A.tk 13;exact rfl;kernel_rfl;(apply Ok1.indexAddr;(iterate 5 exact rfl);omega;omega))<;>(apply A.tk 14;exact rfl;kernel_rfl;(apply Ok1.fieldAddr;(iterate 5 exact rfl)))<;>(apply A.one 15;kernel_rfl;exact rfl;(((apply R.store;(iterate 6 exact rfl);(focus (repeat' first|exact Upd.head|apply Upd.tail);done);exact hset b2 j2 k2)));apply R.nil;refine ⟨?_,?_⟩;(focus (repeat' first|exact trivial|exact At.head|apply At.tail|refine ⟨?_,?_⟩)))<;>(apply A.done;kernel_rfl)))))))));rotate_right 1;(focus (((((apply R.buildSlice;(iterate 12 exact rfl);intro)));apply R.nil;refine ⟨?_,?_⟩;(focus (repeat' first|exact trivial|exact At.head|apply At.tail|refine ⟨?_,?_⟩)))<;>(apply A.two 2 7;kernel_rfl;exact rfl;exact rfl;rotate_left 1;(focus (((((apply R.pure;exact rfl;(apply Ok1.load;exact rfl;(apply Ld.ownrow1 (f:=7);(focus (repeat' first|exact At.head|apply At.tail);done);exact DC.v_len;exact hd;(focus ((simp;done)));(iterate 3 exact rfl))))));apply R.nil;refine ⟨?_,?_⟩;(focus (repeat' first|exact trivial|exact At.head|apply At.tail|refine ⟨?_,?_⟩)))<;>(apply A.one 2;kernel_rfl;exact rfl;(((apply R.buildSlice0;(iterate 4 exact rfl);intro b0)));apply R.nil;refine ⟨?_,?_⟩;(focus (repeat' first|exact trivial|exact At.head|apply At.tail|refine ⟨?_,?_⟩)))<;>(apply A.one 8;kernel_rfl;exact rfl;(((apply R.appendRd (xs:=d.tk) (v:=nV) (sz:=2) (ov:=some (b0,0,[])) (n:=0) (m:=d.tk.length) (old:=[]);(iterate 12 exact rfl);exact ⟨rfl,rfl⟩;(focus ((repeat' (exact Ext.one _ _));done));exact rfl;exact nV_len;exact rfl;(intro w1 hw1;exact htr hw1 (Ext.mem (by (focus (repeat' first|exact Ext.all _|apply Ext.cons|apply Ext.app);done))) d (List.mem_of_getElem? hd));exact fl_oneG nV_one _;omega;intro ov1 hov1 hsome1;rw [List.nil_append,Nat.zero_add];rw [List.nil_append,Nat.zero_add] at hov1)));apply R.nil;refine ⟨?_,?_⟩;(focus (repeat' first|exact trivial|exact At.head|apply At.tail|apply At.right|refine ⟨?_,?_⟩)))<;>(apply A.one 12;kernel_rfl;exact rfl;(((apply R.append1;(iterate 12 exact rfl);(focus ((repeat' (exact OwnAt.mid hov1));done));(focus (repeat' first|exact At.head|apply At.right);done);exact rfl;exact rfl;omega;omega;intro b2 j2 k2 hj2)));apply R.nil;refine ⟨?_,?_⟩;(focus (repeat' first|exact trivial|exact At.head|apply At.tail|refine ⟨?_,?_⟩)))<;>(apply A.tk 13;exact rfl;kernel_rfl;(apply Ok1.indexAddr;(iterate 5 exact rfl);omega;omega))<;>(apply A.tk 14;exact rfl;kernel_rfl;(apply Ok1.fieldAddr;(iterate 5 exact rfl)))<;>(apply A.one 15;kernel_rfl;exact rfl;(((apply R.store;(iterate 6 exact rfl);(focus (repeat' first|exact Upd.head|apply Upd.tail);done);exact hset b2 j2 k2)));apply R.nil;refine ⟨?_,?_⟩;(focus (repeat' first|exact trivial|exact At.head|apply At.tail|refine ⟨?_,?_⟩)))<;>(apply A.done;kernel_rfl)));rotate_right 1;(focus (((((apply R.buildSlice0;(iterate 4 exact rfl);intro b0)));apply R.nil;refine ⟨?_,?_⟩;(focus (repeat' first|exact trivial|exact At.head|apply At.tail|refine ⟨?_,?_⟩)))<;>(apply A.one 7;kernel_rfl;exact rfl;(((apply R.pure;exact rfl;(apply Ok1.load;exact rfl;(apply Ld.ownrow1 (f:=7);(focus (repeat' first|exact At.head|apply At.tail);done);exact DC.v_len;exact hd;(focus ((simp;done)));(iterate 3 exact rfl))))));apply R.nil;refine ⟨?_,?_⟩;(focus (repeat' first|exact trivial|exact At.head|apply At.tail|refine ⟨?_,?_⟩)))<;>(apply A.one 8;kernel_rfl;exact rfl;(((apply R.appendRd (xs:=d.tk) (v:=nV) (sz:=2) (ov:=some (b0,0,[])) (n:=0) (m:=d.tk.length) (old:=[]);(iterate 12 exact rfl);exact ⟨rfl,rfl⟩;(focus ((repeat' (exact Ext.one _ _));done));exact rfl;exact nV_len;exact rfl;(intro w1 hw1;exact htr hw1 (Ext.mem (by (focus (repeat' first|exact Ext.all _|apply Ext.cons|apply Ext.app);done))) d (List.mem_of_getElem? hd));exact fl_oneG nV_one _;omega;intro ov1 hov1 hsome1;rw [List.nil_append,Nat.zero_add];rw [List.nil_append,Nat.zero_add] at hov1)));apply R.nil;refine ⟨?_,?_⟩;(focus (repeat' first|exact trivial|exact At.head|apply At.tail|apply At.right|refine ⟨?_,?_⟩)))<;>(apply A.one 12;kernel_rfl;exact rfl;(((apply R.append1;(iterate 12 exact rfl);(focus ((repeat' (exact OwnAt.mid hov1));done));(focus (repeat' first|exact At.head|apply At.right);done);exact rfl;exact rfl;omega;omega;intro b2 j2 k2 hj2)));apply R.nil;refine ⟨?_,?_⟩;(focus (repeat' first|exact trivial|exact At.head|apply At.tail|refine ⟨?_,?_⟩)))<;>(apply A.tk 13;exact rfl;kernel_rfl;(apply Ok1.indexAddr;(iterate 5 exact rfl);omega;omega))<;>(apply A.tk 14;exact rfl;kernel_rfl;(apply Ok1.fieldAddr;(iterate 5 exact rfl)))<;>(apply A.one 15;kernel_rfl;exact rfl;(((apply R.store;(iterate 6 exact rfl);(focus (repeat' first|exact Upd.head|apply Upd.tail);done);exact hset b2 j2 k2)));apply R.nil;refine ⟨?_,?_⟩;(focus (repeat' first|exact trivial|exact At.head|apply At.tail|refine ⟨?_,?_⟩)))<;>(apply A.done;kernel_rfl))))));rotate_right 1;(focus (((((apply R.pure;exact rfl;(apply Ok1.load;exact rfl;(apply Ld.ownrow1 (f:=7);(focus (repeat' first|exact At.head|apply At.tail);done);exact DC.v_len;exact hd;(focus ((simp;done)));(iterate 3 exact rfl))))));apply R.nil;refine ⟨?_,?_⟩;(focus ((repeat' (first|exact trivial|(refine ⟨?_,?_⟩;exact At.head))))))<;>(apply A.two 2 11;kernel_rfl;exact rfl;exact rfl;rotate_left 1;(focus (((((apply R.buildSlice;(iterate 12 exact rfl);intro)));apply R.nil;refine ⟨?_,?_⟩;(focus (repeat' first|exact trivial|exact At.head|apply At.tail|refine ⟨?_,?_⟩)))<;>(apply A.one 2;kernel_rfl;exact rfl;(((apply R.buildSlice0;(iterate 4 exact rfl);intro b0)));apply R.nil;refine ⟨?_,?_⟩;(focus (repeat' first|exact trivial|exact At.head|apply At.tail|refine ⟨?_,?_⟩)))<;>(apply A.one 8;kernel_rfl;exact rfl;(((apply R.appendRd (xs:=d.tk) (v:=nV) (sz:=2) (ov:=some (b0,0,[])) (n:=0) (m:=d.tk.length) (old:=[]);(iterate 12 exact rfl);exact ⟨rfl,rfl⟩;(focus ((repeat' (exact Ext.one _ _));done));exact rfl;exact nV_len;exact rfl;(intro w1 hw1;exact htr hw1 (Ext.mem (by (focus (repeat' first|exact Ext.all _|apply Ext.cons|apply Ext.app);done))) d (List.mem_of_getElem? hd));exact fl_oneG nV_one _;omega;intro ov1 hov1 hsome1;rw [List.nil_append,Nat.zero_add];rw [List.nil_append,Nat.zero_add] at hov1)));apply R.nil;refine ⟨?_,?_⟩;(focus (repeat' first|exact trivial|exact At.head|apply At.tail|apply At.right|refine ⟨?_,?_⟩)))<;>(apply A.one 12;kernel_rfl;exact rfl;(((apply R.append1;(iterate 12 exact rfl);(focus ((repeat' (exact OwnAt.mid hov1));done));(focus (repeat' first|exact At.head|apply At.right);done);exact rfl;exact rfl;omega;omega;intro b2 j2 k2 hj2)));apply R.nil;refine ⟨?_,?_⟩;(focus (repeat' first|exact trivial|exact At.head|apply At.tail|refine ⟨?_,?_⟩)))<;>(apply A.tk 13;exact rfl;kernel_rfl;(apply Ok1.indexAddr;(iterate 5 exact rfl);omega;omega))<;>(apply A.tk 14;exact rfl;kernel_rfl;(apply Ok1.fieldAddr;(iterate 5 exact rfl)))<;>(apply A.one 15;kernel_rfl;exact rfl;(((apply R.store;(iterate 6 exact rfl);(focus (repeat' first|exact Upd.head|apply Upd.tail);done);exact hset b2 j2 k2)));apply R.nil;refine ⟨?_,?_⟩;(focus (repeat' first|exact trivial|exact At.head|apply At.tail|refine ⟨?_,?_⟩)))<;>(apply A.done;kernel_rfl)));rotate_right 1;(focus (((((apply R.buildSlice0;(iterate 4 exact rfl);intro b0)));apply R.nil;refine ⟨?_,?_⟩;(focus (repeat' first|exact trivial|exact At.head|apply At.tail|refine ⟨?_,?_⟩)))<;>(apply A.two 8 11;kernel_rfl;exact rfl;exact rfl;rotate_left 1;(focus (((((apply R.buildSlice;(iterate 12 exact rfl);intro)));apply R.nil;refine ⟨?_,?_⟩;(focus (repeat' first|exact trivial|exact At.head|apply At.tail|refine ⟨?_,?_⟩)))<;>(apply A.one 8;kernel_rfl;exact rfl;(((apply R.appendRd (xs:=d.tk) (v:=nV) (sz:=2) (ov:=some (b0,0,[])) (n:=0) (m:=d.tk.length) (old:=[]);(iterate 12 exact rfl);exact ⟨rfl,rfl⟩;(focus (repeat' first|exact Ext.one _ _|apply Ext.cons);done);exact rfl;exact nV_len;exact rfl;(intro w1 hw1;exact htr hw1 (Ext.mem (by (focus (repeat' first|exact Ext.all _|apply Ext.cons|apply Ext.app);done))) d (List.mem_of_getElem? hd));exact fl_oneG nV_one _;omega;intro ov1 hov1 hsome1;rw [List.nil_append,Nat.zero_add];rw [List.nil_append,Nat.zero_add] at hov1)));apply R.nil;refine ⟨?_,?_⟩;(focus (repeat' first|exact trivial|exact At.head|apply At.tail|apply At.right|refine ⟨?_,?_⟩)))<;>(apply A.one 12;kernel_rfl;exact rfl;(((apply R.append1;(iterate 12 exact rfl);(focus ((repeat' (exact OwnAt.mid hov1));done));(focus (repeat' first|exact At.head|apply At.right);done);exact rfl;exact rfl;omega;omega;intro b2 j2 k2 hj2)));apply R.nil;refine ⟨?_,?_⟩;(focus (repeat' first|exact trivial|exact At.head|apply At.tail|refine ⟨?_,?_⟩)))<;>(apply A.tk 13;exact rfl;kernel_rfl;(apply Ok1.indexAddr;(iterate 5 exact rfl);omega;omega))<;>(apply A.tk 14;exact rfl;kernel_rfl;(apply Ok1.fieldAddr;(iterate 5 exact rfl)))<;>(apply A.one 15;kernel_rfl;exact rfl;(((apply R.store;(iterate 6 exact rfl);(focus (repeat' first|exact Upd.head|apply Upd.tail);done);exact hset b2 j2 k2)));apply R.nil;refine ⟨?_,?_⟩;(focus (repeat' first|exact trivial|exact At.head|apply At.tail|refine ⟨?_,?_⟩)))<;>(apply A.done;kernel_rfl)));rotate_right 1;(focus (((((apply R.appendRd (xs:=d.tk) (v:=nV) (sz:=2) (ov:=some (b0,0,[])) (n:=0) (m:=d.tk.length) (old:=[]);(iterate 12 exact rfl);exact ⟨rfl,rfl⟩;(focus ((repeat' (exact Ext.one _ _));done));exact rfl;exact nV_len;exact rfl;(intro w1 hw1;exact htr hw1 (Ext.mem (by (focus (repeat' first|exact Ext.all _|apply Ext.cons|apply Ext.app);done))) d (List.mem_of_getElem? hd));exact fl_oneG nV_one _;omega;intro ov1 hov1 hsome1;rw [List.nil_append,Nat.zero_add];rw [List.nil_append,Nat.zero_add] at hov1)));apply R.nil;refine ⟨?_,?_⟩;(focus (repeat' first|exact trivial|exact At.head|apply At.right|refine ⟨?_,?_⟩)))<;>(apply A.one 11;kernel_rfl;exact rfl;(((apply R.buildSlice;(iterate 12 exact rfl);intro)));apply R.nil;refine ⟨?_,?_⟩;(focus (repeat' first|exact trivial|exact At.head|apply At.tail|apply At.right|refine ⟨?_,?_⟩)))<;>(apply A.one 12;kernel_rfl;exact rfl;(((apply R.append1;(iterate 12 exact rfl);(focus (repeat' first|exact OwnAt.mid hov1|apply OwnAt.tail);done);exact At.head;exact rfl;exact rfl;omega;omega;intro b2 j2 k2 hj2)));apply R.nil;refine ⟨?_,?_⟩;(focus (repeat' first|exact trivial|exact At.head|apply At.tail|refine ⟨?_,?_⟩)))<;>(apply A.tk 13;exact rfl;kernel_rfl;(apply Ok1.indexAddr;(iterate 5 exact rfl);omega;omega))<;>(apply A.tk 14;exact rfl;kernel_rfl;(apply Ok1.fieldAddr;(iterate 5 exact rfl)))<;>(apply A.one 15;kernel_rfl;exact rfl;(((apply R.store;(iterate 6 exact rfl);(focus (repeat' first|exact Upd.head|apply Upd.tail);done);exact hset b2 j2 k2)));apply R.nil;refine ⟨?_,?_⟩;(focus (repeat' first|exact trivial|exact At.head|apply At.tail|refine ⟨?_,?_⟩)))<;>(apply A.done;kernel_rfl))))))))))))))
      all_goals exact ⟨⟨setE6 z.es ix e (takeC e.e x.n1 x.n2),z.clk,z.ov,z.dl.set j ⟨d.c,d.kn,d.asked,d.ks,d.kp,d.kc,d.tk++[(x.n1,x.n2)],ovp (some (b2,j2,k2)),ovc (some (b2,j2,k2)) (d.tk++[(x.n1,x.n2)]).length⟩,blkL 26 (some (b2,j2,k2)) (fl nV (d.tk++[(x.n1,x.n2)]))++z.KB⟩,hz.set (d2:=⟨d.c,d.kn,d.asked,d.ks,d.kp,d.kc,d.tk++[(x.n1,x.n2)],ovp (some (b2,j2,k2)),ovc (some (b2,j2,k2)) (d.tk++[(x.n1,x.n2)]).length⟩) (x:=takeC e.e x.n1 x.n2) hd he (hec.trans hdc.symm) rfl _ (fun q h=>List.mem_append_right _ h) (Nat.le_succ i) (hr.take (fun q h=>List.mem_append_right _ h) (Nat.lt_succ_self i) hkn hN hl (some (b2,j2,k2)) (by rw [fl_snoc,List.length_append];exact OvOk.some (b:=b2) hov1 (ys:=nV (x.n1,x.n2)) (m:=1) rfl hj2) (fun q h=>List.mem_append_left _ h)) z.ov (hz.ov.set8 (by rw [List.length_set])),⟨rfl,rfl,rfl,rfl,by simp only [List.length_set];rw [hsv,hpq];rfl,rfl,trivial⟩,by simp only [CZ.M];rw [hzo,← hB1];simp only [blkL,fl_snoc,List.cons_append,List.nil_append];(focus (repeat' first|exact Ext.one _ _|exact Ext.here _ _|exact Ext.all _|apply Keep.cons|apply Keep.app|apply Keep.last|apply Ext.cons);done)⟩
  · have hfd:=fun {w1:World} {S:List Nat} {L:Lst} (hw:Hp w S L w1) (hb:∀ q∈MB,q∈L)=>vfindQ_ok (ovp z.ov) (ovc z.ov z.dl.length) z.dl (by omega) x.c w1 (hown hw hb)
    have hvd:=fun {w1:World} {S:List Nat} {L:Lst} (hw:Hp w S L w1) (hb:∀ q∈MB,q∈L)=>vdropQ_ok (ovp z.ov) (ovc z.ov z.dl.length) z.dl (by omega) x.c w1 (hown hw hb)
    have hel:=hz.elen
    have hDr:=fun b2 w1 L Lr S (hw:Hp w S L w1) (he:Ext L B0 Lr) (ha:At Lr b2 (.cells ⟨[.int .i64 x.c.id,.int .i64 x.c.roles,.int .i64 x.c.exp,.int .i64 x.c.ser,.int .i64 x.c.id,.int .i64 x.c.roles,.int .i64 x.c.exp,.int .i64 x.c.ser]⟩ 34 (0,0)))=>dropB_ok b bm z.es z.clk x.c hz.nd (by omega) (some ⟨b2,0,none⟩) 2 w1 (RdSl.ofMem (junk:=[]) hw (he.perm.subset (List.mem_append_right _ ha.mem)) rfl) (by rw [← hB0];exact Off.of hw he ha)
    simp only [kvC] at hfd hvd hDr
    rw [← hB0] at hDr
    have hfin:=fun ov hov=>hzn.filt (fun c=>decide (c≠x.c)) ov hov
    simp only at hfin
    generalize hD2:(z.dl.filter fun d=>decide (d.c≠x.c))=D2 at *
    have hcs:(posQ z.dl x.c = -1∧(if x.c∈z.es.map BE.c then (1:Int) else 0)=0) ∨ (∃ j:Nat,posQ z.dl x.c=j∧(if x.c∈z.es.map BE.c then (1:Int) else 0)=1):=by
      rcases hz.find x.c with ⟨h1,h2,h3⟩|⟨j,d,ix,e,h1,h2,h3,h4,h5,h6⟩
      · exact .inl ⟨h2,if_neg h3⟩
      · exact .inr ⟨j,h3,if_pos (h5 ▸ List.mem_map_of_mem (List.mem_of_getElem? h4))⟩
    rcases hcs with ⟨h1,h2⟩|⟨j,h1,h2⟩
    all_goals
      rw [h1] at hfd
      simp only [h2] at hDr
      repeat' (first|(apply R.is1;first|(apply R.isBin;(apply R.pure;exact rfl;first|(apply Ok1.neqB15 (q:=false);(iterate 4 exact rfl);(focus ((simp;done))))|(apply Ok1.gtr_f;exact rfl;exact rfl;omega)|(apply Ok1.geq_t;exact rfl;exact rfl;omega)|(apply Ok1.geq_f;exact rfl;exact rfl;omega)|(apply Ok1.eql_t;exact rfl;exact rfl;omega)|(apply Ok1.eql_f;exact rfl;exact rfl;omega)|(apply Ok1.remN;exact rfl;exact rfl;omega;omega)))|(apply R.isCall;first|(apply R.callV (vs:=[.slice (ovp z.ov) z.dl.length (ovc z.ov z.dl.length),.agg ⟨_⟩]);(iterate 3 exact rfl);intro w1 hw1;exact hfd hw1 (Ext.mem (by (focus (repeat' first|exact Ext.here _ _|apply Ext.cons|apply Ext.app);done))))|(apply R.callE (Li:=B0) (vs:=[.pointer (some ⟨b,0,none⟩),.slice (some ⟨_,0,none⟩) 2 2]);(iterate 3 exact rfl);(focus (repeat' first|exact Ext.here _ _|apply Ext.cons);done);intro w1 hw1;exact hDr _ w1 _ _ _ hw1 (by (focus (repeat' first|exact Ext.here _ _|apply Ext.cons);done)) (by exact At.head);rintro v Lo ⟨rfl,hB1⟩)|(apply R.callE (vs:=[.slice (ovp z.ov) z.dl.length (ovc z.ov z.dl.length),.agg ⟨_⟩]);(iterate 3 exact rfl);exact Ext.none _;intro w1 hw1;exact hvd hw1 (Ext.mem (by (focus (repeat' first|exact Ext.here _ _|apply Ext.cons|apply Ext.app);done)));rintro v Lo ⟨ovn,hovn,rfl,rfl⟩))|(apply R.pure;exact rfl;first|(apply Ok1.load;exact rfl;first|(apply Ld.own1;exact rfl;exact rfl;(focus (repeat' first|exact At.head|apply At.tail);done);exact rfl)|(apply Ld.ownk;exact rfl;exact rfl;(focus (repeat' first|exact At.head|apply At.tail|apply At.right);done);exact rfl))|(apply Ok1.move;exact rfl)|(apply Ok1.fieldAddr;(iterate 5 exact rfl))|(apply Ok1.assign;exact rfl)|(apply Ok1.pick_f;exact rfl;exact rfl)|(apply Ok1.conv;(iterate 5 exact rfl)))|(apply R.buildSlice;(iterate 12 exact rfl);intro))|(apply R.isG;(apply R.guard_run;exact rfl;exact rfl))|apply R.nil|(apply T.is;first|apply T.seq|apply T.region|apply T.block|apply T.skip|(apply T.cond_t;exact rfl)|(apply T.cond_f;exact rfl)))
      all_goals skip
      exact ⟨⟨_,z.clk,ovn,D2,z.KB⟩,hfin ovn hovn,⟨rfl,rfl,rfl,rfl,rfl,rfl,trivial⟩,by simp only [CZ.M];rw [← hB1];(focus (repeat' first|exact Ext.one _ _|exact Ext.here _ _|exact Ext.all _|apply Keep.cons|apply Keep.app|apply Keep.last|apply Ext.cons|apply Ext.app);done)⟩
  · obtain ⟨flt,hflt⟩:∃ flt:List DC→List DC,flt=fun l=>l.filter fun d=>decide (d.c.id≠x.t):=⟨_,rfl⟩
    obtain ⟨gn,hgn⟩:∃ gn:List DC→List Cl,gn=fun l=>(l.filter fun d=>decide (d.c.id=x.t)).map DC.c:=⟨_,rfl⟩
    have hf1:∀ l x1,x1.c.id≠x.t→flt (l++[x1])=flt l++[x1]∧gn (l++[x1])=gn l:=by intro l x1 h;subst hflt;subst hgn;simp [h]
    have hf0:∀ l x1,x1.c.id=x.t→flt (l++[x1])=flt l∧gn (l++[x1])=gn l++[x1.c]:=by intro l x1 h;subst hflt;subst hgn;simp [h]
    have hfn:flt []=[]∧gn []=[]:=by subst hflt;subst hgn;exact ⟨rfl,rfl⟩
    have hfl:∀ l,(flt l).length≤l.length∧(gn l).length≤l.length:=by intro l;subst hflt;subst hgn;exact ⟨List.length_filter_le ..,by simp only [List.length_map];exact List.length_filter_le ..⟩
    have hfe:(z.dl.filter fun d=>decide (d.c.id≠x.t))=flt z.dl:=by rw [hflt]
    have hge:(z.dl.filter fun d=>decide (d.c.id=x.t)).map DC.c=gn z.dl:=by rw [hgn]
    have hOn:=fun p cap w1=>onlyZ b bm hz x.t p cap w1
    have hfin:=fun ov hov=>hzn.filt (fun c=>decide (c.id≠x.t)) ov hov
    simp only at hfin
    simp only [hfe,hge,← hB0] at hOn hfin
    clear hflt hgn hfe hge
    repeat' (first|(apply R.is1;first|(apply R.isBin;(apply R.pure;exact rfl;first|(apply Ok1.eql_f;exact rfl;exact rfl;omega)|(apply Ok1.remN;exact rfl;exact rfl;omega;omega)))|(apply R.pure;exact rfl;first|(apply Ok1.fieldAddr;(iterate 5 exact rfl))|(apply Ok1.load;exact rfl;(apply Ld.own1;exact rfl;exact rfl;(focus (repeat' first|exact At.head|apply At.tail);done);exact rfl))|(apply Ok1.assign;exact rfl)|(apply Ok1.conv;(iterate 5 exact rfl))))|apply R.nil|(apply T.is;first|apply T.seq|apply T.region|apply T.block|(apply T.cond_f;exact rfl)))
    apply T.loopK (α:=Nat × Ov × Ov × Ov) (I:=fun y=>y.1≤z.dl.length∧OvOk 4 y.2.1 (gn (z.dl.take y.1)).length (fl Cl.v (gn (z.dl.take y.1)))∧OvOk 8 y.2.2.1 (flt (z.dl.take y.1)).length (fl DC.v (flt (z.dl.take y.1)))∧OvOk 4 y.2.2.2 ((flt (z.dl.take y.1)).map DC.c).length (fl Cl.v ((flt (z.dl.take y.1)).map DC.c))) (σi:=fun y=>[(0,.slice pl ls.length cl),(4,.pointer (some ⟨b4,0,none⟩)),(5,.pointer (some ⟨b5,0,none⟩)),(7,.pointer (some ⟨b,0,none⟩)),(8,.slice (ovp z.ov) z.dl.length (ovc z.ov z.dl.length)),(9,.int .i64 i),(10,.pointer (some ⟨b10,0,none⟩)),(20,slV y.2.1 (gn (z.dl.take y.1)).length),(21,slV y.2.2.1 (flt (z.dl.take y.1)).length),(22,slV y.2.2.2 ((flt (z.dl.take y.1)).map DC.c).length),(23,.int .i64 y.1)]) (Li:=fun y=>(b10,.cells ⟨[.int .i64 x.k,.int .i64 x.t,.int .i64 x.c.id,.int .i64 x.c.roles,.int .i64 x.c.exp,.int .i64 x.c.ser,.slice x.p x.xs.length x.cap,.int .i64 x.n1,.int .i64 x.n2]⟩ 32 (0,0))::(MB++((b5,.cells ⟨[.int .i64 n1,.int .i64 n2]⟩ 26 (0,0))::(b4,.cells ⟨[.int .i64 c.id,.int .i64 c.roles,.int .i64 c.exp,.int .i64 c.ser]⟩ 24 (0,0))::(B0++(z.KB++(blkL 24 y.2.1 (fl Cl.v (gn (z.dl.take y.1)))++(blkL 56 y.2.2.1 (fl DC.v (flt (z.dl.take y.1)))++blkL 34 y.2.2.2 (fl Cl.v ((flt (z.dl.take y.1)).map DC.c))))))))) (μ:=fun y=>z.dl.length - y.1) (i0:=(0,none,none,none))
    · simp only [List.take_zero,hfn.1,hfn.2,List.map_nil];exact ⟨Nat.zero_le _,OvOk.start 4,OvOk.start 8,OvOk.start 4⟩
    · simp only [List.take_zero,hfn.1,hfn.2,List.map_nil];exact ⟨rfl,rfl,rfl,rfl,rfl,rfl,rfl,rfl,rfl,rfl,rfl,trivial⟩
    · show Keep _ (_::(MB++(_::_::(B0++(z.KB++([]++([]++[])))))))
      simp only [List.append_nil]
      (focus (repeat' first|exact Ext.one _ _|exact Ext.here _ _|exact Ext.all _|apply Keep.cons|apply Keep.app|apply Keep.last|apply Ext.cons|apply Ext.app);done)
    rintro ⟨j,og,orr,oo⟩ ⟨hj,hog,hor,hoo⟩
    simp only at hj hog hor hoo ⊢
    rcases Nat.lt_or_ge j z.dl.length with hlt|hge
    · obtain ⟨d,hd⟩:∃ d,z.dl[j]? = some d:=⟨_,List.getElem?_eq_getElem hlt⟩
      obtain ⟨bq,jq,kq,hzo⟩:∃ bq jq kq,z.ov=some (bq,jq,kq):=by
        have hzv:=hz.ov
        cases hzo:z.ov with
        | none=>rw [hzo] at hzv;have:=hzv.2;omega
        | some q=>exact ⟨_,_,_,rfl⟩
      have hMB3:MB=[(bq,.cells ⟨fl DC.v z.dl++kq⟩ 56 (0,0))]:=by rw [hMB,hzo];rfl
      have hpq:ovp z.ov=some ⟨bq,0,none⟩:=by rw [hzo];rfl
      have htk:z.dl.take (j+1)=z.dl.take j++[d]:=by rw [List.take_add_one,hd];rfl
      have hf1x:=hf1 (z.dl.take j) d
      have hf0x:=hf0 (z.dl.take j) d
      have hfli:=hfl (z.dl.take j)
      rw [List.length_take] at hfli
      rw [← htk] at hf1x hf0x
      have htd:=to5_ok d.c.id d.c.roles d.c.exp d.c.ser
      rw [hMB3,hpq]
      simp only [List.cons_append,List.nil_append]
      by_cases hxc:d.c.id=x.t
      · obtain ⟨hA,hG⟩:=hf0x hxc
        generalize flt (z.dl.take j)=AA at *
        have hml:(AA.map DC.c).length=AA.length:=List.length_map ..
        generalize gn (z.dl.take j)=GG at *
        repeat' (first|(apply R.is1;first|(apply R.isBin;(apply R.pure;exact rfl;first|(apply Ok1.add64;exact rfl;exact rfl;omega;omega)|(apply Ok1.lss_t;exact rfl;exact rfl;omega)))|(apply R.isCall;first|(apply R.append1;(iterate 12 exact rfl);(focus (repeat' first|exact OwnAt.mid hog|apply OwnAt.tail|apply OwnAt.right);done);exact At.head;exact rfl;exact rfl;omega;omega;intro b2 j2 k2 hj2)|(apply R.pure;exact rfl;(apply Ok1.lenS;(iterate 3 exact rfl))))|(apply R.pure;exact rfl;first|(apply Ok1.load;exact rfl;(apply Ld.ownrowk (f:=0);(focus (repeat' first|exact At.head|apply At.tail);done);exact DC.v_len;exact hd;(focus ((simp;done)));(iterate 3 exact rfl)))|(apply Ok1.move;exact rfl)|(apply Ok1.fieldAddr;(iterate 5 exact rfl))|(apply Ok1.assign;exact rfl)|(apply Ok1.indexAddr;(iterate 5 exact rfl);omega;omega))|(apply R.buildSlice;(iterate 12 exact rfl);intro))|apply R.nil|(apply T.is;first|(apply T.drawC (id:=19) [0,1] (by decide);((apply A.tk 0;exact rfl;kernel_rfl;(apply Ok1.move;exact rfl))<;>(apply A.tk 1;exact rfl;kernel_rfl;(apply Ok1.move;exact rfl))<;>(apply A.tk 2;exact rfl;kernel_rfl;(apply Ok1.indexAddr;(iterate 5 exact rfl);omega;omega))<;>(apply A.tk 3;exact rfl;kernel_rfl;(apply Ok1.fieldAddr;(iterate 5 exact rfl)))<;>(apply A.tk 4;exact rfl;kernel_rfl;(apply Ok1.fieldAddr;(iterate 5 exact rfl)))<;>(apply A.tk 5;exact rfl;kernel_rfl;(apply Ok1.load;exact rfl;(apply Ld.ownrow1 (f:=0);(focus (repeat' first|exact At.head|apply At.tail);done);exact DC.v_len;exact hd;(focus ((simp;done)));(iterate 3 exact rfl))))<;>(apply A.tk 6;exact rfl;kernel_rfl;(apply Ok1.fieldAddr;(iterate 5 exact rfl)))<;>(apply A.tk 7;exact rfl;kernel_rfl;(apply Ok1.load;exact rfl;(apply Ld.own1;exact rfl;exact rfl;exact At.head;exact rfl)))<;>((apply A.tk 8;exact rfl;kernel_rfl;(apply Ok1.eql_t;exact rfl;exact rfl;omega)))<;>(apply A.done;kernel_rfl)))|apply T.seq|apply T.region|apply T.block|apply T.skip|(apply T.cond_t;exact rfl)))
        all_goals skip
        refine ⟨(j+1,some (b2,j2,k2),orr,oo),?_⟩
        simp only [hA,hG,List.length_append,List.length_singleton,fl_snoc]
        exact ⟨⟨by omega,OvOk.some (b:=b2) hog (ys:=Cl.v d.c) (m:=1) rfl hj2,hor,hoo⟩,by omega,⟨rfl,rfl,rfl,rfl,rfl,rfl,rfl,rfl,rfl,rfl,rfl,trivial⟩,by simp only [blkL,List.cons_append,List.nil_append];(focus (repeat' first|exact Ext.one _ _|exact Ext.here _ _|exact Ext.all _|apply Keep.cons|apply Keep.app|apply Keep.last|apply Ext.cons);done)⟩
      · obtain ⟨hA,hG⟩:=hf1x hxc
        generalize flt (z.dl.take j)=AA at *
        have hml:(AA.map DC.c).length=AA.length:=List.length_map ..
        generalize gn (z.dl.take j)=GG at *
        repeat' (first|(apply R.is1;first|(apply R.isBin;(apply R.pure;exact rfl;first|(apply Ok1.add64;exact rfl;exact rfl;omega;omega)|(apply Ok1.lss_t;exact rfl;exact rfl;omega)))|(apply R.isCall;first|apply R.callP rfl rfl rfl htd|(apply R.append1;(iterate 12 exact rfl);(focus (repeat' first|exact OwnAt.mid hor|apply OwnAt.tail|apply OwnAt.right);done);exact At.head;exact rfl;exact rfl;omega;omega;intro b2 j2 k2 hj2)|(apply R.append1;(iterate 12 exact rfl);(focus (repeat' first|exact OwnAt.base hoo|apply OwnAt.tail|apply OwnAt.right);done);exact At.head;exact rfl;exact rfl;omega;omega;intro b3 j3 k3 hj3)|(apply R.pure;exact rfl;(apply Ok1.lenS;(iterate 3 exact rfl))))|(apply R.pure;exact rfl;first|(apply Ok1.load;exact rfl;(apply Ld.ownrowk (f:=0);(focus (repeat' first|exact At.head|apply At.tail);done);exact DC.v_len;exact hd;(focus ((simp;done)));(iterate 3 exact rfl)))|(apply Ok1.move;exact rfl)|(apply Ok1.fieldAddr;(iterate 5 exact rfl))|(apply Ok1.assign;exact rfl)|(apply Ok1.indexAddr;(iterate 5 exact rfl);omega;omega))|(apply R.buildSlice;(iterate 12 exact rfl);intro))|apply R.nil|(apply T.is;first|(apply T.drawC (id:=19) [0,1] (by decide);((apply A.tk 0;exact rfl;kernel_rfl;(apply Ok1.move;exact rfl))<;>(apply A.tk 1;exact rfl;kernel_rfl;(apply Ok1.move;exact rfl))<;>(apply A.tk 2;exact rfl;kernel_rfl;(apply Ok1.indexAddr;(iterate 5 exact rfl);omega;omega))<;>(apply A.tk 3;exact rfl;kernel_rfl;(apply Ok1.fieldAddr;(iterate 5 exact rfl)))<;>(apply A.tk 4;exact rfl;kernel_rfl;(apply Ok1.fieldAddr;(iterate 5 exact rfl)))<;>(apply A.tk 5;exact rfl;kernel_rfl;(apply Ok1.load;exact rfl;(apply Ld.ownrow1 (f:=0);(focus (repeat' first|exact At.head|apply At.tail);done);exact DC.v_len;exact hd;(focus ((simp;done)));(iterate 3 exact rfl))))<;>(apply A.tk 6;exact rfl;kernel_rfl;(apply Ok1.fieldAddr;(iterate 5 exact rfl)))<;>(apply A.tk 7;exact rfl;kernel_rfl;(apply Ok1.load;exact rfl;(apply Ld.own1;exact rfl;exact rfl;exact At.head;exact rfl)))<;>((apply A.tk 8;exact rfl;kernel_rfl;(apply Ok1.eql_f;exact rfl;exact rfl;omega)))<;>(apply A.done;kernel_rfl)))|apply T.seq|apply T.region|apply T.block|apply T.skip|(apply T.cond_t;exact rfl)|(apply T.cond_f;exact rfl)))
        all_goals skip
        refine ⟨(j+1,og,some (b2,j2,k2),some (b3,j3,k3)),?_⟩
        simp only [hA,hG,List.map_append,List.map_cons,List.map_nil,List.length_append,List.length_singleton,fl_snoc]
        exact ⟨⟨by omega,hog,OvOk.some (b:=b2) hor (ys:=DC.v d) (m:=1) rfl hj2,OvOk.some (b:=b3) hoo (ys:=Cl.v d.c) (m:=1) rfl hj3⟩,by omega,⟨rfl,rfl,rfl,rfl,rfl,rfl,rfl,rfl,rfl,rfl,rfl,trivial⟩,by simp only [blkL,List.cons_append,List.nil_append];(focus (repeat' first|exact Keep.nil _|exact Ext.one _ _|exact Ext.here _ _|apply Keep.cons|apply Keep.app|apply Ext.cons);done)⟩
    · have hjm:j=z.dl.length:=by omega
      subst hjm
      rw [List.take_length] at hog hor hoo ⊢
      have hfli:=hfl z.dl
      have hol:((flt z.dl).map DC.c).length≤16:=by rw [List.length_map];omega
      generalize flt z.dl=AA at *
      generalize gn z.dl=GG at *
      generalize AA.map DC.c=OO at *
      have hsm:=fun p1 p2 c1 c2 w1 h1 h2=>same15_ok p1 p2 c1 c2 GG GG (by omega) (by omega) w1 h1 h2
      simp only [decide_true] at hsm
      rw [slV_eq hog,slV_eq hor,slV_eq hoo]
      repeat' (first|(apply R.is1;first|(apply R.isBin;(apply R.pure;exact rfl;(apply Ok1.lss_f;exact rfl;exact rfl;omega)))|(apply R.isCall;first|(apply R.callE (Li:=B0) (vs:=[.pointer (some ⟨b,0,none⟩),.slice (ovp oo) OO.length (ovc oo OO.length)]);(iterate 3 exact rfl);(focus (repeat' first|exact Ext.here _ _|apply Ext.cons|apply Ext.app);done);intro w1 hw1;exact hOn _ _ w1 (RdSl.own' hw1 (Ext.mem (by (focus (repeat' first|exact Ext.all _|apply Ext.cons|apply Ext.app);done))) hoo Cl.v_len) (fun _=>ovoff hw1 (by (focus (repeat' first|exact Ext.here _ _|apply Ext.cons|apply Ext.app);done)) (Ext.mem (by (focus (repeat' first|exact Ext.all _|apply Ext.cons|apply Ext.app);done))));rintro v Lo ⟨o1,ho1,rfl,hq⟩;(obtain ⟨B1,hB1⟩:∃ B1,BL b bm (z.es.filter fun x_1=>decide (x_1.c.id≠x.t)) z.clk=B1:=⟨_,rfl⟩);rw [hq,hB1,slV_eq ho1,List.append_assoc];clear hq)|(apply R.callV (vs:=[.slice (ovp o1) GG.length (ovc o1 GG.length),.slice (ovp og) GG.length (ovc og GG.length)]);(iterate 3 exact rfl);intro w1 hw1;exact hsm _ _ _ _ w1 (RdSl.own' hw1 (Ext.mem (by (focus ((repeat' (exact Ext.here _ _));done)))) ho1 Cl.v_len) (RdSl.own' hw1 (Ext.mem (by (focus (repeat' first|exact Ext.here _ _|apply Ext.cons|apply Ext.app);done))) hog Cl.v_len))|(apply R.pure;exact rfl;(apply Ok1.lenS;(iterate 3 exact rfl))))|(apply R.pure;exact rfl;first|(apply Ok1.move;exact rfl)|(apply Ok1.assign;exact rfl)|(apply Ok1.not_t;exact rfl)))|apply R.nil|(apply T.is;first|apply T.seq|apply T.region|apply T.skip|apply T.exit|(apply T.cond_f;exact rfl)))
      all_goals skip
      exact ⟨⟨_,z.clk,orr,AA,z.KB⟩,hfin orr hor,⟨rfl,rfl,rfl,rfl,by rw [slV_eq hor];rfl,rfl,trivial⟩,by simp only [CZ.M];rw [hB1];(focus (repeat' first|exact Ext.one _ _|exact Ext.here _ _|apply Keep.cons|apply Keep.app|apply Keep.last|apply Ext.cons|apply Ext.app);done)⟩
end Go.Proofs.Ytijbmkjebidanaa
set_option linter.unusedSimpArgs false
set_option linter.unusedVariables false
namespace Go.Proofs.Ytijbmkjebidanaa
open Go.ChangeShapes Go.WideShapes Go.ChangeAt Go.RowKit
instance:Inhabited AC:=⟨⟨0,0,⟨0,0,0,0⟩,none,0,[],0,0⟩⟩
theorem int1_decP {cs:List Value} (h:allW [.int .i64] cs):∃ a:Int,cs=[.int .i64 a]:=by
  match cs,h with
  | [.int k1 a],h =>
    obtain ⟨⟨rfl,_⟩,_⟩:=h
    exact ⟨a,rfl⟩
def ncKsP:List TK:=[.int .i64,.int .i64]
theorem nc_decP:∀ cs,allW ncKsP cs→∃ p,nV p=cs:=by
  rintro cs h
  simp only [ncKsP] at h
  match cs,h with
  | [.int k1 a,.int k2 b],h =>
    obtain ⟨⟨rfl,_⟩,⟨rfl,_⟩,_⟩:=h
    exact ⟨⟨a,b⟩,rfl⟩
section
variable {H:Type} {enc:TypeId × Value→H} {w:World} {base:Nat} {spare:Nat→Bool} {held:Bool}
theorem u8_opensP:Opens enc Try.prog w base spare held 5 fun cs=>∃ x:Int,u8V x=cs∧(0≤x∧x≤255) :=
  (Opens.flat (ks:=[.int .u8]) tb rfl rfl rfl).mono fun cs h=>by
    match cs,h with
    | [.int k1 a],h =>
      obtain ⟨⟨rfl,h2⟩,_⟩:=h
      have e0:IntKind.u8.min=0:=rfl
      have e1:IntKind.u8.max=255:=rfl
      exact ⟨a,rfl,by omega⟩
theorem ac_opens:Opens enc Try.prog w base spare held 32 fun cs=>∃ x:AC,x.v=cs∧x.okR w:=by
  have hi:Opens enc Try.prog w base spare held 3 fun cs=>∃ a:Int,cs=[.int .i64 a]:=(Opens.flat (ks:=[.int .i64]) tb rfl rfl rfl).mono fun cs h=>int1_decP h
  have h0:=Opens.field (enc:=enc) (w:=w) (base:=base) (spare:=spare) (held:=held) tb (t:=32) rfl rfl 0 rfl hi
  have h1:=Opens.field (enc:=enc) (w:=w) (base:=base) (spare:=spare) (held:=held) tb (t:=32) rfl rfl 1 rfl hi
  have h2:=Opens.field (enc:=enc) (w:=w) (base:=base) (spare:=spare) (held:=held) tb (t:=32) rfl rfl 2 rfl ((Opens.flat (ks:=clKs) tb rfl rfl rfl).mono cl_dec)
  have h3:=Opens.field (enc:=enc) (w:=w) (base:=base) (spare:=spare) (held:=held) tb (t:=32) rfl rfl 3 rfl (Opens.slice u8V (fun x=>0≤x∧x≤255) tb rfl rfl rfl rfl (fun _=>rfl) u8_opensP)
  have h4:=Opens.field (enc:=enc) (w:=w) (base:=base) (spare:=spare) (held:=held) tb (t:=32) rfl rfl 4 rfl ((Opens.flat (ks:=ncKsP) tb rfl rfl rfl).mono nc_decP)
  refine ((((h0.and h1).and h2).and h3).and h4).mono ?_
  rintro cs ⟨⟨⟨⟨⟨hl,a,g0⟩,⟨_,b,g1⟩⟩,⟨_,c,g2⟩⟩,⟨_,g3⟩⟩,⟨_,n,g4⟩⟩
  obtain ⟨p,xs,cap,e3,q1,q2,_⟩:=g3
  refine ⟨⟨a,b,c,p,cap,xs,n.1,n.2⟩,?_,q1,q2⟩
  replace hl:cs.length=9:=hl
  match cs,hl,g0,g1,g2,e3,g4 with
  | [x0,x1,x2,x3,x4,x5,x6,x7,x8],_,g0,g1,g2,e3,g4 =>
    simp at g0 g1 g2 e3 g4
    rw [g0,g1,e3]
    have e4:AC.v ⟨a,b,c,p,cap,xs,n.1,n.2⟩=[.int .i64 a,.int .i64 b]++(c.v++([.slice p xs.length cap]++nV n)):=rfl
    rw [e4,g2,g4]
    rfl
end
end Go.Proofs.Ytijbmkjebidanaa
