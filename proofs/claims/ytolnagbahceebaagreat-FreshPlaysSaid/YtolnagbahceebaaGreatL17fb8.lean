/- Texts of the proof: Fp1. -/
import Derived.Test.YtolnagbahceebaaGreatL17fb7
set_option linter.unusedSimpArgs false
set_option linter.unusedVariables false
namespace Go.Proofs.YtolnagbahceebaaGreat
open Go.RowKit Go.Shelf
set_option maxRecDepth 100000
theorem LOk.appF {ls:List (List Int)} (h:LOk ls) (dd:List (Int × List Int)):LOk (appL ls dd):=by
  unfold appL
  by_cases h0:appX ls dd=0
  · rw [if_pos h0]
    have hd:DR dd∧appE (ls.zip dd)=0:=by
      unfold appX at h0
      split at h0
      · rename_i hd;exact ⟨hd,h0⟩
      · cases h0
    intro ys hy
    obtain ⟨x,hx,rfl⟩:=List.mem_map.1 hy
    have hj : JE x=0:=by
      have hE:=hd.2
      unfold appE at hE
      split at hE
      · omega
      · split at hE
        · omega
        · rename_i h3
          split at hE
          · omega
          · rename_i h6
            rcases je_cases x with h|h|h
            · exact h
            · exact absurd ⟨x,hx,h⟩ h3
            · exact absurd ⟨x,hx,h⟩ h6
    have h1:=h x.1 (List.of_mem_zip hx).1
    have h2:=hd.1 x.2 (List.of_mem_zip hx).2
    refine ⟨?_,?_,jl_len x⟩
    · rw [← JA_eq hj]
      intro y hy
      unfold JA jAll at hy
      rcases List.mem_append.1 hy with h3|h3
      · exact h1.1 y h3
      · exact h2.2.2.2 y (List.mem_of_mem_drop h3)
    · rw [← JA_eq hj]
      unfold JE jE at hj
      split at hj
      · cases hj
      · split at hj
        · cases hj
        · rename_i hn
          exact Classical.not_not.1 hn
  · rw [if_neg h0];exact h
theorem take_ls {m:FM} (h:LOk m.ls) (seed tick:Int) (dr vs:List Int) (dd:List (Int × List Int)):LOk (m.take seed tick dr vs dd).ls:=by
  unfold FM.take
  split
  · exact h.appF dd
  · exact h
section
variable {X:Cx} {σ:Env} {L:Lst} {d:Option Nat} {ty t e:TypeId} {pos:String} {af:Array Edge} {g:Option (Nat × Bool)} {x:Operand} {r re:TRow} {p:Option Addr} {n cap i:Nat} {m:Int}
theorem Ok1.preRE {hi:Operand} (ht:X.tb.row t=some r) (hk:r.k = .slice e) (he:X.tb.row e=some re) (hx:ev σ x=some (.slice p n cap)) (hh:ev σ hi=some (.int .i64 m)) (hm:m=(i:Int)) (h1:i≤cap) :
    Ok1 X ⟨d,.slice t x none (some hi) none,ty,pos,af,g⟩ σ L (.slice p i cap):=by
  subst hm;exact Ok1.preR ht hk he hx hh h1
end
theorem Ld.rd8 {X:Cx} {L:Lst} {t:TypeId} {r:TRow} {b o:Nat} {xs:List Int} (ht:X.tb.row t=some r) (hk:r.k.agg=some true) (hs:r.size=8) (hl:8≤xs.length) (h:∀ w,Hp X.w0 X.S L w→RdSl w (some ⟨b,o,none⟩) u8V xs):Ld X L t ⟨b,o,none⟩ (.agg ⟨u8s (xs.take 8)⟩) :=
  .ofk ht hk (by rw [u8s_len,List.length_take,hs];omega) fun w hw i hi=>by
    rw [hs] at hi
    obtain ⟨b',o',he,H⟩:=(h w hw).at (List.getElem?_eq_getElem (show i < xs.length by omega))
    cases he
    have h1:=H 1 u8V_len 0 (by decide)
    rw [Nat.mul_one,Nat.add_zero] at h1
    rw [h1]
    simp [u8V,u8s,List.getElem?_take,hi,List.getElem?_eq_getElem (show i < xs.length by omega)]
structure BI (w:World) (q:Option Addr) (cp:Nat) (xs:List Int) (M:Lst):Prop where
  byt:Byt (xs.drop 8)
  cap:xs.length≤cp
  big:xs.length≤1000
  adr:xs≠[]→∃ b o,q=some ⟨b,o,none⟩
  rd:∀ L w1,Hp w [] L w1→(∀ z∈M,z∈L)→RdSl w1 q u8V xs
  off:∀ L Li Lr w1,Hp w [] L w1→Ext L Li Lr→(∀ z∈M,z∈Lr)→xs≠[]→Off q (blks Li)
  one:M=[] ∨ ∃ z,M=[z]
theorem BI.old {w:World} {q:Option Addr} {cp:Nat} {xs:List Int} (h:RdSl w q u8V xs) (hb:Byt (xs.drop 8)) (hc:xs.length≤cp) (hl:xs.length≤1000):BI w q cp xs [] :=
  ⟨hb,hc,hl,fun hne=>by rcases h with h|⟨b,o,h,_⟩;exact absurd h hne;exact ⟨b,o,h⟩,fun L w1 hw _=>h.chg' hw.chg (fun _=>Off.nil _),fun L Li Lr w1 hw he _=>RdSl.old u8V_len (Nat.le_refl 1) h (fun _=>Off.nil _) hw he,.inl rfl⟩
theorem BI.own {w:World} {ov:Ov} {xs:List Int} (h:OvOk 1 ov xs.length (u8s xs)) (hb:Byt (xs.drop 8)) (hl:xs.length≤1000):BI w (ovp ov) (ovc ov xs.length) xs (blkL 5 ov (u8s xs)) :=
  ⟨hb,ovc_le h,hl,fun hne=>by
    cases ov with
    | none=>exact absurd (List.length_eq_zero_iff.1 h.2) hne
    | some z=>exact ⟨z.1,0,rfl⟩,fun L w1 hw hin=>rdown h hw hin,fun L Li Lr w1 hw he hin _=>ovoff hw he hin,by
    cases ov with
    | none=>exact .inl rfl
    | some z=>exact .inr ⟨_,rfl⟩⟩
theorem attB_bnd {ls:List (List Int)} {xs:List Int} (h4:(lensI ls).length=4) (hlo:LOk ls) (hv:VR (lensI ls)) (hx:xs=[] ∨ AskB xs) (room:Int) (hr:room≤360):Byt ((attB ls xs room).drop 8)∧(attB ls xs room).length≤1000:=by
  by_cases hE:attE xs room=0
  · have h40:40≤room:=by
      unfold attE at hE
      split at hE
      · omega
      · split at hE
        · omega
        · split at hE<;>omega
    rcases hx with h|h
    · rw [attE,if_pos (by rw [h];decide)] at hE;omega
    · obtain ⟨_,B,h1,h2,h3,h5,h6,h7,h8,_⟩:=att_body (by rw [lensI,List.length_map] at h4;exact h4) hlo hv h ⟨h40,hr⟩
      rw [h1]
      exact ⟨h6,h8⟩
  · rw [attB,if_neg hE]
    exact ⟨fun y hy=>absurd hy (by simp),by decide⟩
structure PS where
  gs:List Lg
  ms:List Lg
  fg:List Lg
  ov:Ov
  dg:List Lg
  ow:Ov
  al:List Ak
  since:Int
  is:Bool
  ol:Ov
  xl:List Int
def PS.L (z:PS) (bs bm bf bg bo bt:Nat) (tv:List Value):Lst:=FL bf bg z.fg z.ov z.al z.since z.is++(DfL bo z.dg z.ow z.al z.since z.is++(SetL bs z.gs++(DSL bm z.ms++(blkL 5 z.ol (u8s z.xl)++[(bt,.cells ⟨tv⟩ 56 (0,0))]))))
structure PS.ok (z:PS):Prop where
  g:GOk z.gs
  m:GOk z.ms
  lm:lgs z.ms=lgs z.gs
  lo:LOk (lgs z.gs)
  f:FOk z.fg z.ov z.al z.since
  d:FOk z.dg z.ow z.al z.since
  ld:lgs z.dg=lgs z.fg
  lf:LOk (lgs z.fg)
  ol:OvOk 1 z.ol z.xl.length (u8s z.xl)
  xl:z.xl=[] ∨ AskB z.xl
def pS (p:Option Addr) (n cap bs bm bf bo bt:Nat) (T0 W0:Int) (i:Nat) (z:PS):Env:=[(1,.slice p n cap),(2,.int .i64 T0),(3,.int .i64 W0),(9,.pointer (some ⟨bs,0,none⟩)),(10,.pointer (some ⟨bm,0,none⟩)),(11,.pointer (some ⟨bf,0,none⟩)),(12,.pointer (some ⟨bo,0,none⟩)),(13,.pointer (some ⟨bt,0,none⟩)),(14,slV z.ol z.xl.length),(15,.int .i64 i)]
theorem freshPlays_ok (zs:List Pi) (hz4:zs.length=4) (p:Option Addr) (cap:Nat) (rs:List FAct) (tick within:Int) (w:World) (hzr:∀ z∈zs,RdSl w z.p iV z.xs∧z.xs.length≤z.cap) (hp:RdSl w p FAct.v rs) (hok:∀ x∈rs,x.okR w) :
    CallW Tryz.prog 4 [.agg ⟨fl Pi.v zs⟩,.slice p rs.length cap,.int .i64 tick,.int .i64 within] w fun v _=>v = .bool true:=by
  have hmk9:=fun w1 (hc:Chg [] w w1)=>make9_ok zs hz4 w1 fun z hz=>⟨(hzr z hz).1.chg' hc (fun _=>Off.nil _),(hzr z hz).2⟩
  have hnw:=fun w1=>fnew_ok w1
  have hkn:=fun w1=>known17_ok w1
  have hmk:=vmake_ok
  have htl:tabV.length=72:=rfl
  have hto:tabV.all Value.oneCell'=true:=by decide
  have hatD:=@vattest_ok
  have hte:=@tells17_ok
  obtain ⟨hT0,hT1⟩:=u64_rangeM tick
  obtain ⟨hW0,hW1⟩:=u64_rangeM within
  have hzl:(fl Pi.v zs).length=4:=by rw [fl_len Pi.v_len,hz4]
  generalize tabV=tv at *
  generalize fl Pi.v zs=ZV at *
  refine enterW (tb:=tb) Tryz.func4 rfl Tryz.ntmps4 rfl ?_
  repeat' (first|(apply R.is1;first|(apply R.box;(iterate 3 exact rfl);intro b4)|(apply R.isBin;(apply R.pure;exact rfl;first|(apply Ok1.remN;exact rfl;exact rfl;omega;omega)|(apply Ok1.eqlP;(iterate 5 exact rfl))))|(apply R.isCall;first|(apply R.callE (vs:=[.agg ⟨ZV⟩]);(iterate 3 exact rfl);exact Ext.none _;intro w1 hw1;exact hmk9 w1 hw1.chg;rintro v Lo ⟨bs,gs,bm,ms,rfl,hgg,hgm,hlm,hlo,h40,rfl⟩)|(apply R.callE (vs:=[.pointer none]);(iterate 3 exact rfl);exact Ext.none _;intro w1 hw1;exact hnw w1;rintro v Lo ⟨bf,bg,fg,rfl,hfl,hfo,rfl⟩)|apply R.callP rfl rfl rfl hmk)|(apply R.pure;exact rfl;first|(apply Ok1.load;exact rfl;apply Ld.ownk;exact rfl;exact rfl;exact At.head;exact subE_all hzl)|(apply Ok1.move;exact rfl)|(apply Ok1.assign;exact rfl)|(apply Ok1.build;(iterate 5 exact rfl))|(apply Ok1.extract;exact rfl;exact rfl)|(apply Ok1.pick_f;exact rfl;exact rfl)|(apply Ok1.convI64;(iterate 5 exact rfl);omega;omega)|(apply Ok1.conv;(iterate 5 exact rfl)))|(apply R.alloc;(iterate 3 exact rfl);intro))|(apply R.is0;(apply R.store;(iterate 4 exact rfl);exact htl;exact hto;exact Upd.head;exact setE_all (by rw [htl];rfl)))|(apply R.isG;(apply R.guard_run;exact rfl;exact rfl))|apply R.nil|(apply T.is;first|apply T.seq|apply T.region|apply T.block|apply T.skip|(apply T.cond_f;exact rfl)))
  rename_i bz bt
  obtain ⟨T0,hT⟩:∃ t,t=IntKind.u64.wrap tick % 1073741825:=⟨_,rfl⟩
  obtain ⟨W0,hW⟩:∃ t,t=IntKind.u64.wrap within % 1073741825:=⟨_,rfl⟩
  have hT9:0≤T0∧T0≤1073741824:=by omega
  have hW9:0≤W0∧W0≤1073741824:=by omega
  rw [← hT,← hW]
  clear hT hW hT0 hT1 hW0 hW1
  apply T.loopK (α:=Nat × PS) (I:=fun y=>y.1≤rs.length∧y.1≤30∧y.2.ok) (σi:=fun y=>pS p rs.length cap bs bm bf b4 bt T0 W0 y.1 y.2) (Li:=fun y=>y.2.L bs bm bf bg b4 bt tv) (μ:=fun y=>rs.length - y.1) (i0:=(0,⟨gs,ms,fg,none,[lg0,lg0,lg0,lg0],none,[],0,false,none,[]⟩))
  · refine ⟨Nat.zero_le _,Nat.zero_le _,⟨hgg,hgm,hlm,hlo,hfo,⟨GOk.new,hfo.ov,hfo.le,hfo.tk,hfo.si⟩,hfl.symm,?_,⟨rfl,rfl⟩,.inl rfl⟩⟩
    simp only [hfl]
    exact ls0_ok
  · exact ⟨rfl,rfl,rfl,rfl,rfl,rfl,rfl,rfl,rfl,rfl,trivial⟩
  · show Keep _ (FL bf bg fg none [] 0 false++([(b4,.cells ⟨setV [lg0,lg0,lg0,lg0]++DfT none 0 0 false⟩ 51 (0,0))]++(SetL bs gs++(DSL bm ms++([]++[(bt,.cells ⟨tv⟩ 56 (0,0))])))))
    generalize FL bf bg fg none [] 0 false=F0
    generalize SetL bs gs=S0
    generalize DSL bm ms=M0
    simp only [List.nil_append,List.cons_append,List.append_assoc]
    (focus (repeat' first|exact Keep.nil _|exact Ext.one _ _|exact Ext.here _ _|apply Keep.cons|apply Keep.app|apply Ext.cons);done)
  · rintro ⟨i, z⟩ ⟨hi,hi30,hz⟩
    simp only at hi hi30 hz ⊢
    by_cases hgo:i < rs.length∧i < 30
    · obtain ⟨hlt,hlt30⟩:=hgo
      obtain ⟨x,hx⟩:∃ x,rs[i]? = some x:=⟨_,List.getElem?_eq_getElem (by omega)⟩
      obtain ⟨bb,o,hpe,H⟩:=hp.at hx
      replace H:=H 13 FAct.v_len
      have hxk:=hok x (List.mem_of_getElem? hx)
      obtain ⟨xrd,xbt,xcp⟩:=hxk
      have gl:=x.v_len
      have go:x.v.all Value.oneCell'=true:=rfl
      have g0:x.v[0]? = some (.int .i64 x.kind):=rfl
      have g1:x.v[1]? = some (.int .i64 x.seed):=rfl
      have g2:x.v[2]? = some (.int .i64 x.tick):=rfl
      have g3:x.v[3]? = some (.int .i64 x.room):=rfl
      have g4:subE x.v 4 8=some (u8s x.dr):=rfl
      have g5:x.v[12]? = some (.slice x.p x.xs.length x.cap):=rfl
      generalize x.v=XV at *
      obtain ⟨hk0,hk1⟩:=u64_rangeM x.kind
      obtain ⟨gs1,ms1,fg1,ov1,dg1,ow1,al1,si1,is1,ol1,xl1⟩:=z
      have hgg:=hz.g
      have hgm:=hz.m
      have hlm:=hz.lm
      have hlo:=hz.lo
      have hfo:=hz.f
      have hdo:=hz.d
      have hld:=hz.ld
      have hlf:=hz.lf
      have hol:=hz.ol
      have hxl:=hz.xl
      simp only at hgg hgm hlm hlo hfo hdo hld hlf hol hxl
      simp only [pS,PS.L]
      rw [slV_eq hol]
      have hsrS:=@SetR.of bs gs1 hgg
      have hsrM:=@DSR.of bm ms1 hgm
      generalize hF0:FL bf bg fg1 ov1 al1 si1 is1=F0 at *
      generalize hD0:DfL b4 dg1 ow1 al1 si1 is1=D0 at *
      generalize hS0:SetL bs gs1=S0 at *
      generalize hM0:DSL bm ms1=M0 at *
      repeat' (first|(apply R.is1;first|(apply R.isBin;(apply R.pure;exact rfl;(apply Ok1.lss_t;exact rfl;exact rfl;omega)))|(apply R.isCall;(apply R.pure;exact rfl;(apply Ok1.lenS;(iterate 3 exact rfl))))|(apply R.pure;exact rfl;first|(apply Ok1.indexAddrP;(iterate 4 exact rfl);exact hpe;exact rfl;omega;omega)|(apply Ok1.load;exact rfl;apply Ld.rowk0 H;exact gl;exact List.not_mem_nil;exact rfl;exact rfl;exact subE_all gl)|(apply Ok1.move;exact rfl)|(apply Ok1.pick_t;exact rfl;exact rfl))|(apply R.alloc;(iterate 3 exact rfl);intro))|(apply R.is0;(apply R.store;(iterate 4 exact rfl);exact gl;exact go;exact Upd.head;exact setE_all gl))|(apply R.isG;(apply R.guard_run;exact rfl;exact rfl))|apply R.nil|(apply T.is;first|(apply T.stop 13)|apply T.seq|apply T.region|apply T.block|apply T.skip|(apply T.cond_t;exact rfl)))
      all_goals refine ⟨?_⟩
      rename_i b16
      refine T.weakK (σ':=[(1,.slice p rs.length cap),(2,.int .i64 T0),(3,.int .i64 W0),(9,.pointer (some ⟨bs,0,none⟩)),(10,.pointer (some ⟨bm,0,none⟩)),(11,.pointer (some ⟨bf,0,none⟩)),(12,.pointer (some ⟨b4,0,none⟩)),(13,.pointer (some ⟨bt,0,none⟩)),(14,.slice (ovp ol1) xl1.length (ovc ol1 xl1.length)),(15,.int .i64 i),(16,.pointer (some ⟨b16,0,none⟩))]) (L':=(b16,.cells ⟨XV⟩ 60 (0,0))::(bt,.cells ⟨tv⟩ 56 (0,0))::(F0++(D0++(S0++(M0++blkL 5 ol1 (u8s xl1)))))) ?_ (by (focus (repeat' first|exact Ext.one _ _|exact Ext.here _ _|apply Keep.cons|apply Keep.app|apply Keep.last|apply Ext.app);done)) ⟨rfl,rfl,rfl,rfl,rfl,rfl,rfl,rfl,rfl,rfl,rfl,trivial⟩
      refine T.meetK (α:=PS) (I:=fun z2=>z2.ok) (σi:=fun z2=>pS p rs.length cap bs bm bf b4 bt T0 W0 i z2) (Li:=fun z2=>z2.L bs bm bf bg b4 bt tv) ?_ ?_
      rotate_left 1
      · intro z2 hz2
        obtain ⟨gs2,ms2,fg2,ov2,dg2,ow2,al2,si2,is2,ol2,xl2⟩:=z2
        have hte2:=fun w1 h1 h2=>hte bf bg fg2 ov2 al2 si2 is2 hz2.f b4 dg2 ow2 hz2.d hz2.ld hz2.lf T0 W0 hT9 hW9 w1 h1 h2
        have hfr:=@FR.of bf bg fg2 ov2 al2 si2 is2 hz2.f
        have hdr:=@DFR.of b4 dg2 ow2 al2 si2 is2 hz2.d
        simp only [pS,PS.L]
        generalize hF2:FL bf bg fg2 ov2 al2 si2 is2=F2 at *
        generalize hD2:DfL b4 dg2 ow2 al2 si2 is2=D2 at *
        repeat' (first|(apply R.is1;first|(apply R.isBin;(apply R.pure;exact rfl;(apply Ok1.add64;exact rfl;exact rfl;omega;omega)))|(apply R.isCall;(apply R.callV (vs:=[.pointer (some ⟨bf,0,none⟩),.pointer (some ⟨b4,0,none⟩),.int .i64 T0,.int .i64 W0]);(iterate 3 exact rfl);intro w1 hw1;exact hte2 w1 (hfr hw1 (Ext.mem (by (focus ((repeat' (exact Ext.here _ _));done))))) (hdr hw1 (Ext.mem (by (focus (repeat' first|exact Ext.here _ _|apply Ext.app);done))))))|(apply R.pure;exact rfl;first|(apply Ok1.move;exact rfl)|(apply Ok1.assign;exact rfl)|(apply Ok1.not_t;exact rfl)))|apply R.nil|(apply T.is;first|apply T.seq|apply T.region|apply T.skip|(apply T.cond_f;exact rfl)))
        all_goals skip
        all_goals refine ⟨(i+1,⟨gs2,ms2,fg2,ov2,dg2,ow2,al2,si2,is2,ol2,xl2⟩),⟨by simp only;omega,by simp only;omega,hz2⟩,by simp only;omega,⟨rfl,rfl,rfl,rfl,rfl,rfl,rfl,rfl,rfl,rfl,trivial⟩,?_⟩
        all_goals simp only [PS.L,hF2,hD2]
        all_goals (focus (repeat' first|exact Keep.nil _|exact Ext.one _ _|exact Ext.here _ _|apply Keep.cons|apply Keep.app);done)
      have hkd:IntKind.u64.wrap x.kind % 4=0 ∨ IntKind.u64.wrap x.kind % 4=3 ∨ IntKind.u64.wrap x.kind % 4=1 ∨ IntKind.u64.wrap x.kind % 4=2:=by omega
      rcases hkd with hk|hk|hk
      · have hask:=fun w1=>fask_ok bf bg fg1 ov1 al1 si1 is1 hfo x.seed x.tick x.dr rfl w1
        have hvas:=fun w1=>vask_ok b4 dg1 ow1 al1 si1 is1 hdo x.seed x.tick x.dr rfl w1
        rw [hld] at hvas
        have hBE:FM.askE ⟨lgs fg1,al1,si1,is1⟩ x.seed x.tick x.dr=0→AskB (FM.askB ⟨lgs fg1,al1,si1,is1⟩ x.seed x.tick x.dr):=fun h=>by
          rw [FM.askB,if_pos h];exact askB_of rfl hfo.g.l4 hfo.g.vr
        have hBl:(FM.askB ⟨lgs fg1,al1,si1,is1⟩ x.seed x.tick x.dr).length≤1000:=by
          rw [FM.askB]
          split
          · rw [List.length_append,nums1_len,hfo.g.l4];exact (by decide:8+2 * 4≤1000)
          · exact (by decide:0≤1000)
        generalize FM.askE ⟨lgs fg1,al1,si1,is1⟩ x.seed x.tick x.dr=E at *
        generalize FM.askB ⟨lgs fg1,al1,si1,is1⟩ x.seed x.tick x.dr=B at *
        generalize (FM.ask ⟨lgs fg1,al1,si1,is1⟩ x.seed x.tick x.dr).al=al2 at *
        have hsa:=fun p c q e w1 h g=>same_ok p q B.length B.length c e B B rfl rfl (by omega) w1 h g
        rw [decide_eq_true (rfl:B=B)] at hsa
        rw [hF0] at hask
        rw [hD0] at hvas
        by_cases hE:E=0
        · subst hE
          repeat' (first|(apply R.is1;first|(apply R.isBin;(apply R.pure;exact rfl;first|(apply Ok1.eql_t;exact rfl;exact rfl;omega)|(apply Ok1.neq_f;exact rfl;exact rfl;omega)|(apply Ok1.remN;exact rfl;exact rfl;omega;omega)))|(apply R.isCall;first|(apply R.callE (Li:=F0) (vs:=[.pointer (some ⟨bf,0,none⟩),.int .i64 x.seed,.int .i64 x.tick,.agg ⟨u8s x.dr⟩]);(iterate 3 exact rfl);(focus (repeat' first|exact Ext.here _ _|apply Ext.cons);done);intro w1 hw1;exact hask w1;rintro v Lo ⟨ov2,oa,rfl,hoa,hfo2,rfl⟩;generalize hF2:FL bf bg fg1 ov2 al2 si1 is1=F2;rw [slV_eq hoa,List.append_assoc])|(apply R.callE (Li:=D0) (vs:=[.pointer (some ⟨b4,0,none⟩),.int .i64 x.seed,.int .i64 x.tick,.agg ⟨u8s x.dr⟩]);(iterate 3 exact rfl);(focus (repeat' first|exact Ext.here _ _|apply Ext.cons|apply Ext.app);done);intro w1 hw1;exact hvas w1;rintro v Lo ⟨ow2,ob,rfl,hob,hdo2,rfl⟩;generalize hD2:DfL b4 dg1 ow2 al2 si1 is1=D2;rw [slV_eq hob,List.append_assoc])|(apply R.callV (vs:=[.slice (ovp oa) B.length (ovc oa B.length),.slice (ovp ob) B.length (ovc ob B.length)]);(iterate 3 exact rfl);intro w1 hw1;exact hsa _ _ _ _ w1 (rdown hoa hw1 (Ext.mem (by (focus (repeat' first|exact Ext.here _ _|apply Ext.app);done)))) (rdown hob hw1 (Ext.mem (by (focus (repeat' first|exact Ext.here _ _|apply Ext.app);done))))))|(apply R.pure;exact rfl;first|(apply Ok1.load;exact rfl;first|(apply Ld.own1;exact rfl;exact rfl;(focus (repeat' first|exact At.head|apply At.right);done);exact g0)|(apply Ld.own1;exact rfl;exact rfl;(focus (repeat' first|exact At.head|apply At.right);done);exact g1)|(apply Ld.own1;exact rfl;exact rfl;(focus (repeat' first|exact At.head|apply At.right);done);exact g2)|(apply Ld.ownk;exact rfl;exact rfl;(focus (repeat' first|exact At.head|apply At.right);done);exact g4))|(apply Ok1.move;exact rfl)|(apply Ok1.fieldAddr;(iterate 5 exact rfl))|(apply Ok1.assign;exact rfl)|(apply Ok1.extract;exact rfl;exact rfl)|(apply Ok1.pick_f;exact rfl;exact rfl)|(apply Ok1.not_t;exact rfl)|(apply Ok1.conv;(iterate 5 exact rfl))))|(apply R.isG;(apply R.guard_run;exact rfl;exact rfl))|apply R.nil|(apply T.is;first|apply T.seq|apply T.region|apply T.block|apply T.skip|(apply T.cond_t;exact rfl)|(apply T.cond_f;exact rfl)))
          all_goals skip
          all_goals refine ⟨⟨gs1,ms1,fg1,ov2,dg1,ow2,al2,si1,is1,oa,B⟩,⟨hgg,hgm,hlm,hlo,hfo2,hdo2,hld,hlf,hoa,.inr (hBE rfl)⟩,?_,?_⟩
          · simp only [pS]
            rw [slV_eq hoa]
            exact ⟨rfl,rfl,rfl,rfl,rfl,rfl,rfl,rfl,rfl,rfl,trivial⟩
          · simp only [PS.L,hF2,hD2,hS0,hM0]
            (focus (repeat' first|exact Keep.nil _|exact Ext.one _ _|exact Ext.here _ _|apply Keep.cons|apply Keep.app|apply Ext.cons|apply Ext.app);done)
        · repeat' (first|(apply R.is1;first|(apply R.isBin;(apply R.pure;exact rfl;first|(apply Ok1.eql_t;exact rfl;exact rfl;omega)|(apply Ok1.eql_f;exact rfl;exact rfl;omega)|(apply Ok1.neq_f;exact rfl;exact rfl;omega)|(apply Ok1.remN;exact rfl;exact rfl;omega;omega)))|(apply R.isCall;first|(apply R.callE (Li:=F0) (vs:=[.pointer (some ⟨bf,0,none⟩),.int .i64 x.seed,.int .i64 x.tick,.agg ⟨u8s x.dr⟩]);(iterate 3 exact rfl);(focus (repeat' first|exact Ext.here _ _|apply Ext.cons);done);intro w1 hw1;exact hask w1;rintro v Lo ⟨ov2,oa,rfl,hoa,hfo2,rfl⟩;generalize hF2:FL bf bg fg1 ov2 al2 si1 is1=F2;rw [slV_eq hoa,List.append_assoc])|(apply R.callE (Li:=D0) (vs:=[.pointer (some ⟨b4,0,none⟩),.int .i64 x.seed,.int .i64 x.tick,.agg ⟨u8s x.dr⟩]);(iterate 3 exact rfl);(focus (repeat' first|exact Ext.here _ _|apply Ext.cons|apply Ext.app);done);intro w1 hw1;exact hvas w1;rintro v Lo ⟨ow2,ob,rfl,hob,hdo2,rfl⟩;generalize hD2:DfL b4 dg1 ow2 al2 si1 is1=D2;rw [slV_eq hob,List.append_assoc])|(apply R.callV (vs:=[.slice (ovp oa) B.length (ovc oa B.length),.slice (ovp ob) B.length (ovc ob B.length)]);(iterate 3 exact rfl);intro w1 hw1;exact hsa _ _ _ _ w1 (rdown hoa hw1 (Ext.mem (by (focus (repeat' first|exact Ext.here _ _|apply Ext.app);done)))) (rdown hob hw1 (Ext.mem (by (focus (repeat' first|exact Ext.here _ _|apply Ext.app);done))))))|(apply R.pure;exact rfl;first|(apply Ok1.load;exact rfl;first|(apply Ld.own1;exact rfl;exact rfl;(focus (repeat' first|exact At.head|apply At.right);done);exact g0)|(apply Ld.own1;exact rfl;exact rfl;(focus (repeat' first|exact At.head|apply At.right);done);exact g1)|(apply Ld.own1;exact rfl;exact rfl;(focus (repeat' first|exact At.head|apply At.right);done);exact g2)|(apply Ld.ownk;exact rfl;exact rfl;(focus (repeat' first|exact At.head|apply At.right);done);exact g4))|(apply Ok1.move;exact rfl)|(apply Ok1.fieldAddr;(iterate 5 exact rfl))|(apply Ok1.assign;exact rfl)|(apply Ok1.extract;exact rfl;exact rfl)|(apply Ok1.pick_f;exact rfl;exact rfl)|(apply Ok1.not_t;exact rfl)|(apply Ok1.conv;(iterate 5 exact rfl))))|(apply R.isG;(apply R.guard_run;exact rfl;exact rfl))|apply R.nil|(apply T.is;first|apply T.seq|apply T.region|apply T.block|apply T.skip|(apply T.cond_t;exact rfl)|(apply T.cond_f;exact rfl)))
          all_goals skip
          all_goals refine ⟨⟨gs1,ms1,fg1,ov2,dg1,ow2,al2,si1,is1,ol1,xl1⟩,⟨hgg,hgm,hlm,hlo,hfo2,hdo2,hld,hlf,hol,hxl⟩,?_,?_⟩
          · simp only [pS]
            rw [slV_eq hol]
            exact ⟨rfl,rfl,rfl,rfl,rfl,rfl,rfl,rfl,rfl,rfl,trivial⟩
          · simp only [PS.L,hF2,hD2,hS0,hM0]
            (focus (repeat' first|exact Keep.nil _|exact Ext.one _ _|exact Ext.here _ _|exact Ext.all _|apply Keep.cons|apply Keep.app|apply Ext.cons|apply Ext.app);done)
      · obtain ⟨hq0,hq1⟩:=u64_rangeM x.seed
        obtain ⟨hr0,hr1⟩:=u64_rangeM x.tick
        have hrev:=fun p w1 h1 h2=>revoke_ok bs gs1 hgg (IntKind.u64.wrap x.seed % 4) p 1 1 [1+IntKind.u64.wrap x.tick % 65535] rfl (by decide) w1 h1 h2
        have hdrv:=fun p w1 h1 h2=>drevoke_ok bm ms1 hgm (IntKind.u64.wrap x.seed % 4) p 1 1 [1+IntKind.u64.wrap x.tick % 65535] rfl (by decide) w1 h1 h2
        have hlr:=hlo.rev (IntKind.u64.wrap x.seed % 4) [1+IntKind.u64.wrap x.tick % 65535]
        rw [hlm] at hdrv
        rw [hS0] at hrev
        rw [hM0] at hdrv
        obtain ⟨sd,hsd⟩:∃ s,s=IntKind.u64.wrap x.seed % 4:=⟨_,rfl⟩
        generalize revE (lgs gs1) (IntKind.u64.wrap x.seed % 4) [1+IntKind.u64.wrap x.tick % 65535]=E at *
        generalize revL (lgs gs1) (IntKind.u64.wrap x.seed % 4) [1+IntKind.u64.wrap x.tick % 65535]=LR at *
        repeat' (first|(apply R.is1;first|(apply R.isBin;(apply R.pure;exact rfl;first|(apply Ok1.add64;exact rfl;exact rfl;omega;omega)|(apply Ok1.eql_t;exact rfl;exact rfl;omega)|(apply Ok1.eql_f;exact rfl;exact rfl;omega)|(apply Ok1.remN;exact rfl;exact rfl;omega;omega)))|(apply R.pure;exact rfl;first|(apply Ok1.load;exact rfl;first|(apply Ld.own1;exact rfl;exact rfl;exact At.head;exact g0)|(apply Ld.own1;exact rfl;exact rfl;exact At.head;exact g2))|(apply Ok1.fieldAddr;(iterate 5 exact rfl))|(apply Ok1.assign;exact rfl)|(apply Ok1.convI64;(iterate 5 exact rfl);omega;omega)|(apply Ok1.conv;(iterate 5 exact rfl))))|apply R.nil|(apply T.is;first|(apply T.drawC (id:=46) [0] (by decide);((apply A.tk 0;exact rfl;kernel_rfl;(apply Ok1.move;exact rfl))<;>(apply A.tk 1;exact rfl;kernel_rfl;(apply Ok1.fieldAddr;(iterate 5 exact rfl)))<;>(apply A.tk 2;exact rfl;kernel_rfl;(apply Ok1.load;exact rfl;(apply Ld.own1;exact rfl;exact rfl;exact At.head;exact g1)))<;>(apply A.tk 3;exact rfl;kernel_rfl;(apply Ok1.conv;(iterate 5 exact rfl)))<;>(apply A.tk 4;exact rfl;kernel_rfl;(apply Ok1.remN;exact rfl;exact rfl;omega;omega))<;>(apply A.tk 5;exact rfl;kernel_rfl;(apply Ok1.convI64;(iterate 5 exact rfl);omega;omega))<;>(apply A.tk 6;exact rfl;kernel_rfl;(apply Ok1.move;exact rfl))<;>(apply A.tk 9;exact rfl;kernel_rfl;(apply Ok1.move;exact rfl))<;>(apply A.tk 10;exact rfl;kernel_rfl;(apply Ok1.fieldAddr;(iterate 5 exact rfl)))<;>(apply A.tk 11;exact rfl;kernel_rfl;(apply Ok1.load;exact rfl;(apply Ld.own1;exact rfl;exact rfl;exact At.head;exact g1)))<;>(apply A.tk 12;exact rfl;kernel_rfl;(apply Ok1.conv;(iterate 5 exact rfl)))<;>(apply A.tk 13;exact rfl;kernel_rfl;(apply Ok1.remN;exact rfl;exact rfl;omega;omega))<;>(apply A.tk 14;exact rfl;kernel_rfl;(apply Ok1.convI64;(iterate 5 exact rfl);omega;omega))<;>(apply A.tk 15;exact rfl;kernel_rfl;(apply Ok1.move;exact rfl))<;>(apply A.two 7 16;kernel_rfl;exact rfl;exact rfl;rotate_left 1;(focus (((((apply R.buildSlice;(iterate 12 exact rfl);intro)));apply R.nil;refine ⟨?_,?_⟩;(focus (repeat' first|exact trivial|exact At.head|apply At.tail|refine ⟨?_,?_⟩)))<;>(apply A.one 7;kernel_rfl;exact rfl;(((apply R.buildSlice;(iterate 12 exact rfl);intro)));apply R.nil;refine ⟨?_,?_⟩;(focus (repeat' first|exact trivial|exact At.head|apply At.tail|refine ⟨?_,?_⟩)))<;>(apply A.one 8;kernel_rfl;exact rfl;(((apply R.callE (Li:=S0) (vs:=[.pointer (some ⟨bs,0,none⟩),.int .i64 (IntKind.u64.wrap x.seed % 4),.slice (some ⟨_,0,none⟩) 1 1]);(iterate 3 exact rfl);(focus (repeat' first|exact Ext.here _ _|apply Ext.cons|apply Ext.app);done);intro w1 hw1;exact hrev _ w1 (RdSl.of (junk:=[]) hw1 (by exact At.head) rfl) (fun _=>Off.of hw1 (by (focus (repeat' first|exact Ext.here _ _|apply Ext.cons|apply Ext.app);done)) (by exact At.head));rintro v Lo ⟨gs2,rfl,hl2,hg2,rfl⟩;generalize hS2:SetL bs gs2=S2)));apply R.nil;refine ⟨?_,?_⟩;(focus (repeat' first|exact trivial|exact At.head|apply At.tail|apply At.right|refine ⟨?_,?_⟩)))<;>(apply A.one 17;kernel_rfl;exact rfl;(((apply R.callE (Li:=M0) (vs:=[.pointer (some ⟨bm,0,none⟩),.int .i64 (IntKind.u64.wrap x.seed % 4),.slice (some ⟨_,0,none⟩) 1 1]);(iterate 3 exact rfl);(focus (repeat' first|exact Ext.here _ _|apply Ext.cons|apply Ext.app);done);intro w1 hw1;exact hdrv _ w1 (RdSl.of (junk:=[]) hw1 (by (focus (repeat' first|exact At.head|apply At.tail|apply At.right);done)) rfl) (fun _=>Off.of hw1 (by (focus (repeat' first|exact Ext.here _ _|apply Ext.cons|apply Ext.app);done)) (by (focus (repeat' first|exact At.head|apply At.tail|apply At.right);done)));rintro v Lo ⟨ms2,rfl,hm2,hgm2,rfl⟩;generalize hM2:DSL bm ms2=M2)));apply R.nil;refine ⟨?_,?_⟩;(focus (repeat' first|exact trivial|exact At.head|apply At.tail|apply At.right|refine ⟨?_,?_⟩)))<;>((apply A.tk 18;exact rfl;kernel_rfl;(apply Ok1.neq_f;exact rfl;exact rfl;omega)))<;>(apply A.done;kernel_rfl)));rotate_right 1;(focus (((((apply R.buildSlice;(iterate 12 exact rfl);intro)));apply R.nil;refine ⟨?_,?_⟩;(focus (repeat' first|exact trivial|exact At.head|apply At.tail|refine ⟨?_,?_⟩)))<;>(apply A.two 8 16;kernel_rfl;exact rfl;exact rfl;rotate_left 1;(focus (((((apply R.buildSlice;(iterate 12 exact rfl);intro)));apply R.nil;refine ⟨?_,?_⟩;(focus (repeat' first|exact trivial|exact At.head|apply At.tail|refine ⟨?_,?_⟩)))<;>(apply A.one 8;kernel_rfl;exact rfl;(((apply R.callE (Li:=S0) (vs:=[.pointer (some ⟨bs,0,none⟩),.int .i64 (IntKind.u64.wrap x.seed % 4),.slice (some ⟨_,0,none⟩) 1 1]);(iterate 3 exact rfl);(focus (repeat' first|exact Ext.here _ _|apply Ext.cons|apply Ext.app);done);intro w1 hw1;exact hrev _ w1 (RdSl.of (junk:=[]) hw1 (by (focus (repeat' first|exact At.head|apply At.tail);done)) rfl) (fun _=>Off.of hw1 (by (focus (repeat' first|exact Ext.here _ _|apply Ext.cons|apply Ext.app);done)) (by (focus (repeat' first|exact At.head|apply At.tail);done)));rintro v Lo ⟨gs2,rfl,hl2,hg2,rfl⟩;generalize hS2:SetL bs gs2=S2)));apply R.nil;refine ⟨?_,?_⟩;(focus (repeat' first|exact trivial|exact At.head|apply At.tail|apply At.right|refine ⟨?_,?_⟩)))<;>(apply A.one 17;kernel_rfl;exact rfl;(((apply R.callE (Li:=M0) (vs:=[.pointer (some ⟨bm,0,none⟩),.int .i64 (IntKind.u64.wrap x.seed % 4),.slice (some ⟨_,0,none⟩) 1 1]);(iterate 3 exact rfl);(focus (repeat' first|exact Ext.here _ _|apply Ext.cons|apply Ext.app);done);intro w1 hw1;exact hdrv _ w1 (RdSl.of (junk:=[]) hw1 (by (focus (repeat' first|exact At.head|apply At.right);done)) rfl) (fun _=>Off.of hw1 (by (focus (repeat' first|exact Ext.here _ _|apply Ext.cons|apply Ext.app);done)) (by (focus (repeat' first|exact At.head|apply At.right);done)));rintro v Lo ⟨ms2,rfl,hm2,hgm2,rfl⟩;generalize hM2:DSL bm ms2=M2)));apply R.nil;refine ⟨?_,?_⟩;(focus (repeat' first|exact trivial|exact At.head|apply At.tail|apply At.right|refine ⟨?_,?_⟩)))<;>((apply A.tk 18;exact rfl;kernel_rfl;(apply Ok1.neq_f;exact rfl;exact rfl;omega)))<;>(apply A.done;kernel_rfl)));rotate_right 1;(focus (((((apply R.callE (Li:=S0) (vs:=[.pointer (some ⟨bs,0,none⟩),.int .i64 (IntKind.u64.wrap x.seed % 4),.slice (some ⟨_,0,none⟩) 1 1]);(iterate 3 exact rfl);(focus (repeat' first|exact Ext.here _ _|apply Ext.cons|apply Ext.app);done);intro w1 hw1;exact hrev _ w1 (RdSl.of (junk:=[]) hw1 (by exact At.head) rfl) (fun _=>Off.of hw1 (by (focus (repeat' first|exact Ext.here _ _|apply Ext.cons|apply Ext.app);done)) (by exact At.head));rintro v Lo ⟨gs2,rfl,hl2,hg2,rfl⟩;generalize hS2:SetL bs gs2=S2)));apply R.nil;refine ⟨?_,?_⟩;(focus (repeat' first|exact trivial|exact At.head|apply At.tail|apply At.right|refine ⟨?_,?_⟩)))<;>(apply A.one 16;kernel_rfl;exact rfl;(((apply R.buildSlice;(iterate 12 exact rfl);intro)));apply R.nil;refine ⟨?_,?_⟩;(focus (repeat' first|exact trivial|exact At.head|apply At.tail|apply At.right|refine ⟨?_,?_⟩)))<;>(apply A.one 17;kernel_rfl;exact rfl;(((apply R.callE (Li:=M0) (vs:=[.pointer (some ⟨bm,0,none⟩),.int .i64 (IntKind.u64.wrap x.seed % 4),.slice (some ⟨_,0,none⟩) 1 1]);(iterate 3 exact rfl);(focus (repeat' first|exact Ext.here _ _|apply Ext.cons|apply Ext.app);done);intro w1 hw1;exact hdrv _ w1 (RdSl.of (junk:=[]) hw1 (by exact At.head) rfl) (fun _=>Off.of hw1 (by (focus (repeat' first|exact Ext.here _ _|apply Ext.cons|apply Ext.app);done)) (by exact At.head));rintro v Lo ⟨ms2,rfl,hm2,hgm2,rfl⟩;generalize hM2:DSL bm ms2=M2)));apply R.nil;refine ⟨?_,?_⟩;(focus (repeat' first|exact trivial|exact At.head|apply At.tail|apply At.right|refine ⟨?_,?_⟩)))<;>((apply A.tk 18;exact rfl;kernel_rfl;(apply Ok1.neq_f;exact rfl;exact rfl;omega)))<;>(apply A.done;kernel_rfl)))))))))|apply T.seq|apply T.region|apply T.block|apply T.skip|(apply T.cond_t;exact rfl)|(apply T.cond_f;exact rfl)))
        all_goals skip
        all_goals refine ⟨⟨gs2,ms2,fg1,ov1,dg1,ow1,al1,si1,is1,ol1,xl1⟩,⟨hg2,hgm2,hm2.trans hl2.symm,by simp only [hl2];exact hlr,hfo,hdo,hld,hlf,hol,hxl⟩,?_,?_⟩
        all_goals first
          | (simp only [pS];rw [slV_eq hol];exact ⟨rfl,rfl,rfl,rfl,rfl,rfl,rfl,rfl,rfl,rfl,trivial⟩)
          | (simp only [PS.L,hF0,hD0,hS2,hM2];(focus (repeat' first|exact Keep.nil _|exact Ext.one _ _|exact Ext.here _ _|exact Ext.all _|apply Keep.cons|apply Keep.app|apply Ext.cons|apply Ext.app);done))
      · obtain ⟨ys, hys⟩:∃ y,y=x.xs.take 200:=⟨_,rfl⟩
        have hyl:ys.length=min x.xs.length 200:=by rw [hys,List.length_take];omega
        have hbi0:BI w x.p x.cap ys []:=by rw [hys];exact BI.old (xrd.pre u8V_len 200) (fun y hy=>xbt y (List.mem_of_mem_take (List.mem_of_mem_drop hy))) (by rw [← hys];omega) (by rw [← hys];omega)
        have hmin:(min (x.xs.length:Int) 200)=((ys.length:Nat):Int):=by omega
        have hyc:ys.length≤x.cap:=by omega
        clear hys
        repeat' (first|(apply R.is1;first|(apply R.isBin;(apply R.pure;exact rfl;first|(apply Ok1.eql_f;exact rfl;exact rfl;omega)|(apply Ok1.remN;exact rfl;exact rfl;omega;omega)))|(apply R.isCall;(apply R.pure;exact rfl;first|(apply Ok1.lenS;(iterate 3 exact rfl))|(apply Ok1.min2;exact rfl;exact rfl)))|(apply R.pure;exact rfl;first|(apply Ok1.load;exact rfl;first|(apply Ld.own1;exact rfl;exact rfl;exact At.head;exact g0)|(apply Ld.own1;exact rfl;exact rfl;exact At.head;exact g5))|(apply Ok1.preRE (i:=ys.length);(iterate 5 exact rfl);exact hmin;omega)|(apply Ok1.fieldAddr;(iterate 5 exact rfl))|(apply Ok1.assign;exact rfl)|(apply Ok1.conv;(iterate 5 exact rfl))))|apply R.nil|(apply T.is;first|(apply T.stop 15)|apply T.seq|apply T.region|apply T.block|(apply T.cond_f;exact rfl)))
        all_goals refine ⟨?_⟩
        refine T.meetK (α:=Option Addr × Nat × List Int × Lst) (I:=fun y=>BI w y.1 y.2.1 y.2.2.1 y.2.2.2) (σi:=fun y=>[(1,.slice p rs.length cap),(2,.int .i64 T0),(3,.int .i64 W0),(9,.pointer (some ⟨bs,0,none⟩)),(10,.pointer (some ⟨bm,0,none⟩)),(11,.pointer (some ⟨bf,0,none⟩)),(12,.pointer (some ⟨b4,0,none⟩)),(13,.pointer (some ⟨bt,0,none⟩)),(14,.slice (ovp ol1) xl1.length (ovc ol1 xl1.length)),(15,.int .i64 i),(16,.pointer (some ⟨b16,0,none⟩)),(22,.slice y.1 y.2.2.1.length y.2.1)]) (Li:=fun y=>(b16,.cells ⟨XV⟩ 60 (0,0))::(bt,.cells ⟨tv⟩ 56 (0,0))::(F0++(D0++(S0++(M0++(blkL 5 ol1 (u8s xl1)++y.2.2.2)))))) ?_ ?_
        · rcases hk with hk|hk
          · obtain ⟨hr0,hr1⟩:=u64_rangeM x.room
            have hxl8:Byt (xl1.drop 8):=by
              rcases hxl with h|h
              · rw [h];exact fun y hy=>absurd hy (by simp)
              · exact h.2.1
            have hxlb:xl1.length≤1000000:=by
              rcases hxl with h|h
              · rw [h];decide
              · rw [h.1];decide
            obtain ⟨hB8,hBl⟩:=attB_bnd hgg.l4 hlo hgg.vr hxl (IntKind.u64.wrap x.room % 300) (by omega)
            have hatt:=fun w1 h1 h2=>fattest_ok bs gs1 hgg hlo (ovp ol1) xl1.length (ovc ol1 xl1.length) xl1 rfl (ovc_le hol) hxlb hxl8 (IntKind.u64.wrap x.room % 300) (by omega) w1 h1 h2
            have hatd:=fun w1 h1 h2=>hatD bm ms1 hgm (by rw [hlm];exact hlo) (ovp ol1) xl1.length (ovc ol1 xl1.length) xl1 rfl (ovc_le hol) hxlb hxl8 (IntKind.u64.wrap x.room % 300) (by omega) w1 h1 h2
            rw [hlm] at hatd
            clear hatD
            generalize attE xl1 (IntKind.u64.wrap x.room % 300)=E at *
            generalize attB (lgs gs1) xl1 (IntKind.u64.wrap x.room % 300)=B at *
            have hsa:=fun p c q e w1 h g=>same_ok p q B.length B.length c e B B rfl rfl (by omega) w1 h g
            rw [decide_eq_true (rfl:B=B)] at hsa
            repeat' (first|(apply R.is1;first|(apply R.isBin;(apply R.pure;exact rfl;first|(apply Ok1.eql_t;exact rfl;exact rfl;omega)|(apply Ok1.neq_f;exact rfl;exact rfl;omega)|(apply Ok1.remN;exact rfl;exact rfl;omega;omega)))|(apply R.isCall;first|(apply R.callE (vs:=[.pointer (some ⟨bs,0,none⟩),.slice (ovp ol1) xl1.length (ovc ol1 xl1.length),.int .i64 (IntKind.u64.wrap x.room % 300)]);(iterate 3 exact rfl);exact Ext.none _;intro w1 hw1;exact hatt w1 (hsrS hw1 (Ext.mem (by (focus (repeat' first|exact Ext.here _ _|apply Ext.cons|apply Ext.app);done)))) (rdown hol hw1 (Ext.mem (by (focus (repeat' first|exact Ext.all _|apply Ext.cons|apply Ext.app);done))));rintro v Lo ⟨oa,hoa,rfl,rfl⟩;rw [slV_eq hoa])|(apply R.callE (vs:=[.agg ⟨tv⟩,.pointer (some ⟨bm,0,none⟩),.slice (ovp ol1) xl1.length (ovc ol1 xl1.length),.int .i64 (IntKind.u64.wrap x.room % 300)]);(iterate 3 exact rfl);exact Ext.none _;intro w1 hw1;exact hatd w1 (hsrM hw1 (Ext.mem (by (focus (repeat' first|exact Ext.here _ _|apply Ext.cons|apply Ext.app);done)))) (rdown hol hw1 (Ext.mem (by (focus (repeat' first|exact Ext.all _|apply Ext.cons|apply Ext.app);done))));rintro v Lo ⟨ob,hob,rfl,rfl⟩;rw [slV_eq hob])|(apply R.callV (vs:=[.slice (ovp oa) B.length (ovc oa B.length),.slice (ovp ob) B.length (ovc ob B.length)]);(iterate 3 exact rfl);intro w1 hw1;exact hsa _ _ _ _ w1 (rdown hoa hw1 (Ext.mem (by (focus (repeat' first|exact Ext.here _ _|apply Ext.app);done)))) (rdown hob hw1 (Ext.mem (by (focus ((repeat' (exact Ext.here _ _));done)))))))|(apply R.pure;exact rfl;first|(apply Ok1.load;exact rfl;first|(apply Ld.own1;exact rfl;exact rfl;exact At.head;exact g0)|(apply Ld.own1;exact rfl;exact rfl;exact At.head;exact g3)|(apply Ld.ownk;exact rfl;exact rfl;(focus (repeat' first|exact At.head|apply At.tail|apply At.right);done);exact subE_all htl))|(apply Ok1.move;exact rfl)|(apply Ok1.fieldAddr;(iterate 5 exact rfl))|(apply Ok1.assign;exact rfl)|(apply Ok1.extract;exact rfl;exact rfl)|(apply Ok1.pick_f;exact rfl;exact rfl)|(apply Ok1.not_t;exact rfl)|(apply Ok1.convI64;(iterate 5 exact rfl);omega;omega)|(apply Ok1.conv;(iterate 5 exact rfl))))|(apply R.isG;(apply R.guard_run;exact rfl;exact rfl))|apply R.nil|(apply T.is;first|apply T.seq|apply T.region|apply T.skip|(apply T.cond_t;exact rfl)|(apply T.cond_f;exact rfl)))
            all_goals skip
            exact ⟨(ovp oa,ovc oa B.length,B,blkL 5 oa (u8s B)),BI.own hoa hB8 hBl,⟨rfl,rfl,rfl,rfl,rfl,rfl,rfl,rfl,rfl,rfl,rfl,rfl,trivial⟩,by (focus (repeat' first|exact Ext.one _ _|exact Ext.here _ _|exact Ext.all _|apply Keep.cons|apply Keep.app|apply Keep.last|apply Ext.app);done)⟩
          · repeat' (first|(apply R.is1;first|(apply R.isBin;(apply R.pure;exact rfl;first|(apply Ok1.eql_f;exact rfl;exact rfl;omega)|(apply Ok1.remN;exact rfl;exact rfl;omega;omega)))|(apply R.pure;exact rfl;first|(apply Ok1.load;exact rfl;(apply Ld.own1;exact rfl;exact rfl;exact At.head;exact g0))|(apply Ok1.fieldAddr;(iterate 5 exact rfl))|(apply Ok1.conv;(iterate 5 exact rfl))))|apply R.nil|(apply T.is;first|apply T.seq|apply T.region|apply T.skip|(apply T.cond_f;exact rfl)))
            all_goals skip
            refine ⟨(x.p,x.cap,ys,[]),hbi0,⟨rfl,rfl,rfl,rfl,rfl,rfl,rfl,rfl,rfl,rfl,rfl,rfl,trivial⟩,?_⟩
            simp only [List.append_nil]
            (focus (repeat' first|exact Ext.one _ _|exact Ext.here _ _|exact Ext.all _|apply Keep.cons|apply Keep.app|apply Keep.last);done)
        · rintro ⟨q,cp,xs,M⟩ hbi
          simp only at hbi ⊢
          clear hbi0 hyl hmin hyc
          obtain ⟨hb8,hcap,hbig,hadr,hbr,hbo,hone⟩:=hbi
          have hri:=vright17_ok x.seed x.tick
          have hnr:∀ w1,RdSl w1 q u8V xs→24≤xs.length→CallM Tryz.prog 26 [.slice (sufP q cp 8 1) 16 (cp - 8)] [] w1 fun v L=>∃ br s Mr,v = .pointer (some ⟨br,0,none⟩)∧s.xs=(xs.drop 8).take 16∧s.e=0∧RsO s Mr∧L=s.L br++Mr:=fun w1 h1 h24=>by
            refine (rnewr_ok (sufP q cp 8 1) 16 (cp - 8) ((xs.drop 8).take 16) (by rw [List.length_take,List.length_drop];omega) (by decide) (fun y hy=>hb8 y (List.mem_of_mem_take hy)) w1 (RdSl.pre (v:=u8V) (sz:=1) (fun _=>rfl) (RdSl.suf (v:=u8V) (sz:=1) (fun _=>rfl) h1 (by omega) hcap) 16)).wk ?_
            rintro v L ⟨br,s,Mr,h1,h2,h3,h4,h5⟩
            exact ⟨br,s,Mr,h1,h2,h3,h4,h5⟩
          have hr9:=fun br s w1 h1=>read9_ok br s w1 h1
          have hpa:∀ w1,RdSl w1 q u8V xs→24≤xs.length→CallM Tryz.prog 27 [.slice (sufP q cp 24 1) (xs.length - 24) (cp - 24)] [] w1 fun v L=>∃ d:Dl,d.length=4∧v = .tuple #[.agg ⟨dlV d⟩,.int .i64 (tprs xs).2]∧pur d=(tprs xs).1∧DlO d L:=fun w1 h1 h24=>by
            refine (parse_ok (sufP q cp 24 1) (xs.length - 24) (cp - 24) (xs.drop 24) (by rw [List.length_drop]) (by omega) (byt24 hb8) w1 (RdSl.suf (v:=u8V) (sz:=1) (fun _=>rfl) h1 (by omega) hcap)).wk ?_
            rintro v L ⟨s,d,h1,h2,h3,h4,h5,h6⟩
            rw [if_pos (by omega)] at h1 h2
            rw [prs_att h1 h2] at h4 h5
            exact ⟨d,h3,h4,h5,h6⟩
          have hDl:∀ p8,p8.length=8→(dgV (attV xs) p8).length=12:=fun p8 h=>dg_len (attV_len xs) h
          have hDs:∀ p8,subE (dgV (attV xs) p8) 0 4=some (iis (attV xs)):=fun p8=>subE_app _ _ (by rw [iis_len,attV_len])
          by_cases hC:tkxC x.seed x.tick xs=0
          · have hR:Rgt x.seed x.tick:=by
              by_cases hR:Rgt x.seed x.tick
              · exact hR
              · rw [tkxC,if_pos hR] at hC;omega
            have h40:¬ xs.length < 40:=fun h40=>by rw [tkxC,if_neg (fun h=>h hR),if_pos h40] at hC;omega
            have hV:VR (attV xs):=by
              by_cases hV:VR (attV xs)
              · exact hV
              · rw [tkxC,if_neg (fun h=>h hR),if_neg h40,if_pos hV] at hC;omega
            have hpe:(tprs xs).2=0:=by rw [tkxC,if_neg (fun h=>h hR),if_neg h40,if_neg (fun h=>h hV)] at hC;exact hC
            have hRt:=hR
            obtain ⟨_,_,ht0,ht1⟩:=hRt
            have hx8:(xs.take 8).length=8:=by rw [List.length_take];omega
            have htk:=fun w1 h g=>ftake_good bf bg fg1 ov1 al1 si1 is1 hfo x.seed x.tick q cp xs hcap hbig hb8 w1 h g hC
            have hDR:DR (tprs xs).1:=tprs_dr hpe
            have hvt:∀ d:Dl,d.length=4→pur d=(tprs xs).1→(∀ x∈d,x.2.xs.length≤x.2.cap)→∀ w1,(∀ x∈d,RdSl w1 x.2.p iV x.2.xs)→(∀ x∈d,x.2.xs≠[]→Off x.2.p (blks (DfL b4 dg1 ow1 al1 si1 is1)))→CallM Tryz.prog 28 [.pointer (some ⟨b4,0,none⟩),.int .i64 x.seed,.int .i64 x.tick,.agg ⟨u8s (xs.take 8)⟩,.agg ⟨iis (attV xs)⟩,.agg ⟨dlV d⟩] (DfL b4 dg1 ow1 al1 si1 is1) w1 fun v L=>∃ gs' ov',v = .tuple #[.bool (FM.takeY ⟨lgs fg1,al1,si1,is1⟩ x.seed x.tick (xs.take 8) (attV xs) (tprs xs).1),.int .i64 (FM.takeE ⟨lgs fg1,al1,si1,is1⟩ x.seed x.tick (xs.take 8) (tprs xs).1)]∧lgs gs'=(FM.take ⟨lgs fg1,al1,si1,is1⟩ x.seed x.tick (xs.take 8) (attV xs) (tprs xs).1).ls∧FOk gs' ov' (FM.take ⟨lgs fg1,al1,si1,is1⟩ x.seed x.tick (xs.take 8) (attV xs) (tprs xs).1).al (FM.take ⟨lgs fg1,al1,si1,is1⟩ x.seed x.tick (xs.take 8) (attV xs) (tprs xs).1).since∧L=DfL b4 gs' ov' (FM.take ⟨lgs fg1,al1,si1,is1⟩ x.seed x.tick (xs.take 8) (attV xs) (tprs xs).1).al (FM.take ⟨lgs fg1,al1,si1,is1⟩ x.seed x.tick (xs.take 8) (attV xs) (tprs xs).1).since (FM.take ⟨lgs fg1,al1,si1,is1⟩ x.seed x.tick (xs.take 8) (attV xs) (tprs xs).1).is:=by
              intro d hd4 hpd hdc w1 h1 h2
              have h9:=vtake_ok17 b4 dg1 ow1 al1 si1 is1 hdo x.seed x.tick ht0 ht1 (xs.take 8) hx8 (attV xs) (attV_len xs) d hd4 (fun y hy=>⟨by
                have hm:(y.1,y.2.xs)∈(tprs xs).1:=by rw [← hpd];exact List.mem_map.2 ⟨y,hy,rfl⟩
                have:=(hDR _ hm).2.2.1
                simp only at this
                omega,hdc y hy⟩) w1 h1 h2
              rw [hpd,hld] at h9
              exact h9
            have hlM:=take_ls (m:=⟨lgs fg1,al1,si1,is1⟩) hlf x.seed x.tick (xs.take 8) (attV xs) (tprs xs).1
            generalize FM.takeY ⟨lgs fg1,al1,si1,is1⟩ x.seed x.tick (xs.take 8) (attV xs) (tprs xs).1=TY at *
            generalize FM.takeE ⟨lgs fg1,al1,si1,is1⟩ x.seed x.tick (xs.take 8) (tprs xs).1=TE at *
            generalize FM.take ⟨lgs fg1,al1,si1,is1⟩ x.seed x.tick (xs.take 8) (attV xs) (tprs xs).1=M2 at *
            rw [hF0] at htk
            rw [hD0] at hvt
            rw [hpe] at hpa
            rw [decide_eq_true hR] at hri
            have h24:24≤xs.length:=by omega
            have h8l:8≤xs.length:=by omega
            repeat' (first|(apply R.is1;first|(apply R.isBin;(apply R.pure;exact rfl;first|(apply Ok1.lss_f;exact rfl;exact rfl;omega)|(apply Ok1.neq_f;exact rfl;exact rfl;omega)))|(apply R.isCall;first|(apply R.callE (Li:=F0) (vs:=[.pointer (some ⟨bf,0,none⟩),.int .i64 x.seed,.int .i64 x.tick,.slice q xs.length cp]);(iterate 3 exact rfl);(focus (repeat' first|exact Ext.here _ _|apply Ext.cons);done);intro w1 hw1;exact htk w1 (hbr _ _ hw1 (Ext.mem (by (focus (repeat' first|exact Ext.all _|apply Ext.cons|apply Ext.app);done)))) (hbo _ _ _ _ hw1 (by (focus (repeat' first|exact Ext.here _ _|apply Ext.cons);done)) (Ext.mem (by (focus (repeat' first|exact Ext.all _|apply Ext.cons|apply Ext.app);done))));rintro v Lo ⟨fg2,ov2,rfl,hl2,hfo2,rfl⟩;generalize hF2:FL bf bg fg2 ov2 M2.al M2.since M2.is=F2)|apply R.callP rfl rfl rfl hri|(apply R.callE (vs:=[.slice (sufP q cp 8 1) 16 (cp - 8)]);(iterate 3 exact rfl);exact Ext.none _;intro w1 hw1;exact hnr w1 (hbr _ _ hw1 (Ext.mem (by (focus (repeat' first|exact Ext.all _|apply Ext.cons|apply Ext.app);done)))) h24;rintro v Lo ⟨br,s,Mr,rfl,hsx,hse,hso,rfl⟩;obtain ⟨p8,hp8,hrd⟩:=rd_att (by omega) hb8 hsx hse;rw [if_pos hV] at hrd)|(apply R.callE (Li:=s.L br) (vs:=[.pointer (some ⟨br,0,none⟩)]);(iterate 3 exact rfl);(focus ((repeat' (exact Ext.one _ _));done));intro w1 hw1;exact hr9 br s w1 (hso.ok hw1 (by (focus ((repeat' (exact Ext.one _ _));done))) (Ext.mem (by (focus ((repeat' (exact Ext.here _ _));done)))));rintro v Lo ⟨hv,rfl⟩;rw [hrd] at hv;simp only at hv;subst hv)|(apply R.callE (vs:=[.slice (sufP q cp 24 1) (xs.length - 24) (cp - 24)]);(iterate 3 exact rfl);exact Ext.none _;intro w1 hw1;exact hpa w1 (hbr _ _ hw1 (Ext.mem (by (focus (repeat' first|exact Ext.all _|apply Ext.cons|apply Ext.app);done)))) h24;rintro v Lo ⟨d,hd4,rfl,hpd,hdo⟩)|(apply R.pure;exact rfl;(apply Ok1.lenS;(iterate 3 exact rfl))))|(apply R.pure;exact rfl;first|(apply Ok1.load;exact rfl;first|(apply Ld.own1;exact rfl;exact rfl;(focus (repeat' first|exact At.head|apply At.right);done);exact g1)|(apply Ld.own1;exact rfl;exact rfl;(focus (repeat' first|exact At.head|apply At.right);done);exact g2))|(apply Ok1.midR (i:=8) (j:=24) (sz:=1);(iterate 7 exact rfl);omega;omega)|(apply Ok1.sufR (sz:=1) (i:=24);(iterate 6 exact rfl);omega;omega)|(apply Ok1.move;exact rfl)|(apply Ok1.fieldAddr;(iterate 5 exact rfl))|(apply Ok1.assign;exact rfl)|(apply Ok1.extract;exact rfl;exact rfl)|(apply Ok1.pick_f;exact rfl;exact rfl)|(apply Ok1.not_t;exact rfl))|(apply R.alloc;(iterate 3 exact rfl);intro))|(apply R.is0;first|(apply R.store;(iterate 4 exact rfl);exact (hDl p8 hp8);exact dg_one _ _;exact Upd.head;exact setE_all (by rw [(hDl p8 hp8)];rfl))|(apply R.store;(iterate 4 exact rfl);exact dl_len8r hd4;exact dl_oner d;exact Upd.head;exact setE_all (by rw [dl_len8r hd4];rfl)))|(apply R.isG;(apply R.guard_run;exact rfl;exact rfl))|apply R.nil|(apply T.is;first|(apply T.stop1 34)|apply T.seq|apply T.region|apply T.skip|(apply T.cond_f;exact rfl)))
            all_goals refine ⟨?_⟩
            rename_i b30 b32
            have hds:=hDs p8
            have hl8:=dl_len8r hd4
            obtain ⟨qb,qo,rfl⟩:=hadr (fun e=>by rw [e] at h8l;exact absurd h8l (by decide))
            refine T.weakK (σ':=[(1,.slice p rs.length cap),(2,.int .i64 T0),(3,.int .i64 W0),(9,.pointer (some ⟨bs,0,none⟩)),(10,.pointer (some ⟨bm,0,none⟩)),(11,.pointer (some ⟨bf,0,none⟩)),(12,.pointer (some ⟨b4,0,none⟩)),(13,.pointer (some ⟨bt,0,none⟩)),(14,.slice (ovp ol1) xl1.length (ovc ol1 xl1.length)),(15,.int .i64 i),(16,.pointer (some ⟨b16,0,none⟩)),(22,.slice (some ⟨qb,qo,none⟩) xs.length cp),(28,.bool TY),(29,.int .i64 TE),(30,.pointer (some ⟨b30,0,none⟩)),(32,.pointer (some ⟨b32,0,none⟩))]) (L':=(b16,.cells ⟨XV⟩ 60 (0,0))::(b30,.cells ⟨dgV (attV xs) p8⟩ 70 (0,0))::(b32,.cells ⟨dlV d⟩ 76 (0,0))::(M++((bt,.cells ⟨tv⟩ 56 (0,0))::(F2++(D0++(S0++(M0++(blkL 5 ol1 (u8s xl1)++Lo)))))))) ?_ (by (focus (repeat' first|exact Ext.one _ _|exact Ext.here _ _|exact Ext.all _|apply Keep.cons|apply Keep.app|apply Keep.last|apply Ext.cons|apply Ext.app);done)) ⟨rfl,rfl,rfl,rfl,rfl,rfl,rfl,rfl,rfl,rfl,rfl,rfl,rfl,rfl,rfl,rfl,trivial⟩
            rcases hone with hone|⟨⟨mb,mo⟩,hone⟩
            · subst hone
              simp only [List.nil_append]
              repeat' (first|(apply R.is1;first|(apply R.isBin;(apply R.pure;exact rfl;first|(apply Ok1.neqB;(iterate 4 exact rfl))|(apply Ok1.neq_f;exact rfl;exact rfl;omega)))|(apply R.pure;exact rfl;first|(apply Ok1.move;exact rfl)|(apply Ok1.pick_f;exact rfl;exact rfl)))|(apply R.isG;(apply R.guard_run;exact rfl;exact rfl))|apply R.nil|(apply T.is;first|(apply T.drawC (id:=34) [0,1,2] (by decide);((apply A.tk 0;exact rfl;kernel_rfl;(apply Ok1.move;exact rfl))<;>(apply A.tk 1;exact rfl;kernel_rfl;(apply Ok1.fieldAddr;(iterate 5 exact rfl)))<;>(apply A.tk 2;exact rfl;kernel_rfl;(apply Ok1.load;exact rfl;(apply Ld.own1;exact rfl;exact rfl;exact At.head;exact g1)))<;>(apply A.tk 3;exact rfl;kernel_rfl;(apply Ok1.fieldAddr;(iterate 5 exact rfl)))<;>(apply A.tk 4;exact rfl;kernel_rfl;(apply Ok1.load;exact rfl;(apply Ld.own1;exact rfl;exact rfl;exact At.head;exact g2)))<;>(apply A.tk 5;exact rfl;kernel_rfl;(apply Ok1.move;exact rfl))<;>(apply A.tk 6;exact rfl;kernel_rfl;(apply Ok1.preR (i:=8);(iterate 5 exact rfl);omega))<;>(apply A.tk 7;exact rfl;kernel_rfl;(apply Ok1.arrAt;(iterate 3 exact rfl);exact Nat.le_refl 8))<;>(apply A.tk 8;exact rfl;kernel_rfl;(apply Ok1.load;exact rfl;(apply Ld.rd8;(iterate 3 exact rfl);exact h8l;(intro w1 hw1;exact hbr _ _ hw1 (fun z hz=>nomatch hz)))))<;>(apply A.tk 9;exact rfl;kernel_rfl;(apply Ok1.fieldAddr;(iterate 5 exact rfl)))<;>(apply A.tk 10;exact rfl;kernel_rfl;(apply Ok1.load;exact rfl;(apply Ld.ownk;exact rfl;exact rfl;(focus (repeat' first|exact At.head|apply At.tail);done);exact hds)))<;>(apply A.tk 11;exact rfl;kernel_rfl;(apply Ok1.load;exact rfl;(apply Ld.ownk;exact rfl;exact rfl;(focus (repeat' first|exact At.head|apply At.tail);done);exact subE_all hl8)))<;>(apply A.call 12;exact rfl;exact rfl;kernel_rfl;kernel_rfl;kernel_rfl;exact rfl;exact rfl;(exact fun w1 hw1=>(delta9_ok d hd4).at w1))<;>(apply A.one 13;kernel_rfl;exact rfl;(((apply R.callE (Li:=D0) (vs:=[.pointer (some ⟨b4,0,none⟩),.int .i64 x.seed,.int .i64 x.tick,.agg ⟨u8s (xs.take 8)⟩,.agg ⟨iis (attV xs)⟩,.agg ⟨dlV d⟩]);(iterate 3 exact rfl);(focus (repeat' first|exact Ext.here _ _|apply Ext.cons|apply Ext.app);done);intro w1 hw1;exact hvt d hd4 hpd hdo.cap w1 (hdo.rd _ _ _ _ hw1 (Ext.mem (by (focus (repeat' first|exact Ext.all _|apply Ext.cons|apply Ext.app);done)))) (hdo.off hw1 (by (focus (repeat' first|exact Ext.here _ _|apply Ext.cons|apply Ext.app);done)) (Ext.mem (by (focus (repeat' first|exact Ext.all _|apply Ext.cons|apply Ext.app);done))));rintro v Lo2 ⟨dg2,ow2,rfl,hm2,hdo2,rfl⟩;generalize hD2:DfL b4 dg2 ow2 M2.al M2.since M2.is=D2)));apply R.nil;refine ⟨?_,?_⟩;(focus (repeat' first|exact trivial|exact At.head|apply At.tail|apply At.right|refine ⟨?_,?_⟩)))<;>(apply A.tk 14;exact rfl;kernel_rfl;(apply Ok1.move;exact rfl))<;>(apply A.tk 15;exact rfl;kernel_rfl;(apply Ok1.extract;exact rfl;exact rfl))<;>(apply A.tk 16;exact rfl;kernel_rfl;(apply Ok1.extract;exact rfl;exact rfl))<;>(apply A.tk 17;exact rfl;kernel_rfl;(apply Ok1.assign;exact rfl))<;>(apply A.tk 18;exact rfl;kernel_rfl;(apply Ok1.assign;exact rfl))<;>(apply A.done;kernel_rfl)))|apply T.seq|apply T.region|apply T.skip|(apply T.cond_f;exact rfl)))
              all_goals skip
              refine ⟨⟨gs1,ms1,fg2,ov2,dg2,ow2,M2.al,M2.since,M2.is,ol1,xl1⟩,⟨hgg,hgm,hlm,hlo,hfo2,hdo2,hm2.trans hl2.symm,by simp only [hl2];exact hlM,hol,hxl⟩,?_,?_⟩
              · simp only [pS]
                rw [slV_eq hol]
                exact ⟨rfl,rfl,rfl,rfl,rfl,rfl,rfl,rfl,rfl,rfl,trivial⟩
              · simp only [PS.L,hF2,hD2,hS0,hM0]
                (focus (repeat' first|exact Keep.nil _|exact Ext.one _ _|exact Ext.here _ _|apply Keep.cons|apply Keep.app|apply Ext.cons|apply Ext.app);done)
            · subst hone
              simp only [List.cons_append,List.nil_append]
              repeat' (first|(apply R.is1;first|(apply R.isBin;(apply R.pure;exact rfl;first|(apply Ok1.neqB;(iterate 4 exact rfl))|(apply Ok1.neq_f;exact rfl;exact rfl;omega)))|(apply R.pure;exact rfl;first|(apply Ok1.move;exact rfl)|(apply Ok1.pick_f;exact rfl;exact rfl)))|(apply R.isG;(apply R.guard_run;exact rfl;exact rfl))|apply R.nil|(apply T.is;first|(apply T.drawC (id:=34) [0,1,2,3] (by decide);((apply A.tk 0;exact rfl;kernel_rfl;(apply Ok1.move;exact rfl))<;>(apply A.tk 1;exact rfl;kernel_rfl;(apply Ok1.fieldAddr;(iterate 5 exact rfl)))<;>(apply A.tk 2;exact rfl;kernel_rfl;(apply Ok1.load;exact rfl;(apply Ld.own1;exact rfl;exact rfl;exact At.head;exact g1)))<;>(apply A.tk 3;exact rfl;kernel_rfl;(apply Ok1.fieldAddr;(iterate 5 exact rfl)))<;>(apply A.tk 4;exact rfl;kernel_rfl;(apply Ok1.load;exact rfl;(apply Ld.own1;exact rfl;exact rfl;exact At.head;exact g2)))<;>(apply A.tk 5;exact rfl;kernel_rfl;(apply Ok1.move;exact rfl))<;>(apply A.tk 6;exact rfl;kernel_rfl;(apply Ok1.preR (i:=8);(iterate 5 exact rfl);omega))<;>(apply A.tk 7;exact rfl;kernel_rfl;(apply Ok1.arrAt;(iterate 3 exact rfl);exact Nat.le_refl 8))<;>(apply A.tk 8;exact rfl;kernel_rfl;(apply Ok1.load;exact rfl;(apply Ld.rd8;(iterate 3 exact rfl);exact h8l;(intro w1 hw1;exact hbr _ _ hw1 (Ext.mem (by (focus (repeat' first|exact Ext.one _ _|apply Ext.cons);done)))))))<;>(apply A.tk 9;exact rfl;kernel_rfl;(apply Ok1.fieldAddr;(iterate 5 exact rfl)))<;>(apply A.tk 10;exact rfl;kernel_rfl;(apply Ok1.load;exact rfl;(apply Ld.ownk;exact rfl;exact rfl;(focus (repeat' first|exact At.head|apply At.tail);done);exact hds)))<;>(apply A.tk 11;exact rfl;kernel_rfl;(apply Ok1.load;exact rfl;(apply Ld.ownk;exact rfl;exact rfl;(focus (repeat' first|exact At.head|apply At.tail);done);exact subE_all hl8)))<;>(apply A.call 12;exact rfl;exact rfl;kernel_rfl;kernel_rfl;kernel_rfl;exact rfl;exact rfl;(exact fun w1 hw1=>(delta9_ok d hd4).at w1))<;>(apply A.one 13;kernel_rfl;exact rfl;(((apply R.callE (Li:=D0) (vs:=[.pointer (some ⟨b4,0,none⟩),.int .i64 x.seed,.int .i64 x.tick,.agg ⟨u8s (xs.take 8)⟩,.agg ⟨iis (attV xs)⟩,.agg ⟨dlV d⟩]);(iterate 3 exact rfl);(focus (repeat' first|exact Ext.here _ _|apply Ext.cons|apply Ext.app);done);intro w1 hw1;exact hvt d hd4 hpd hdo.cap w1 (hdo.rd _ _ _ _ hw1 (Ext.mem (by (focus (repeat' first|exact Ext.all _|apply Ext.cons|apply Ext.app);done)))) (hdo.off hw1 (by (focus (repeat' first|exact Ext.here _ _|apply Ext.cons|apply Ext.app);done)) (Ext.mem (by (focus (repeat' first|exact Ext.all _|apply Ext.cons|apply Ext.app);done))));rintro v Lo2 ⟨dg2,ow2,rfl,hm2,hdo2,rfl⟩;generalize hD2:DfL b4 dg2 ow2 M2.al M2.since M2.is=D2)));apply R.nil;refine ⟨?_,?_⟩;(focus (repeat' first|exact trivial|exact At.head|apply At.tail|apply At.right|refine ⟨?_,?_⟩)))<;>(apply A.tk 14;exact rfl;kernel_rfl;(apply Ok1.move;exact rfl))<;>(apply A.tk 15;exact rfl;kernel_rfl;(apply Ok1.extract;exact rfl;exact rfl))<;>(apply A.tk 16;exact rfl;kernel_rfl;(apply Ok1.extract;exact rfl;exact rfl))<;>(apply A.tk 17;exact rfl;kernel_rfl;(apply Ok1.assign;exact rfl))<;>(apply A.tk 18;exact rfl;kernel_rfl;(apply Ok1.assign;exact rfl))<;>(apply A.done;kernel_rfl)))|apply T.seq|apply T.region|apply T.skip|(apply T.cond_f;exact rfl)))
              all_goals skip
              refine ⟨⟨gs1,ms1,fg2,ov2,dg2,ow2,M2.al,M2.since,M2.is,ol1,xl1⟩,⟨hgg,hgm,hlm,hlo,hfo2,hdo2,hm2.trans hl2.symm,by simp only [hl2];exact hlM,hol,hxl⟩,?_,?_⟩
              · simp only [pS]
                rw [slV_eq hol]
                exact ⟨rfl,rfl,rfl,rfl,rfl,rfl,rfl,rfl,rfl,rfl,trivial⟩
              · simp only [PS.L,hF2,hD2,hS0,hM0]
                (focus (repeat' first|exact Keep.nil _|exact Ext.one _ _|exact Ext.here _ _|apply Keep.cons|apply Keep.app|apply Ext.cons|apply Ext.app);done)
          · have htk:=fun w1 h g=>ftake_bad bf bg fg1 ov1 al1 si1 is1 hfo x.seed x.tick q cp xs hcap hbig hb8 w1 h g hC
            rw [hF0] at htk
            by_cases hR:Rgt x.seed x.tick
            · rw [decide_eq_true hR] at hri
              by_cases h40:xs.length < 40
              · have hC4:tkxC x.seed x.tick xs=4:=by rw [tkxC,if_neg (fun h=>h hR),if_pos h40]
                rw [hC4] at htk
                repeat' (first|(apply R.is1;first|(apply R.isBin;(apply R.pure;exact rfl;first|(apply Ok1.add64;exact rfl;exact rfl;omega;omega)|(apply Ok1.lss_t;exact rfl;exact rfl;omega)|(apply Ok1.neq_f;exact rfl;exact rfl;omega)))|(apply R.isCall;first|(apply R.callE (Li:=F0) (vs:=[.pointer (some ⟨bf,0,none⟩),.int .i64 x.seed,.int .i64 x.tick,.slice q xs.length cp]);(iterate 3 exact rfl);(focus (repeat' first|exact Ext.here _ _|apply Ext.cons);done);intro w1 hw1;exact htk w1 (hbr _ _ hw1 (Ext.mem (by (focus (repeat' first|exact Ext.all _|apply Ext.cons|apply Ext.app);done)))) (hbo _ _ _ _ hw1 (by (focus (repeat' first|exact Ext.here _ _|apply Ext.cons);done)) (Ext.mem (by (focus (repeat' first|exact Ext.all _|apply Ext.cons|apply Ext.app);done))));rintro v Lo ⟨rfl,rfl⟩)|apply R.callP rfl rfl rfl hri|(apply R.pure;exact rfl;(apply Ok1.lenS;(iterate 3 exact rfl))))|(apply R.pure;exact rfl;first|(apply Ok1.load;exact rfl;first|(apply Ld.own1;exact rfl;exact rfl;(focus (repeat' first|exact At.head|apply At.right);done);exact g1)|(apply Ld.own1;exact rfl;exact rfl;(focus (repeat' first|exact At.head|apply At.right);done);exact g2))|(apply Ok1.move;exact rfl)|(apply Ok1.fieldAddr;(iterate 5 exact rfl))|(apply Ok1.assign;exact rfl)|(apply Ok1.extract;exact rfl;exact rfl)|(apply Ok1.not_t;exact rfl)))|apply R.nil|(apply T.is;first|apply T.seq|apply T.region|apply T.skip|apply T.exit|(apply T.cond_t;exact rfl)|(apply T.cond_f;exact rfl)))
                all_goals skip
                all_goals refine ⟨(i+1,⟨gs1,ms1,fg1,ov1,dg1,ow1,al1,si1,is1,ol1,xl1⟩),⟨by simp only;omega,by simp only;omega,hz⟩,by simp only;omega,?_,?_⟩
                · simp only [pS]
                  rw [slV_eq hol]
                  exact ⟨rfl,rfl,rfl,rfl,rfl,rfl,rfl,rfl,rfl,rfl,trivial⟩
                · simp only [PS.L,hF0,hD0,hS0,hM0]
                  (focus (repeat' first|exact Keep.nil _|exact Ext.one _ _|exact Ext.here _ _|apply Keep.cons|apply Keep.app|apply Ext.cons);done)
              · have hnr2:=fun w1 h=>hnr w1 h (by omega)
                have hpa2:=fun w1 h=>hpa w1 h (by omega)
                clear hnr hpa
                have hnr:=hnr2
                have hpa:=hpa2
                clear hnr2 hpa2
                by_cases hV:VR (attV xs)
                · have hCp:tkxC x.seed x.tick xs=(tprs xs).2:=by rw [tkxC,if_neg (fun h=>h hR),if_neg h40,if_neg (fun h=>h hV)]
                  rw [hCp] at htk hC
                  generalize (tprs xs).2=pe at *
                  repeat' (first|(apply R.is1;first|(apply R.isBin;(apply R.pure;exact rfl;first|(apply Ok1.add64;exact rfl;exact rfl;omega;omega)|(apply Ok1.lss_f;exact rfl;exact rfl;omega)|(apply Ok1.eql_t;exact rfl;exact rfl;omega)|(apply Ok1.neq_t;exact rfl;exact rfl;omega)|(apply Ok1.neq_f;exact rfl;exact rfl;omega)))|(apply R.isCall;first|(apply R.callE (Li:=F0) (vs:=[.pointer (some ⟨bf,0,none⟩),.int .i64 x.seed,.int .i64 x.tick,.slice q xs.length cp]);(iterate 3 exact rfl);(focus (repeat' first|exact Ext.here _ _|apply Ext.cons);done);intro w1 hw1;exact htk w1 (hbr _ _ hw1 (Ext.mem (by (focus (repeat' first|exact Ext.all _|apply Ext.cons|apply Ext.app);done)))) (hbo _ _ _ _ hw1 (by (focus (repeat' first|exact Ext.here _ _|apply Ext.cons);done)) (Ext.mem (by (focus (repeat' first|exact Ext.all _|apply Ext.cons|apply Ext.app);done))));rintro v Lo ⟨rfl,rfl⟩)|apply R.callP rfl rfl rfl hri|(apply R.callE (vs:=[.slice (sufP q cp 8 1) 16 (cp - 8)]);(iterate 3 exact rfl);exact Ext.none _;intro w1 hw1;exact hnr w1 (hbr _ _ hw1 (Ext.mem (by (focus (repeat' first|exact Ext.all _|apply Ext.cons|apply Ext.app);done))));rintro v Lo ⟨br,s,Mr,rfl,hsx,hse,hso,rfl⟩;obtain ⟨p8,hp8,hrd⟩:=rd_att (by omega) hb8 hsx hse;rw [if_pos hV] at hrd)|(apply R.callE (Li:=s.L br) (vs:=[.pointer (some ⟨br,0,none⟩)]);(iterate 3 exact rfl);(focus ((repeat' (exact Ext.one _ _));done));intro w1 hw1;exact hr9 br s w1 (hso.ok hw1 (by (focus ((repeat' (exact Ext.one _ _));done))) (Ext.mem (by (focus ((repeat' (exact Ext.here _ _));done)))));rintro v Lo ⟨hv,rfl⟩;rw [hrd] at hv;simp only at hv;subst hv)|(apply R.callE (vs:=[.slice (sufP q cp 24 1) (xs.length - 24) (cp - 24)]);(iterate 3 exact rfl);exact Ext.none _;intro w1 hw1;exact hpa w1 (hbr _ _ hw1 (Ext.mem (by (focus (repeat' first|exact Ext.all _|apply Ext.cons|apply Ext.app);done))));rintro v Lo ⟨d,hd4,rfl,hpd,hdo⟩)|(apply R.pure;exact rfl;(apply Ok1.lenS;(iterate 3 exact rfl))))|(apply R.pure;exact rfl;first|(apply Ok1.load;exact rfl;first|(apply Ld.own1;exact rfl;exact rfl;(focus (repeat' first|exact At.head|apply At.right);done);exact g1)|(apply Ld.own1;exact rfl;exact rfl;(focus (repeat' first|exact At.head|apply At.right);done);exact g2))|(apply Ok1.midR (i:=8) (j:=24) (sz:=1);(iterate 7 exact rfl);omega;omega)|(apply Ok1.sufR (sz:=1) (i:=24);(iterate 6 exact rfl);omega;omega)|(apply Ok1.move;exact rfl)|(apply Ok1.fieldAddr;(iterate 5 exact rfl))|(apply Ok1.assign;exact rfl)|(apply Ok1.extract;exact rfl;exact rfl)|(apply Ok1.pick_t;exact rfl;exact rfl)|(apply Ok1.pick_f;exact rfl;exact rfl)|(apply Ok1.not_t;exact rfl))|(apply R.alloc;(iterate 3 exact rfl);intro))|(apply R.is0;first|(apply R.store;(iterate 4 exact rfl);exact (hDl p8 hp8);exact dg_one _ _;exact Upd.head;exact setE_all (by rw [(hDl p8 hp8)];rfl))|(apply R.store;(iterate 4 exact rfl);exact dl_len8r hd4;exact dl_oner d;exact Upd.head;exact setE_all (by rw [dl_len8r hd4];rfl)))|(apply R.isG;first|(apply R.guard_run;exact rfl;exact rfl)|(apply R.guard_not;(iterate 3 exact rfl)))|apply R.nil|(apply T.is;first|apply T.seq|apply T.region|apply T.skip|apply T.exit|(apply T.cond_t;exact rfl)|(apply T.cond_f;exact rfl)))
                  all_goals skip
                  all_goals refine ⟨(i+1,⟨gs1,ms1,fg1,ov1,dg1,ow1,al1,si1,is1,ol1,xl1⟩),⟨by simp only;omega,by simp only;omega,hz⟩,by simp only;omega,?_,?_⟩
                  · simp only [pS]
                    rw [slV_eq hol]
                    exact ⟨rfl,rfl,rfl,rfl,rfl,rfl,rfl,rfl,rfl,rfl,trivial⟩
                  · simp only [PS.L,hF0,hD0,hS0,hM0]
                    (focus (repeat' first|exact Keep.nil _|exact Ext.one _ _|exact Ext.here _ _|apply Keep.cons|apply Keep.app|apply Ext.cons|apply Ext.app);done)
                · have hC3:tkxC x.seed x.tick xs=3:=by rw [tkxC,if_neg (fun h=>h hR),if_neg h40,if_pos hV]
                  rw [hC3] at htk
                  generalize (tprs xs).2=pe at *
                  repeat' (first|(apply R.is1;first|(apply R.isBin;(apply R.pure;exact rfl;first|(apply Ok1.add64;exact rfl;exact rfl;omega;omega)|(apply Ok1.lss_f;exact rfl;exact rfl;omega)|(apply Ok1.eql_f;exact rfl;exact rfl;omega)|(apply Ok1.neq_t;exact rfl;exact rfl;omega)|(apply Ok1.neq_f;exact rfl;exact rfl;omega)))|(apply R.isCall;first|(apply R.callE (Li:=F0) (vs:=[.pointer (some ⟨bf,0,none⟩),.int .i64 x.seed,.int .i64 x.tick,.slice q xs.length cp]);(iterate 3 exact rfl);(focus (repeat' first|exact Ext.here _ _|apply Ext.cons);done);intro w1 hw1;exact htk w1 (hbr _ _ hw1 (Ext.mem (by (focus (repeat' first|exact Ext.all _|apply Ext.cons|apply Ext.app);done)))) (hbo _ _ _ _ hw1 (by (focus (repeat' first|exact Ext.here _ _|apply Ext.cons);done)) (Ext.mem (by (focus (repeat' first|exact Ext.all _|apply Ext.cons|apply Ext.app);done))));rintro v Lo ⟨rfl,rfl⟩)|apply R.callP rfl rfl rfl hri|(apply R.callE (vs:=[.slice (sufP q cp 8 1) 16 (cp - 8)]);(iterate 3 exact rfl);exact Ext.none _;intro w1 hw1;exact hnr w1 (hbr _ _ hw1 (Ext.mem (by (focus (repeat' first|exact Ext.all _|apply Ext.cons|apply Ext.app);done))));rintro v Lo ⟨br,s,Mr,rfl,hsx,hse,hso,rfl⟩;obtain ⟨p8,hp8,hrd⟩:=rd_att (by omega) hb8 hsx hse;rw [if_neg hV] at hrd)|(apply R.callE (Li:=s.L br) (vs:=[.pointer (some ⟨br,0,none⟩)]);(iterate 3 exact rfl);(focus ((repeat' (exact Ext.one _ _));done));intro w1 hw1;exact hr9 br s w1 (hso.ok hw1 (by (focus ((repeat' (exact Ext.one _ _));done))) (Ext.mem (by (focus ((repeat' (exact Ext.here _ _));done)))));rintro v Lo ⟨hv,rfl⟩;rw [hrd] at hv;simp only at hv;subst hv)|(apply R.callE (vs:=[.slice (sufP q cp 24 1) (xs.length - 24) (cp - 24)]);(iterate 3 exact rfl);exact Ext.none _;intro w1 hw1;exact hpa w1 (hbr _ _ hw1 (Ext.mem (by (focus (repeat' first|exact Ext.all _|apply Ext.cons|apply Ext.app);done))));rintro v Lo ⟨d,hd4,rfl,hpd,hdo⟩)|(apply R.pure;exact rfl;(apply Ok1.lenS;(iterate 3 exact rfl))))|(apply R.pure;exact rfl;first|(apply Ok1.load;exact rfl;first|(apply Ld.own1;exact rfl;exact rfl;(focus (repeat' first|exact At.head|apply At.right);done);exact g1)|(apply Ld.own1;exact rfl;exact rfl;(focus (repeat' first|exact At.head|apply At.right);done);exact g2))|(apply Ok1.midR (i:=8) (j:=24) (sz:=1);(iterate 7 exact rfl);omega;omega)|(apply Ok1.sufR (sz:=1) (i:=24);(iterate 6 exact rfl);omega;omega)|(apply Ok1.move;exact rfl)|(apply Ok1.fieldAddr;(iterate 5 exact rfl))|(apply Ok1.assign;exact rfl)|(apply Ok1.extract;exact rfl;exact rfl)|(apply Ok1.pick_t;exact rfl;exact rfl)|(apply Ok1.pick_f;exact rfl;exact rfl)|(apply Ok1.not_t;exact rfl))|(apply R.alloc;(iterate 3 exact rfl);intro))|(apply R.is0;first|(apply R.store;(iterate 4 exact rfl);exact dl_len8r hd4;exact dl_oner d;exact Upd.head;exact setE_all (by rw [dl_len8r hd4];rfl))|(apply R.store;(iterate 6 exact rfl);exact Upd.head;exact rfl))|(apply R.isG;first|(apply R.guard_run;exact rfl;exact rfl)|(apply R.guard_not;(iterate 3 exact rfl)))|apply R.nil|(apply T.is;first|apply T.seq|apply T.region|apply T.skip|apply T.exit|(apply T.cond_t;exact rfl)|(apply T.cond_f;exact rfl)))
                  all_goals skip
                  all_goals refine ⟨(i+1,⟨gs1,ms1,fg1,ov1,dg1,ow1,al1,si1,is1,ol1,xl1⟩),⟨by simp only;omega,by simp only;omega,hz⟩,by simp only;omega,?_,?_⟩
                  · simp only [pS]
                    rw [slV_eq hol]
                    exact ⟨rfl,rfl,rfl,rfl,rfl,rfl,rfl,rfl,rfl,rfl,trivial⟩
                  · simp only [PS.L,hF0,hD0,hS0,hM0]
                    (focus (repeat' first|exact Keep.nil _|exact Ext.one _ _|exact Ext.here _ _|apply Keep.cons|apply Keep.app|apply Ext.cons|apply Ext.app);done)
            · have hC9:tkxC x.seed x.tick xs=10:=if_pos hR
              rw [hC9] at htk
              rw [decide_eq_false hR] at hri
              repeat' (first|(apply R.is1;first|(apply R.isBin;(apply R.pure;exact rfl;first|(apply Ok1.add64;exact rfl;exact rfl;omega;omega)|(apply Ok1.neq_f;exact rfl;exact rfl;omega)))|(apply R.isCall;first|(apply R.callE (Li:=F0) (vs:=[.pointer (some ⟨bf,0,none⟩),.int .i64 x.seed,.int .i64 x.tick,.slice q xs.length cp]);(iterate 3 exact rfl);(focus (repeat' first|exact Ext.here _ _|apply Ext.cons);done);intro w1 hw1;exact htk w1 (hbr _ _ hw1 (Ext.mem (by (focus (repeat' first|exact Ext.all _|apply Ext.cons|apply Ext.app);done)))) (hbo _ _ _ _ hw1 (by (focus (repeat' first|exact Ext.here _ _|apply Ext.cons);done)) (Ext.mem (by (focus (repeat' first|exact Ext.all _|apply Ext.cons|apply Ext.app);done))));rintro v Lo ⟨rfl,rfl⟩)|apply R.callP rfl rfl rfl hri)|(apply R.pure;exact rfl;first|(apply Ok1.load;exact rfl;first|(apply Ld.own1;exact rfl;exact rfl;(focus (repeat' first|exact At.head|apply At.right);done);exact g1)|(apply Ld.own1;exact rfl;exact rfl;(focus (repeat' first|exact At.head|apply At.right);done);exact g2))|(apply Ok1.move;exact rfl)|(apply Ok1.fieldAddr;(iterate 5 exact rfl))|(apply Ok1.assign;exact rfl)|(apply Ok1.extract;exact rfl;exact rfl)|(apply Ok1.not_f;exact rfl)))|apply R.nil|(apply T.is;first|apply T.seq|apply T.region|apply T.skip|apply T.exit|(apply T.cond_t;exact rfl)|(apply T.cond_f;exact rfl)))
              all_goals skip
              all_goals refine ⟨(i+1,⟨gs1,ms1,fg1,ov1,dg1,ow1,al1,si1,is1,ol1,xl1⟩),⟨by simp only;omega,by simp only;omega,hz⟩,by simp only;omega,?_,?_⟩
              · simp only [pS]
                rw [slV_eq hol]
                exact ⟨rfl,rfl,rfl,rfl,rfl,rfl,rfl,rfl,rfl,rfl,trivial⟩
              · simp only [PS.L,hF0,hD0,hS0,hM0]
                (focus (repeat' first|exact Keep.nil _|exact Ext.one _ _|exact Ext.here _ _|apply Keep.cons|apply Keep.app|apply Ext.cons);done)
    · simp only [pS]
      repeat' (first|(apply R.is1;first|(apply R.isBin;first|(apply R.pure;exact rfl;(apply Ok1.lss_f;exact rfl;exact rfl;omega))|(apply R.lss rfl rfl rfl<;>intro))|(apply R.isCall;first|(apply R.callV (vs:=[]);(iterate 3 exact rfl);intro w1 hw1;exact hkn w1)|(apply R.pure;exact rfl;(apply Ok1.lenS;(iterate 3 exact rfl))))|(apply R.pure;exact rfl;first|(apply Ok1.move;exact rfl)|(apply Ok1.assign;exact rfl)|(apply Ok1.pick_t;exact rfl;exact rfl)|(apply Ok1.pick_f;exact rfl;exact rfl)))|(apply R.isG;first|(apply R.guard_run;exact rfl;exact rfl)|(apply R.guard_not;(iterate 3 exact rfl)))|apply R.nil|(apply T.is;first|apply T.seq|apply T.region|apply T.exit|apply T.ret|(apply T.cond_f;exact rfl)))
      all_goals skip
      all_goals (apply RetOk.t;exact rfl)
      all_goals rfl
theorem freshPlays_all (cs:List Value) (p:Option Addr) (cap:Nat) (rs:List FAct) (tick within:Int) (w:World) (h0:∃ l0 l1 l2 l3,cs=[Pi.w l0,Pi.w l1,Pi.w l2,Pi.w l3]∧∀ z∈[l0,l1,l2,l3],RdSl w z.p iV z.xs∧z.xs.length≤z.cap) (hp:RdSl w p FAct.v rs) (hok:∀ x∈rs,x.okR w) :
    CallW Tryz.prog 4 [.agg ⟨cs⟩,.slice p rs.length cap,.int .i64 tick,.int .i64 within] w fun v _=>v = .bool true:=by
  obtain ⟨l0,l1,l2,l3,rfl,hz⟩:=h0
  exact freshPlays_ok [l0,l1,l2,l3] rfl p cap rs tick within w hz hp hok
end Go.Proofs.YtolnagbahceebaaGreat
