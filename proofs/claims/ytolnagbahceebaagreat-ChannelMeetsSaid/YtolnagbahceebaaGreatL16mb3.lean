/- Texts of the proof: Mc1, Mc2, Wi2, Mc3, Mc4, C1, C4, C5, C6, M1, Se1, Sc1, Sc3, Sc5, Sc7, Sp2, Sp3, Eng29, Cl1, Sl3, Pc1, Sl4, Rv3, Rv5, Rv8, Rr1, Rb5, Rg1, Rf6, Dd2, Tk1. -/
import Derived.Test.YtolnagbahceebaaGreatL16mb2
import Derived.Test.YtolnagbahceebaaGreatShelf
import Derived.Lib.RowBridge
import Derived.Shelf.SortM.Plain
import Derived.Shelf.SortM.SortNone
import Derived.Shelf.SlicesG.CompactI
set_option linter.unusedSimpArgs false
set_option linter.unusedVariables false
namespace Go.Proofs.YtolnagbahceebaaGreat
open Go.RowKit Go.Shelf
set_option maxRecDepth 100000
theorem mapL_get {f:Int→Int} {l:List Int} {i:Nat} {x:Int} (h:l[i]? = some x):(u8s ((l.take i).map f++l.drop i))[0+i * 1]? = some (.int .u8 x):=by
  obtain ⟨hi,rfl⟩:=List.getElem?_eq_some_iff.1 h
  have hl:((l.take i).map f).length=i:=by rw [List.length_map,List.length_take];omega
  rw [Nat.zero_add,Nat.mul_one,u8s,List.getElem?_map,List.getElem?_append_right (by omega),hl,Nat.sub_self,List.drop_eq_getElem_cons hi]
  rfl
theorem mapL_set {f:Int→Int} {l:List Int} {i:Nat} {x:Int} (h:l[i]? = some x):setE (u8s ((l.take i).map f++l.drop i)) (0+i * 1) [.int .u8 (f x)]=some (u8s ((l.take (i+1)).map f++l.drop (i+1))):=by
  obtain ⟨hi,rfl⟩:=List.getElem?_eq_some_iff.1 h
  have hl:(u8s ((l.take i).map f)).length=0+i * 1:=by rw [u8s_len,List.length_map,List.length_take];omega
  rw [u8s_app,← hl,setE_mid _ (by rw [u8s_len,List.length_drop];simp;omega)]
  congr 1
  rw [List.take_add_one,h,List.map_append,u8s_app,u8s_app]
  congr 1
  rw [List.length_singleton,u8s,← List.map_drop,List.drop_drop]
  rfl
def padKey (k:List Int):List Int:=if 64 < k.length then shaI k else k
theorem padKey_len (k:List Int):(padKey k).length≤64:=by unfold padKey;split;rw [sha_len];omega;omega
def filledI (k:List Int) (x:Int):List Int:=(padKey k++List.replicate (64 - (padKey k).length) 0).map fun y=>xorI .u8 y x
theorem filled_len (k:List Int) (x:Int):(filledI k x).length=64:=by
  have:=padKey_len k
  simp [filledI];omega
theorem xor8_range (a b:Int):0≤xorI .u8 a b∧xorI .u8 a b≤255:=by
  unfold xorI;rw [u8_mod];omega
theorem filled_byt (k:List Int) (x:Int):Byt (filledI k x):=by
  intro y hy
  obtain ⟨z,_,rfl⟩:=List.mem_map.1 hy
  exact xor8_range _ _
theorem out_byt (s:H8):Byt (outI s):=by
  intro y hy
  simp only [outI,H8.l,List.mem_flatMap,List.mem_cons,List.not_mem_nil,or_false] at hy
  obtain ⟨x,_,h⟩:=hy
  rcases h with rfl|rfl|rfl|rfl<;>omega
theorem sha_byt (b:List Int):Byt (shaI b):=out_byt _
theorem filled_ok (p:Option Addr) (n cap:Nat) (k:List Int) (x:Int) (hn:n=k.length) (hbig:n≤999999000) (hb:Byt k) (w:World) (hp:RdSl w p u8V k) :
    CallM Tryz.prog 227 [.slice p n cap,.int .u8 x] [] w fun v L=>∃ b0,v = .slice (some ⟨b0,0,none⟩) 64 64∧L=[(b0,.cells ⟨u8s (filledI k x)⟩ 5 (0,0))]:=by
  subst hn
  refine enterK (tb:=tb) Tryz.func227 rfl Tryz.ntmps227 rfl ?_
  have hkl:=padKey_len k
  repeat' (first|(apply R.is1;first|(apply R.make1 (n:=64);(iterate 9 exact rfl);omega;intro b5)|(apply R.isBin;(apply R.gtr rfl rfl rfl<;>intro))|(apply R.isCall;(apply R.pure;exact rfl;(apply Ok1.lenS;(iterate 3 exact rfl))))|(apply R.pure;exact rfl;first|(apply Ok1.move;exact rfl)|(apply Ok1.assign;exact rfl))|(apply R.buildSlice;(iterate 12 exact rfl);intro))|apply R.nil|(apply T.is;first|(refine T.meetK (x:=.seq (.region 3 _ _) _) (α:=Option Addr × Nat × Lst) (I:=fun y=>∀ w1 L1,Hp w [] L1 w1→(∀ z∈y.2.2,z∈L1)→RdSl w1 y.1 u8V (padKey k)) (σi:=fun y=>[(1,.int .u8 x),(5,.slice (some ⟨b5,0,none⟩) 64 64),(6,.slice y.1 (padKey k).length y.2.1)]) (Li:=fun y=>(b5,.cells ⟨List.replicate 64 (.int .u8 0)⟩ 5 (0,0))::y.2.2) ?_ ?_)|apply T.seq|apply T.region|apply T.skip|(apply T.cond_t;exact rfl)|(apply T.cond_f;exact rfl)))
  · have hk:64 < k.length:=by omega
    have hpk:padKey k=shaI k:=if_pos hk
    have hsl:=sha_len k
    have hls:(u8s (shaI k)).length=32:=by rw [u8s_len,hsl]
    have hone:=u8s_one (shaI k)
    have hset:∀ cs:List Value,cs.length=32→setE cs 0 (u8s (shaI k))=some (u8s (shaI k)):=fun cs h=>setE_all (by rw [hls,h])
    have hcat:cat [⟨p,cap,k⟩]=k:=by simp [cat]
    repeat' (first|(apply R.is1;first|(apply R.isCall;(apply R.callV;(iterate 3 exact rfl);intro w1 hw1;have h9:=dSum_ok (some ⟨_,0,none⟩) 1 1 [⟨p,cap,k⟩] rfl (by rw [hcat];exact hb) (by rw [hcat];exact hbig) (by decide) w1 (RdSl.of (v:=Pt.v) (rs:=[⟨p,cap,k⟩]) (junk:=[]) hw1 (by exact At.head) rfl) (fun y hy=>by rw [List.mem_singleton.1 hy];exact hp.chg' hw1.chg (fun _=>Off.nil _));rw [hcat] at h9;exact h9))|(apply R.pure;exact rfl;first|(apply Ok1.sliceArr;(iterate 4 exact rfl))|(apply Ok1.assign;exact rfl))|(apply R.alloc;(iterate 3 exact rfl);intro))|(apply R.is0;(apply R.store;(iterate 4 exact rfl);exact hls;exact hone;exact Upd.head;exact hset _ rfl))|apply R.nil|(apply T.is;apply T.region))
    rename_i bq b7
    refine ⟨(some ⟨b7,0,none⟩,32,[(b7,.cells ⟨u8s (shaI k)⟩ 98 (0,0))]),?_,⟨rfl,rfl,?_,trivial⟩,?_⟩
    · intro w1 L1 hw1 hin
      rw [hpk]
      exact RdSl.ofMem (junk:=[]) hw1 (hin _ List.mem_cons_self) (by rw [fl_u8,List.append_nil])
    · rw [hpk,hsl];rfl
    · (focus (repeat' first|exact Keep.nil _|exact Ext.one _ _|apply Keep.cons|apply Ext.cons);done)
  · have hk:¬ 64 < k.length:=by omega
    have hpk:padKey k=k:=if_neg hk
    refine ⟨(p,cap,[]),?_,⟨rfl,rfl,?_,trivial⟩,?_⟩
    · intro w1 L1 hw1 hin
      rw [hpk]
      exact hp.chg' hw1.chg (fun _=>Off.nil _)
    · rw [hpk];rfl
    · (focus (repeat' first|exact Keep.nil _|exact Ext.one _ _|apply Keep.cons);done)
  · rintro ⟨p1,c1,ex⟩ hrd
    simp only at hrd ⊢
    have hcp:setE (List.replicate 64 (.int .u8 0)) 0 (fl u8V ((padKey k).take 64))=some (u8s (padKey k++List.replicate (64 - (padKey k).length) 0)):=by
      rw [List.take_of_length_le hkl,fl_u8]
      have:=setE_mid [] (vs:=u8s (padKey k)) (junk:=List.replicate 64 (.int .u8 0)) (by rw [u8s_len,List.length_replicate];exact hkl)
      rw [List.nil_append,List.length_nil] at this
      rw [this,u8s_app,u8s_len,List.drop_replicate]
      simp [u8s]
    have hfi:filledI k x=(padKey k++List.replicate (64 - (padKey k).length) 0).map fun y=>xorI .u8 y x:=rfl
    have hcl:(padKey k++List.replicate (64 - (padKey k).length) 0).length=64:=by rw [List.length_append,List.length_replicate];omega
    repeat' (first|(apply R.is1;first|(apply R.isCall;first|(apply R.copyRd (xs:=padKey k) (v:=u8V);(iterate 8 exact rfl);exact u8V_len;(intro w1 hw1;exact hrd w1 _ hw1 (fun z hz=>List.mem_cons_of_mem _ hz));(rw [fl_u8];exact u8s_one _);exact Upd.head;exact hcp)|(apply R.pure;exact rfl;(apply Ok1.lenS;(iterate 3 exact rfl))))|(apply R.pure;exact rfl;(apply Ok1.move;exact rfl)))|apply R.nil|(apply T.is;first|apply T.seq|apply T.region|apply T.block))
    generalize padKey k++List.replicate (64 - (padKey k).length) 0=c0 at *
    apply T.loopK (α:=Nat) (I:=fun i=>i≤64) (σi:=fun i=>[(1,.int .u8 x),(5,.slice (some ⟨b5,0,none⟩) 64 64),(22,.int .i64 64),(23,.int .i64 i)]) (Li:=fun i=>[(b5,.cells ⟨u8s ((c0.take i).map (fun y=>xorI .u8 y x)++c0.drop i)⟩ 5 (0,0))]) (μ:=fun i=>64 - i) (i0:=0)
    · exact Nat.zero_le _
    · exact ⟨rfl,rfl,rfl,rfl,trivial⟩
    · simp only [List.take_zero,List.map_nil,List.drop_zero,List.nil_append]
      (focus (repeat' first|exact Keep.nil _|exact Ext.one _ _|apply Keep.cons);done)
    · intro i hi
      rcases Nat.lt_or_ge i 64 with hlt|hge
      · obtain ⟨y,hy⟩:∃ y,c0[i]? = some y:=⟨_,List.getElem?_eq_getElem (by omega)⟩
        have hg:=mapL_get (f:=fun y=>xorI .u8 y x) hy
        have hst:=mapL_set (f:=fun y=>xorI .u8 y x) hy
        repeat' (first|(apply R.is1;first|(apply R.isBin;(apply R.pure;exact rfl;first|(apply Ok1.xorK;exact rfl;exact rfl)|(apply Ok1.add64;exact rfl;exact rfl;omega;omega)|(apply Ok1.lss_t;exact rfl;exact rfl;omega)))|(apply R.pure;exact rfl;first|(apply Ok1.load;exact rfl;apply Ld.own1;exact rfl;exact rfl;exact At.head;exact hg)|(apply Ok1.move;exact rfl)|(apply Ok1.assign;exact rfl)|(apply Ok1.indexAddr;(iterate 5 exact rfl);omega;omega)))|(apply R.is0;(apply R.store;(iterate 6 exact rfl);exact Upd.head;exact hst))|apply R.nil|(apply T.is;first|apply T.seq|apply T.region|apply T.block|apply T.skip|(apply T.cond_t;exact rfl)))
        exact ⟨i+1,by omega,by omega,⟨rfl,rfl,rfl,rfl,trivial⟩,by (focus (repeat' first|exact Keep.nil _|exact Ext.one _ _|apply Keep.cons);done)⟩
      · have him:i=64:=by omega
        subst him
        rw [List.take_of_length_le (by omega),List.drop_of_length_le (by omega),List.append_nil,← hfi]
        repeat' (first|(apply R.is1;first|(apply R.isBin;(apply R.pure;exact rfl;(apply Ok1.lss_f;exact rfl;exact rfl;omega)))|(apply R.pure;exact rfl;first|(apply Ok1.move;exact rfl)|(apply Ok1.assign;exact rfl)))|apply R.nil|(apply T.is;first|apply T.seq|apply T.region|apply T.exit|apply T.ret|(apply T.cond_f;exact rfl)))
        (apply RetOk.t;exact rfl)
        exact ⟨_,by (focus (repeat' first|exact Keep.nil _|exact Ext.one _ _|apply Keep.cons);done),b5,rfl,rfl⟩
def st00:RS:=⟨false,⟨0,0,0,0,0,0,0,0⟩,none,[],none,0,0,[],0⟩
theorem RI00:RuI st00 []:=⟨OvOk.start 1,Sfx.refl _ _,rfl,Nat.le_refl _,rfl,rfl,(fun x hx=>by cases hx),(fun h=>by cases h),fun _=>rfl⟩
def hmacI (k msg:List Int):List Int:=shaI (filledI k 92++shaI (filledI k 54++msg))
theorem hmac_len (k msg:List Int):(hmacI k msg).length=32:=sha_len _
theorem hmac_byt (k msg:List Int):Byt (hmacI k msg):=sha_byt _
theorem tag_ok (p:Option Addr) (n cap:Nat) (k:List Int) (hn:n=k.length) (hbig:n≤999999000) (hb:Byt k) (pp:Option Addr) (m cap2:Nat) (ps:List Pt) (hm:m=ps.length) (hbyt:Byt (cat ps)) (hbig2:(cat ps).length≤999998000) (hm2:m≤1000000000) (w:World) (hp:RdSl w p u8V k) (hpp:RdSl w pp Pt.v ps) (hall:∀ x∈ps,RdSl w x.p u8V x.xs) :
    CallW Tryz.prog 172 [.slice p n cap,.slice pp m cap2] w fun v _=>v = .agg ⟨u8s (hmacI k (cat ps))⟩:=by
  refine enterW (tb:=tb) Tryz.func172 rfl Tryz.ntmps172 rfl ?_
  have hfl:=filled_len k 54
  have hfl2:=filled_len k 92
  have hfb:=filled_byt k 54
  have hfb2:=filled_byt k 92
  have hfil:=fun w1 (hc:Chg [] w w1)=>filled_ok p n cap k 54 hn hbig hb w1 (hp.chg' hc (fun _=>Off.nil _))
  have hfil2:=fun w1 (hc:Chg [] w w1)=>filled_ok p n cap k 92 hn hbig hb w1 (hp.chg' hc (fun _=>Off.nil _))
  have hhm:hmacI k (cat ps)=shaI (filledI k 92++shaI (filledI k 54++cat ps)):=rfl
  generalize filledI k 54=f54 at *
  generalize filledI k 92=f92 at *
  repeat' (first|(apply R.is1;first|(apply R.pure;exact rfl;(apply Ok1.move;exact rfl))|(apply R.alloc;(iterate 3 exact rfl);intro))|apply R.nil|(apply T.is;first|apply T.seq|apply T.region))
  rename_i b4 b5
  repeat' ((apply R.is1;first|(apply R.isCall;(apply R.callE;(iterate 3 exact rfl);exact Ext.none _;intro w1 hw1;exact hfil w1 hw1.chg;rintro v Lo ⟨f0,rfl,rfl⟩))|(apply R.buildSlice;(iterate 12 exact rfl);intro)))
  have hcat:cat [⟨some ⟨f0,0,none⟩,64,f54⟩]=f54:=by simp [cat]
  have hfv:Pt.v ⟨some ⟨f0,0,none⟩,64,f54⟩=[.slice (some ⟨f0,0,none⟩) 64 64]:=by simp only [Pt.v,hfl]
  rename_i bq
  simp only [List.cons_append,List.nil_append]
  repeat' ((apply R.is1;first|(apply R.isCall;(apply R.callE (Li:=RL b5 st00) (vs:=[.pointer (some ⟨b5,0,none⟩),.slice (some ⟨bq,0,none⟩) 1 1]);(iterate 3 exact rfl);(focus (repeat' first|exact Ext.one _ _|apply Ext.cons);done);intro w1 hw1;have h9:=rAdd_ok b5 st00 [] RI00 (some ⟨bq,0,none⟩) 1 1 [⟨some ⟨f0,0,none⟩,64,f54⟩] rfl (by rw [hcat];exact hfb) (by rw [hcat,List.nil_append,hfl];decide) (by decide) w1 (RdSl.of (v:=Pt.v) (rs:=[⟨some ⟨f0,0,none⟩,64,f54⟩]) (junk:=[]) hw1 (by exact At.head) (by simp [fl,hfv])) (fun _=>Off.of (k:=0) hw1 (by (focus (repeat' first|exact Ext.one _ _|apply Ext.cons);done)) (by exact At.head)) (fun y hy=>by rw [List.mem_singleton.1 hy];exact ⟨RdSl.of (v:=u8V) (rs:=f54) (junk:=[]) hw1 (by (focus (repeat' first|exact At.head|apply At.tail);done)) (by rw [fl_u8,List.append_nil]),fun _=>Off.of (k:=0) hw1 (by (focus (repeat' first|exact Ext.one _ _|apply Ext.cons);done)) (by (focus (repeat' first|exact At.head|apply At.tail);done))⟩);exact h9;rintro v Lo ⟨st1,rfl,rfl,hI1,hon1⟩;rw [hcat,List.nil_append] at hI1))|(apply R.pure;exact rfl;(apply Ok1.move;exact rfl))))
  repeat' ((apply R.is1;(apply R.isCall;(apply R.callE (Li:=RL b5 st1) (vs:=[.pointer (some ⟨b5,0,none⟩),.slice pp m cap2]);(iterate 3 exact rfl);(focus ((repeat' (exact Ext.here _ _));done));intro w1 hw1;exact rAdd_ok b5 st1 f54 hI1 pp m cap2 ps hm hbyt (by rw [List.length_append];omega) hm2 w1 (hpp.chg' hw1.chg (fun _=>Off.nil _)) (hpp.old Pt.v_len (by decide) (fun _=>Off.nil _) hw1 (by (focus ((repeat' (exact Ext.here _ _));done)))) (fun y hy=>⟨(hall y hy).chg' hw1.chg (fun _=>Off.nil _),(hall y hy).old u8V_len (by decide) (fun _=>Off.nil _) hw1 (by (focus ((repeat' (exact Ext.here _ _));done)))⟩);rintro v Lo ⟨st2,rfl,rfl,hI2,hon2⟩))))
  have hsum:=fun w1 hb hl=>rSum_ok b5 st2 (f54++cat ps) hI2 (by rw [List.length_append];omega) w1 hb hl
  simp only [RL,List.cons_append]
  have hsl:=sha_len (f54++cat ps)
  have hls:(u8s (shaI (f54++cat ps))).length=32:=by rw [u8s_len,hsl]
  have hone:=u8s_one (shaI (f54++cat ps))
  have hset:∀ cs:List Value,cs.length=32→setE cs 0 (u8s (shaI (f54++cat ps)))=some (u8s (shaI (f54++cat ps))):=fun cs h=>setE_all (by rw [hls,h])
  have hsb:=sha_byt (f54++cat ps)
  generalize shaI (f54++cat ps)=d0 at *
  have hsl2:=hmac_len k (cat ps)
  have hls2:(u8s (hmacI k (cat ps))).length=32:=by rw [u8s_len,hsl2]
  have hone2:=u8s_one (hmacI k (cat ps))
  have hset2:∀ cs:List Value,cs.length=32→setE cs 0 (u8s (hmacI k (cat ps)))=some (u8s (hmacI k (cat ps))):=fun cs h=>setE_all (by rw [hls2,h])
  have hsub2:=subE_all hls2
  have hd2:∀ f1 b6:Nat,∀ w1,RdSl w1 (some ⟨f1,0,none⟩) u8V f92→RdSl w1 (some ⟨b6,0,none⟩) u8V d0→∀ bq,RdSl w1 (some ⟨bq,0,none⟩) Pt.v [⟨some ⟨f1,0,none⟩,64,f92⟩,⟨some ⟨b6,0,none⟩,32,d0⟩]→CallW Tryz.prog 212 [.slice (some ⟨bq,0,none⟩) 2 2] w1 fun v _=>v = .agg ⟨u8s (hmacI k (cat ps))⟩:=by
    intro f1 b6 w1 h1 h2 bq h3
    have hc2:cat [⟨some ⟨f1,0,none⟩,64,f92⟩,⟨some ⟨b6,0,none⟩,32,d0⟩]=f92++d0:=by simp [cat]
    have h9:=dSum_ok (some ⟨bq,0,none⟩) 2 2 [⟨some ⟨f1,0,none⟩,64,f92⟩,⟨some ⟨b6,0,none⟩,32,d0⟩] rfl (by rw [hc2];exact hfb2.app hsb) (by rw [hc2,List.length_append];omega) (by decide) w1 h3 (fun y hy=>by
      rcases List.mem_cons.1 hy with rfl|hy
      · exact h1
      · rw [List.mem_singleton.1 hy];exact h2)
    rw [hc2,← hhm] at h9
    exact h9
  have hpv:∀ f1 b6:Nat,fl Pt.v [⟨some ⟨f1,0,none⟩,64,f92⟩,⟨some ⟨b6,0,none⟩,32,d0⟩]=[.slice (some ⟨f1,0,none⟩) 64 64,.slice (some ⟨b6,0,none⟩) 32 32]:=fun f1 b6=>by simp [fl,Pt.v,hfl2,hsl]
  repeat' (first|(apply R.is1;first|(apply R.isCall;(apply R.callV;(iterate 3 exact rfl);intro w1 hw1;exact hsum w1 (hw1.get _ _ (At.mem (by exact At.head))) (hI2.rd hw1 (Ext.mem (by (focus (repeat' first|exact Ext.here _ _|apply Ext.cons);done))))))|(apply R.alloc;(iterate 3 exact rfl);intro))|(apply R.is0;(apply R.store;(iterate 4 exact rfl);exact hls;exact hone;exact Upd.head;exact hset _ rfl))|apply R.nil|(apply T.is;apply T.seq))
  rename_i b6
  repeat' ((apply T.is;first|(apply T.drawC (id:=3) [] (by decide);((apply A.tk 0;exact rfl;kernel_rfl;(apply Ok1.move;exact rfl))<;>(apply A.tk 2;exact rfl;kernel_rfl;(apply Ok1.sliceArr;(iterate 4 exact rfl)))<;>(apply A.one 1;kernel_rfl;exact rfl;(((apply R.callE;(iterate 3 exact rfl);exact Ext.none _;intro w1 hw1;exact hfil2 w1 hw1.chg;rintro v Lo ⟨f1,rfl,rfl⟩)));apply R.nil;refine ⟨?_,?_⟩;(focus ((repeat' (exact trivial)))))<;>(apply A.one 3;kernel_rfl;exact rfl;(((apply R.buildSlice;(iterate 12 exact rfl);intro)));apply R.nil;refine ⟨?_,?_⟩;(focus ((repeat' (exact trivial)))))<;>(apply A.one 4;kernel_rfl;exact rfl;(((apply R.callV;(iterate 3 exact rfl);intro w1 hw1;exact hd2 f1 b6 w1 (RdSl.of (junk:=[]) hw1 (by (focus (repeat' first|exact At.head|apply At.tail);done)) (by rw [fl_u8,List.append_nil])) (RdSl.of (junk:=[]) hw1 (by (focus (repeat' first|exact At.head|apply At.tail);done)) (by rw [fl_u8,List.append_nil])) _ (RdSl.of (junk:=[]) hw1 (by exact At.head) (by rw [hpv,List.append_nil])))));apply R.nil;refine ⟨?_,?_⟩;(focus ((repeat' (exact trivial)))))<;>(apply A.one 5;kernel_rfl;exact rfl;(((apply R.store;(iterate 4 exact rfl);exact hls2;exact hone2;(focus (repeat' first|exact Upd.head|apply Upd.tail|apply Upd.right);done);exact hset2 _ rfl)));apply R.nil;refine ⟨?_,?_⟩;(focus ((repeat' (exact trivial)))))<;>(apply A.done;kernel_rfl)))|apply T.ret))
  apply RetOk.c
  exact rfl
  apply Ld.ownk
  exact rfl
  exact rfl
  (focus (repeat' first|exact At.head|apply At.tail|apply At.right);done)
  exact hsub2
  rfl
def len4 (n:Int):List Int:=[n / 16777216 % 256,n / 65536 % 256,n / 256 % 256,n % 256]
theorem len4_byt (n:Int):Byt (len4 n):=by
  intro y hy
  simp only [len4,List.mem_cons,List.not_mem_nil,or_false] at hy
  rcases hy with rfl|rfl|rfl|rfl<;>omega
theorem cellsE_slV (ov:Ov) (n:Nat):cellsE (slV ov n)=some [slV ov n]:=by cases ov<;>rfl
theorem one_slV (ov:Ov) (n:Nat):[slV ov n].all Value.oneCell'=true:=by cases ov<;>rfl
def numI (s:Nat) (n:Int):List Int:=match s with
  | 0=>[n % 256]
  | 1=>[n / 256 % 256,n % 256]
  | _=>len4 n
theorem num_byt (s:Nat) (n:Int):Byt (numI s n):=by
  unfold numI
  split
  · intro y hy;rw [List.mem_singleton.1 hy];omega
  · intro y hy;simp only [List.mem_cons,List.not_mem_nil,or_false] at hy;rcases hy with rfl|rfl<;>omega
  · exact len4_byt n
theorem width_ok (s v:Int) (h0:0≤s) (h1:s≤10) (h:IntKind.i64.wrap (1 * pw s.toNat)=v):CallP Tryz.prog 249 [.int .i64 s] (.int .i64 v):=by
  refine enterP (tb:=tb) Tryz.func249 rfl Tryz.ntmps249 rfl fun w=>?_
  have hb:s.toNat≤IntKind.i64.bits:=by show s.toNat≤64;omega
  repeat' (first|(apply R.is1;first|(apply R.isBin;(apply R.pure;exact rfl;(apply Ok1.shl;exact rfl;exact rfl;omega;exact hb;exact rfl)))|(apply R.pure;exact rfl;first|(apply Ok1.move;exact rfl)|(apply Ok1.assign;exact rfl)))|apply R.nil|(apply T.is;first|apply T.seq|apply T.region|apply T.ret))
  (apply RetOk.t;exact rfl)
  rw [h]
theorem Keep.eq1 {b:Nat} {e:TypeId} {fz:Nat × Nat} {A B:List Value} (h:A=B):Keep [(b,.cells ⟨A⟩ e fz)] [(b,.cells ⟨B⟩ e fz)]:=by subst h;(focus (repeat' first|exact Keep.nil _|exact Ext.one _ _|apply Keep.cons);done)
theorem number_ok (s:Nat) (n:Int) (hs:s=0 ∨ s=1 ∨ s=2) (h0:0≤n) (h1:n≤9223372036854775807) (w:World):CallM Tryz.prog 269 [.int .i64 s,.int .i64 n] [] w fun v L=>∃ b,v = .slice (some ⟨b,0,none⟩) (numI s n).length (numI s n).length∧L=[(b,.cells ⟨u8s (numI s n)⟩ 5 (0,0))]:=by
  have hc:IntKind.u64.wrap n=n:=wrap_u64 h0 (by omega)
  rcases hs with rfl|rfl|rfl
  · refine enterK (tb:=tb) Tryz.func269 rfl Tryz.ntmps269 rfl ?_
    repeat' (first|(apply R.is1;first|(apply R.make1 (n:=1);(iterate 9 exact rfl);omega;intro bt)|(apply R.isBin;(apply R.pure;exact rfl;first|(apply Ok1.shr;exact rfl;exact rfl;omega;exact Nat.le_of_ble_eq_true rfl;exact rfl)|(apply Ok1.add64;exact rfl;exact rfl;omega;omega)|(apply Ok1.sub64;exact rfl;exact rfl;omega;omega)|(apply Ok1.lss_t;exact rfl;exact rfl;omega)|(apply Ok1.lss_f;exact rfl;exact rfl;omega)|(apply Ok1.mul64;exact rfl;exact rfl;omega;omega)))|(apply R.isCall;first|apply R.callP rfl rfl rfl (width_ok 0 1 (by decide) (by decide) (by decide))|(apply R.pure;exact rfl;(apply Ok1.lenS;(iterate 3 exact rfl))))|(apply R.pure;exact rfl;first|(apply Ok1.move;exact rfl)|(apply Ok1.assign;exact rfl)|(apply Ok1.indexAddr;(iterate 5 exact rfl);omega;omega)|(apply Ok1.convU64;(iterate 5 exact rfl);omega;omega)|(apply Ok1.conv;(iterate 5 exact rfl))))|(apply R.is0;(apply R.store;(iterate 6 exact rfl);exact Upd.head;exact rfl))|apply R.nil|(apply T.is;first|apply T.rounds 2|apply T.seq|apply T.region|apply T.block|apply T.skip|apply T.exit|apply T.ret|(apply T.cond_t;exact rfl)|(apply T.cond_f;exact rfl)))
    (apply RetOk.t;exact rfl)
    refine ⟨_,?_,bt,rfl,rfl⟩
    simp only [u8_mod]
    apply Keep.eq1
    simp [numI,u8s,len4,pw]
  · refine enterK (tb:=tb) Tryz.func269 rfl Tryz.ntmps269 rfl ?_
    repeat' (first|(apply R.is1;first|(apply R.make1 (n:=2);(iterate 9 exact rfl);omega;intro bt)|(apply R.isBin;(apply R.pure;exact rfl;first|(apply Ok1.shr;exact rfl;exact rfl;omega;exact Nat.le_of_ble_eq_true rfl;exact rfl)|(apply Ok1.add64;exact rfl;exact rfl;omega;omega)|(apply Ok1.sub64;exact rfl;exact rfl;omega;omega)|(apply Ok1.lss_t;exact rfl;exact rfl;omega)|(apply Ok1.lss_f;exact rfl;exact rfl;omega)|(apply Ok1.mul64;exact rfl;exact rfl;omega;omega)))|(apply R.isCall;first|apply R.callP rfl rfl rfl (width_ok 1 2 (by decide) (by decide) (by decide))|(apply R.pure;exact rfl;(apply Ok1.lenS;(iterate 3 exact rfl))))|(apply R.pure;exact rfl;first|(apply Ok1.move;exact rfl)|(apply Ok1.assign;exact rfl)|(apply Ok1.indexAddr;(iterate 5 exact rfl);omega;omega)|(apply Ok1.convU64;(iterate 5 exact rfl);omega;omega)|(apply Ok1.conv;(iterate 5 exact rfl))))|(apply R.is0;(apply R.store;(iterate 6 exact rfl);exact Upd.head;exact rfl))|apply R.nil|(apply T.is;first|apply T.rounds 3|apply T.seq|apply T.region|apply T.block|apply T.skip|apply T.exit|apply T.ret|(apply T.cond_t;exact rfl)|(apply T.cond_f;exact rfl)))
    (apply RetOk.t;exact rfl)
    refine ⟨_,?_,bt,rfl,rfl⟩
    simp only [u8_mod]
    apply Keep.eq1
    simp [numI,u8s,len4,pw]
  · refine enterK (tb:=tb) Tryz.func269 rfl Tryz.ntmps269 rfl ?_
    repeat' (first|(apply R.is1;first|(apply R.make1 (n:=4);(iterate 9 exact rfl);omega;intro bt)|(apply R.isBin;(apply R.pure;exact rfl;first|(apply Ok1.shr;exact rfl;exact rfl;omega;exact Nat.le_of_ble_eq_true rfl;exact rfl)|(apply Ok1.add64;exact rfl;exact rfl;omega;omega)|(apply Ok1.sub64;exact rfl;exact rfl;omega;omega)|(apply Ok1.lss_t;exact rfl;exact rfl;omega)|(apply Ok1.lss_f;exact rfl;exact rfl;omega)|(apply Ok1.mul64;exact rfl;exact rfl;omega;omega)))|(apply R.isCall;first|apply R.callP rfl rfl rfl (width_ok 2 4 (by decide) (by decide) (by decide))|(apply R.pure;exact rfl;(apply Ok1.lenS;(iterate 3 exact rfl))))|(apply R.pure;exact rfl;first|(apply Ok1.move;exact rfl)|(apply Ok1.assign;exact rfl)|(apply Ok1.indexAddr;(iterate 5 exact rfl);omega;omega)|(apply Ok1.convU64;(iterate 5 exact rfl);omega;omega)|(apply Ok1.conv;(iterate 5 exact rfl))))|(apply R.is0;(apply R.store;(iterate 6 exact rfl);exact Upd.head;exact rfl))|apply R.nil|(apply T.is;first|apply T.rounds 5|apply T.seq|apply T.region|apply T.block|apply T.skip|apply T.exit|apply T.ret|(apply T.cond_t;exact rfl)|(apply T.cond_f;exact rfl)))
    (apply RetOk.t;exact rfl)
    refine ⟨_,?_,bt,rfl,rfl⟩
    simp only [u8_mod]
    apply Keep.eq1
    simp [numI,u8s,len4,pw]
/-- A number that fits its size. -/
def Fits (s:Nat) (n:Int):Prop:=0≤n∧(s=0∧n≤255 ∨ s=1∧n≤65535 ∨ s=2∧n≤4294967295)
def fldV (s:Nat) (n:Int):List Value:=[.int .i64 s,.int .i64 n,.slice none 0 0]
theorem wcheck_ok (s:Nat) (n:Int) (h:Fits s n):CallP Tryz.prog 247 [.agg ⟨fldV s n⟩] (.int .i64 0):=by
  obtain ⟨h0,h⟩:=h
  unfold fldV
  rcases h with ⟨rfl,h1⟩|⟨rfl,h1⟩|⟨rfl,h1⟩
  · refine enterP (tb:=tb) Tryz.func247 rfl Tryz.ntmps247 rfl fun w=>?_
    repeat' (first|(apply R.is1;first|(apply R.isBin;(apply R.pure;exact rfl;first|(apply Ok1.lss_t;exact rfl;exact rfl;omega)|(apply Ok1.lss_f;exact rfl;exact rfl;omega)|(apply Ok1.gtr_f;exact rfl;exact rfl;omega)|(apply Ok1.eql_f;exact rfl;exact rfl;omega)))|(apply R.isCall;(apply R.pure;exact rfl;(apply Ok1.lenS;(iterate 3 exact rfl))))|(apply R.pure;exact rfl;first|(apply Ok1.move;exact rfl)|(apply Ok1.fieldAddr;(iterate 5 exact rfl))|(apply Ok1.load;exact rfl;(apply Ld.own1;exact rfl;exact rfl;exact At.head;exact rfl))|(apply Ok1.assign;exact rfl)|(apply Ok1.pick_t;exact rfl;exact rfl)|(apply Ok1.pick_f;exact rfl;exact rfl))|(apply R.box;(iterate 3 exact rfl);intro))|(apply R.isG;first|(apply R.guard_run;exact rfl;exact rfl)|(apply R.guard_not;(iterate 3 exact rfl)))|apply R.nil|(apply T.is;first|(apply T.drawC (id:=5) [0] (by decide);((apply A.tk 0;exact rfl;kernel_rfl;(apply Ok1.fieldAddr;(iterate 5 exact rfl)))<;>(apply A.tk 1;exact rfl;kernel_rfl;(apply Ok1.load;exact rfl;(apply Ld.own1;exact rfl;exact rfl;exact At.head;exact rfl)))<;>((apply A.tk 2;exact rfl;kernel_rfl;(apply Ok1.lss_f;exact rfl;exact rfl;omega)))<;>(apply A.tk 3;exact rfl;kernel_rfl;(apply Ok1.move;exact rfl))<;>((apply A.tkG 4;(iterate 3 exact rfl);kernel_rfl;(apply Ok1.fieldAddr;(iterate 5 exact rfl))))<;>((apply A.tkG 5;(iterate 3 exact rfl);kernel_rfl;(apply Ok1.load;exact rfl;(apply Ld.own1;exact rfl;exact rfl;exact At.head;exact rfl))))<;>((apply A.tkG 6;(iterate 3 exact rfl);kernel_rfl;(apply Ok1.lss_t;exact rfl;exact rfl;omega)))<;>((apply A.tkG 7;(iterate 3 exact rfl);kernel_rfl;(apply Ok1.move;exact rfl)))<;>((apply A.tkG 8;(iterate 3 exact rfl);kernel_rfl;(apply Ok1.fieldAddr;(iterate 5 exact rfl))))<;>((apply A.tkG 9;(iterate 3 exact rfl);kernel_rfl;(apply Ok1.load;exact rfl;(apply Ld.own1;exact rfl;exact rfl;exact At.head;exact rfl))))<;>((apply A.tkG 10;(iterate 3 exact rfl);kernel_rfl;(apply Ok1.fieldAddr;(iterate 5 exact rfl))))<;>((apply A.tkG 11;(iterate 3 exact rfl);kernel_rfl;(apply Ok1.load;exact rfl;(apply Ld.own1;exact rfl;exact rfl;exact At.head;exact rfl))))<;>(apply A.one 12;kernel_rfl;exact rfl;(((apply R.isG;apply R.guard_run;exact rfl;exact rfl;(apply R.callP rfl rfl rfl (width_ok 0 1 (by decide) (by decide) (by decide))))));apply R.nil;refine ⟨?_,?_⟩;(focus ((repeat' (first|exact trivial|(refine ⟨?_,?_⟩;exact At.head))))))<;>((apply A.tkG 13;(iterate 3 exact rfl);kernel_rfl;(apply Ok1.mul64;exact rfl;exact rfl;omega;omega)))<;>((apply A.tkG 14;(iterate 3 exact rfl);kernel_rfl;(apply Ok1.shr (m:=256);exact rfl;exact rfl;omega;exact Nat.le_of_ble_eq_true rfl;exact rfl)))<;>((apply A.tkG 15;(iterate 3 exact rfl);kernel_rfl;(apply Ok1.neq_f;exact rfl;exact rfl;omega)))<;>((apply A.tkG 16;(iterate 3 exact rfl);kernel_rfl;(apply Ok1.pick_t;exact rfl;exact rfl)))<;>(apply A.tk 17;exact rfl;kernel_rfl;(apply Ok1.pick_f;exact rfl;exact rfl))<;>(apply A.tk 18;exact rfl;kernel_rfl;(apply Ok1.assign;exact rfl))<;>(apply A.done;kernel_rfl)))|apply T.seq|apply T.region|apply T.block|apply T.skip|apply T.ret|(apply T.cond_f;exact rfl)))
    (apply RetOk.t;exact rfl)
    rfl
  · refine enterP (tb:=tb) Tryz.func247 rfl Tryz.ntmps247 rfl fun w=>?_
    repeat' (first|(apply R.is1;first|(apply R.isBin;(apply R.pure;exact rfl;first|(apply Ok1.lss_t;exact rfl;exact rfl;omega)|(apply Ok1.lss_f;exact rfl;exact rfl;omega)|(apply Ok1.gtr_f;exact rfl;exact rfl;omega)|(apply Ok1.eql_f;exact rfl;exact rfl;omega)))|(apply R.isCall;(apply R.pure;exact rfl;(apply Ok1.lenS;(iterate 3 exact rfl))))|(apply R.pure;exact rfl;first|(apply Ok1.move;exact rfl)|(apply Ok1.fieldAddr;(iterate 5 exact rfl))|(apply Ok1.load;exact rfl;(apply Ld.own1;exact rfl;exact rfl;exact At.head;exact rfl))|(apply Ok1.assign;exact rfl)|(apply Ok1.pick_t;exact rfl;exact rfl)|(apply Ok1.pick_f;exact rfl;exact rfl))|(apply R.box;(iterate 3 exact rfl);intro))|(apply R.isG;first|(apply R.guard_run;exact rfl;exact rfl)|(apply R.guard_not;(iterate 3 exact rfl)))|apply R.nil|(apply T.is;first|(apply T.drawC (id:=5) [0] (by decide);((apply A.tk 0;exact rfl;kernel_rfl;(apply Ok1.fieldAddr;(iterate 5 exact rfl)))<;>(apply A.tk 1;exact rfl;kernel_rfl;(apply Ok1.load;exact rfl;(apply Ld.own1;exact rfl;exact rfl;exact At.head;exact rfl)))<;>((apply A.tk 2;exact rfl;kernel_rfl;(apply Ok1.lss_f;exact rfl;exact rfl;omega)))<;>(apply A.tk 3;exact rfl;kernel_rfl;(apply Ok1.move;exact rfl))<;>((apply A.tkG 4;(iterate 3 exact rfl);kernel_rfl;(apply Ok1.fieldAddr;(iterate 5 exact rfl))))<;>((apply A.tkG 5;(iterate 3 exact rfl);kernel_rfl;(apply Ok1.load;exact rfl;(apply Ld.own1;exact rfl;exact rfl;exact At.head;exact rfl))))<;>((apply A.tkG 6;(iterate 3 exact rfl);kernel_rfl;(apply Ok1.lss_t;exact rfl;exact rfl;omega)))<;>((apply A.tkG 7;(iterate 3 exact rfl);kernel_rfl;(apply Ok1.move;exact rfl)))<;>((apply A.tkG 8;(iterate 3 exact rfl);kernel_rfl;(apply Ok1.fieldAddr;(iterate 5 exact rfl))))<;>((apply A.tkG 9;(iterate 3 exact rfl);kernel_rfl;(apply Ok1.load;exact rfl;(apply Ld.own1;exact rfl;exact rfl;exact At.head;exact rfl))))<;>((apply A.tkG 10;(iterate 3 exact rfl);kernel_rfl;(apply Ok1.fieldAddr;(iterate 5 exact rfl))))<;>((apply A.tkG 11;(iterate 3 exact rfl);kernel_rfl;(apply Ok1.load;exact rfl;(apply Ld.own1;exact rfl;exact rfl;exact At.head;exact rfl))))<;>(apply A.one 12;kernel_rfl;exact rfl;(((apply R.isG;apply R.guard_run;exact rfl;exact rfl;(apply R.callP rfl rfl rfl (width_ok 1 2 (by decide) (by decide) (by decide))))));apply R.nil;refine ⟨?_,?_⟩;(focus ((repeat' (first|exact trivial|(refine ⟨?_,?_⟩;exact At.head))))))<;>((apply A.tkG 13;(iterate 3 exact rfl);kernel_rfl;(apply Ok1.mul64;exact rfl;exact rfl;omega;omega)))<;>((apply A.tkG 14;(iterate 3 exact rfl);kernel_rfl;(apply Ok1.shr (m:=65536);exact rfl;exact rfl;omega;exact Nat.le_of_ble_eq_true rfl;exact rfl)))<;>((apply A.tkG 15;(iterate 3 exact rfl);kernel_rfl;(apply Ok1.neq_f;exact rfl;exact rfl;omega)))<;>((apply A.tkG 16;(iterate 3 exact rfl);kernel_rfl;(apply Ok1.pick_t;exact rfl;exact rfl)))<;>(apply A.tk 17;exact rfl;kernel_rfl;(apply Ok1.pick_f;exact rfl;exact rfl))<;>(apply A.tk 18;exact rfl;kernel_rfl;(apply Ok1.assign;exact rfl))<;>(apply A.done;kernel_rfl)))|apply T.seq|apply T.region|apply T.block|apply T.skip|apply T.ret|(apply T.cond_f;exact rfl)))
    (apply RetOk.t;exact rfl)
    rfl
  · refine enterP (tb:=tb) Tryz.func247 rfl Tryz.ntmps247 rfl fun w=>?_
    repeat' (first|(apply R.is1;first|(apply R.isBin;(apply R.pure;exact rfl;first|(apply Ok1.lss_t;exact rfl;exact rfl;omega)|(apply Ok1.lss_f;exact rfl;exact rfl;omega)|(apply Ok1.gtr_f;exact rfl;exact rfl;omega)|(apply Ok1.eql_f;exact rfl;exact rfl;omega)))|(apply R.isCall;(apply R.pure;exact rfl;(apply Ok1.lenS;(iterate 3 exact rfl))))|(apply R.pure;exact rfl;first|(apply Ok1.move;exact rfl)|(apply Ok1.fieldAddr;(iterate 5 exact rfl))|(apply Ok1.load;exact rfl;(apply Ld.own1;exact rfl;exact rfl;exact At.head;exact rfl))|(apply Ok1.assign;exact rfl)|(apply Ok1.pick_t;exact rfl;exact rfl)|(apply Ok1.pick_f;exact rfl;exact rfl))|(apply R.box;(iterate 3 exact rfl);intro))|(apply R.isG;first|(apply R.guard_run;exact rfl;exact rfl)|(apply R.guard_not;(iterate 3 exact rfl)))|apply R.nil|(apply T.is;first|(apply T.drawC (id:=5) [0] (by decide);((apply A.tk 0;exact rfl;kernel_rfl;(apply Ok1.fieldAddr;(iterate 5 exact rfl)))<;>(apply A.tk 1;exact rfl;kernel_rfl;(apply Ok1.load;exact rfl;(apply Ld.own1;exact rfl;exact rfl;exact At.head;exact rfl)))<;>((apply A.tk 2;exact rfl;kernel_rfl;(apply Ok1.lss_f;exact rfl;exact rfl;omega)))<;>(apply A.tk 3;exact rfl;kernel_rfl;(apply Ok1.move;exact rfl))<;>((apply A.tkG 4;(iterate 3 exact rfl);kernel_rfl;(apply Ok1.fieldAddr;(iterate 5 exact rfl))))<;>((apply A.tkG 5;(iterate 3 exact rfl);kernel_rfl;(apply Ok1.load;exact rfl;(apply Ld.own1;exact rfl;exact rfl;exact At.head;exact rfl))))<;>((apply A.tkG 6;(iterate 3 exact rfl);kernel_rfl;(apply Ok1.lss_t;exact rfl;exact rfl;omega)))<;>((apply A.tkG 7;(iterate 3 exact rfl);kernel_rfl;(apply Ok1.move;exact rfl)))<;>((apply A.tkG 8;(iterate 3 exact rfl);kernel_rfl;(apply Ok1.fieldAddr;(iterate 5 exact rfl))))<;>((apply A.tkG 9;(iterate 3 exact rfl);kernel_rfl;(apply Ok1.load;exact rfl;(apply Ld.own1;exact rfl;exact rfl;exact At.head;exact rfl))))<;>((apply A.tkG 10;(iterate 3 exact rfl);kernel_rfl;(apply Ok1.fieldAddr;(iterate 5 exact rfl))))<;>((apply A.tkG 11;(iterate 3 exact rfl);kernel_rfl;(apply Ok1.load;exact rfl;(apply Ld.own1;exact rfl;exact rfl;exact At.head;exact rfl))))<;>(apply A.one 12;kernel_rfl;exact rfl;(((apply R.isG;apply R.guard_run;exact rfl;exact rfl;(apply R.callP rfl rfl rfl (width_ok 2 4 (by decide) (by decide) (by decide))))));apply R.nil;refine ⟨?_,?_⟩;(focus ((repeat' (first|exact trivial|(refine ⟨?_,?_⟩;exact At.head))))))<;>((apply A.tkG 13;(iterate 3 exact rfl);kernel_rfl;(apply Ok1.mul64;exact rfl;exact rfl;omega;omega)))<;>((apply A.tkG 14;(iterate 3 exact rfl);kernel_rfl;(apply Ok1.shr (m:=4294967296);exact rfl;exact rfl;omega;exact Nat.le_of_ble_eq_true rfl;exact rfl)))<;>((apply A.tkG 15;(iterate 3 exact rfl);kernel_rfl;(apply Ok1.neq_f;exact rfl;exact rfl;omega)))<;>((apply A.tkG 16;(iterate 3 exact rfl);kernel_rfl;(apply Ok1.pick_t;exact rfl;exact rfl)))<;>(apply A.tk 17;exact rfl;kernel_rfl;(apply Ok1.pick_f;exact rfl;exact rfl))<;>(apply A.tk 18;exact rfl;kernel_rfl;(apply Ok1.assign;exact rfl))<;>(apply A.done;kernel_rfl)))|apply T.seq|apply T.region|apply T.block|apply T.skip|apply T.ret|(apply T.cond_f;exact rfl)))
    (apply RetOk.t;exact rfl)
    rfl
theorem fout_ok (s:Nat) (n:Int) (h:Fits s n) (w:World):CallM Tryz.prog 248 [.agg ⟨fldV s n⟩] [] w fun v L=>∃ b,v = .slice (some ⟨b,0,none⟩) (numI s n).length (numI s n).length∧L=[(b,.cells ⟨u8s (numI s n)⟩ 5 (0,0))]:=by
  have hs:s=0 ∨ s=1 ∨ s=2:=by unfold Fits at h;omega
  have hn:n≤9223372036854775807:=by unfold Fits at h;omega
  have hnum:=fun w1=>number_ok s n hs h.1 hn w1
  unfold fldV
  refine enterK (tb:=tb) Tryz.func248 rfl Tryz.ntmps248 rfl ?_
  repeat' (first|(apply R.is1;first|(apply R.isBin;(apply R.pure;exact rfl;(apply Ok1.eql_f;exact rfl;exact rfl;omega)))|(apply R.isCall;(apply R.callE;(iterate 3 exact rfl);exact Ext.none _;intro w1 hw1;exact hnum w1;rintro v Lo ⟨b,rfl,rfl⟩))|(apply R.pure;exact rfl;first|(apply Ok1.fieldAddr;(iterate 5 exact rfl))|(apply Ok1.load;exact rfl;(apply Ld.own1;exact rfl;exact rfl;exact At.head;exact rfl))|(apply Ok1.assign;exact rfl))|(apply R.box;(iterate 3 exact rfl);intro))|apply R.nil|(apply T.is;first|apply T.seq|apply T.region|apply T.skip|apply T.ret|(apply T.cond_f;exact rfl)))
  (apply RetOk.t;exact rfl)
  exact ⟨_,by (focus (repeat' first|exact Keep.nil _|exact Ext.one _ _|apply Keep.cons);done),b,rfl,rfl⟩
/-- A writer that has written,without an error. -/
def WL (bw:Nat) (ov:Ov) (bs:List Int):Lst:=(bw,.cells ⟨[slV ov bs.length,.int .i64 0]⟩ 287 (0,0))::blkL 5 ov (u8s bs)
def WRes (bw:Nat) (bs:List Int) (v:Value) (L:Lst):Prop:=∃ ov,v = .pointer (some ⟨bw,0,none⟩)∧OvOk 1 ov bs.length (u8s bs)∧L=WL bw ov bs
theorem num_len (s:Nat) (n:Int):1≤(numI s n).length∧(numI s n).length≤4:=by unfold numI len4;split<;>simp
theorem put_ok (bw:Nat) (ov:Ov) (bs:List Int) (hov:OvOk 1 ov bs.length (u8s bs)) (s:Nat) (n:Int) (h:Fits s n) (hbig:bs.length≤1000) (bf:Nat) (fz:Nat × Nat) (e:TypeId) (w:World) (hb:w.heap[bf]? = some (.cells ⟨fldV s n⟩ e fz)) (hoff:bf ∉ blks (WL bw ov bs)) :
    CallM Tryz.prog 200 [.pointer (some ⟨bw,0,none⟩),.slice (some ⟨bf,0,none⟩) 1 1] (WL bw ov bs) w (WRes bw (bs++numI s n)):=by
  have hck:=wcheck_ok s n h
  have hfo:=fun w1=>fout_ok s n h w1
  have hnl:=num_len s n
  unfold WRes
  generalize numI s n=nb at *
  refine enterK (tb:=tb) Tryz.func200 rfl Tryz.ntmps200 rfl ?_
  obtain ⟨S,hS⟩:∃ S,S=blks (WL bw ov bs):=⟨_,rfl⟩
  rw [← hS] at hoff ⊢
  simp only [WL,fldV] at hb hck hfo ⊢
  repeat' (first|(apply R.is1;first|(apply R.isBin;(apply R.pure;exact rfl;first|(apply Ok1.add64;exact rfl;exact rfl;omega;omega)|(apply Ok1.lss_t;exact rfl;exact rfl;omega)|(apply Ok1.lss_f;exact rfl;exact rfl;omega)|(apply Ok1.gtr_f;exact rfl;exact rfl;omega)|(apply Ok1.neq_f;exact rfl;exact rfl;omega)|(apply Ok1.eqlP;(iterate 5 exact rfl))))|(apply R.isCall;first|apply R.callP rfl rfl rfl hck|(apply R.callE;(iterate 3 exact rfl);exact Ext.none _;intro w1 hw1;exact hfo w1;rintro v Lo ⟨b7,rfl,rfl⟩)|(apply R.pure;exact rfl;apply Ok1.lenOv;(iterate 3 exact rfl);exact hov)|(apply R.appendRd (xs:=nb) (v:=u8V) (sz:=1) (ov:=ov) (n:=bs.length) (old:=u8s bs);(iterate 12 exact rfl);exact hov;(focus (repeat' first|exact Ext.all _|apply Ext.cons);done);exact rfl;exact u8V_len;exact rfl;(intro w1 hw1;exact RdSl.of (junk:=[]) hw1 (by exact At.head) (by rw [fl_u8,List.append_nil]));(focus (rw [fl_u8];exact u8s_one nb));omega;intro ov1 hov1 hsome;rw [fl_u8,← u8s_app,← List.length_append];rw [fl_u8,← u8s_app,← List.length_append] at hov1)|(apply R.pure;exact rfl;(apply Ok1.lenS;(iterate 3 exact rfl))))|(apply R.pure;exact rfl;first|(apply Ok1.move;exact rfl)|(apply Ok1.fieldAddr;(iterate 5 exact rfl))|(apply Ok1.load;exact rfl;first|(apply Ld.own1;exact rfl;exact rfl;(focus (repeat' first|exact At.head|apply At.tail);done);exact rfl)|(apply Ld.ownk;exact rfl;exact rfl;(focus (repeat' first|exact At.head|apply At.tail);done);exact rfl)|(apply Ld.blkk;exact rfl;exact rfl;assumption;(assumption);exact rfl))|(apply Ok1.assign;exact rfl)|(apply Ok1.indexAddr;(iterate 5 exact rfl);omega;omega)|(apply Ok1.nilCheck;exact rfl))|(apply R.alloc;(iterate 3 exact rfl);intro))|(apply R.is0;first|(apply R.store;(iterate 3 exact rfl);exact cellsE_slV _ _;exact rfl;exact one_slV _ _;(focus (repeat' first|exact Upd.head|apply Upd.tail|apply Upd.right);done);exact rfl)|(apply R.store;(iterate 6 exact rfl);(focus (repeat' first|exact Upd.head|apply Upd.tail);done);exact rfl))|apply R.nil|(apply T.is;first|apply T.rounds 3|apply T.seq|apply T.region|apply T.block|apply T.scope|apply T.label|apply T.skip|apply T.exit|apply T.ret|(apply T.cond_t;exact rfl)|(apply T.cond_f;exact rfl)))
  (apply RetOk.t;exact rfl)
  refine ⟨_,?_,ov1,rfl,hov1,rfl⟩
  (focus (repeat' first|exact Ext.one _ _|exact Ext.here _ _|apply Keep.cons|apply Keep.last|apply Ext.cons|apply Ext.app);done)
theorem number1_ok (bw:Nat) (ov:Ov) (bs:List Int) (hov:OvOk 1 ov bs.length (u8s bs)) (s:Nat) (n:Int) (h:Fits s n) (hbig:bs.length≤1000) (bl:Nat) (fz:Nat × Nat) (e:TypeId) (w:World) (hb:w.heap[bl]? = some (.cells ⟨[.int .i64 n]⟩ e fz)) (hoff:bl ∉ blks (WL bw ov bs)) :
    CallM Tryz.prog 147 [.pointer (some ⟨bw,0,none⟩),.int .i64 s,.slice (some ⟨bl,0,none⟩) 1 1] (WL bw ov bs) w (WRes bw (bs++numI s n)):=by
  have hput:=fun bf fz e w1=>put_ok bw ov bs hov s n h hbig bf fz e w1
  unfold WRes at hput ⊢
  generalize bs++numI s n=nb at *
  refine enterK (tb:=tb) Tryz.func147 rfl Tryz.ntmps147 rfl ?_
  obtain ⟨S,hS⟩:∃ S,S=blks (WL bw ov bs):=⟨_,rfl⟩
  rw [← hS] at hoff ⊢
  repeat' (first|(apply R.is1;first|(apply R.isBin;(apply R.pure;exact rfl;first|(apply Ok1.add64;exact rfl;exact rfl;omega;omega)|(apply Ok1.lss_t;exact rfl;exact rfl;omega)|(apply Ok1.lss_f;exact rfl;exact rfl;omega)))|(apply R.isCall;first|(apply R.callE (Li:=WL bw ov bs);(iterate 3 exact rfl);(focus (repeat' first|exact Ext.all _|apply Ext.cons);done);intro w1 hw1;exact hput _ _ _ w1 (hw1.get _ _ (At.mem (by exact At.head))) (RdSl.off hw1 (by (focus (repeat' first|exact Ext.all _|apply Ext.cons);done)) (At.mem (by exact At.head)));rintro v Lo ⟨ov1,rfl,hov1,rfl⟩)|(apply R.pure;exact rfl;(apply Ok1.lenS;(iterate 3 exact rfl))))|(apply R.pure;exact rfl;first|(apply Ok1.move;exact rfl)|(apply Ok1.load;exact rfl;(apply Ld.blk1;exact rfl;exact rfl;assumption;(assumption);exact rfl))|(apply Ok1.assign;exact rfl)|(apply Ok1.indexAddr;(iterate 5 exact rfl);omega;omega)|(apply Ok1.build;(iterate 5 exact rfl)))|(apply R.buildSlice;(iterate 12 exact rfl);intro))|apply R.nil|(apply T.is;first|apply T.rounds 3|apply T.seq|apply T.region|apply T.block|apply T.skip|apply T.exit|apply T.ret|(apply T.cond_t;exact rfl)|(apply T.cond_f;exact rfl)))
  (apply RetOk.t;exact rfl)
  refine ⟨_,?_,ov1,rfl,hov1,rfl⟩
  (focus (repeat' first|exact Ext.one _ _|exact Ext.here _ _|apply Keep.cons|apply Keep.last);done)
theorem wout_ok (bw:Nat) (ov:Ov) (bs:List Int) (hov:OvOk 1 ov bs.length (u8s bs)) (hbig:bs.length≤1000000) (w:World) (hb:w.heap[bw]? = some (.cells ⟨[slV ov bs.length,.int .i64 0]⟩ 287 (0,0))) (hr:RdSl w (ovp ov) u8V bs) :
    CallM Tryz.prog 148 [.pointer (some ⟨bw,0,none⟩)] [] w fun v L=>∃ ov',OvOk 1 ov' bs.length (u8s bs)∧v = .tuple #[slV ov' bs.length,.int .i64 0]∧L=blkL 5 ov' (u8s bs):=by
  rw [slV_eq hov] at hb
  refine enterK (tb:=tb) Tryz.func148 rfl Tryz.ntmps148 rfl ?_
  have hcl:=fun w1 (hc:Chg [] w w1)=>clone_ok (ovp ov) bs.length (ovc ov bs.length) bs rfl (by omega) w1 (hr.chg' hc (fun _=>Off.nil _))
  repeat' (first|(apply R.is1;first|(apply R.isBin;(apply R.pure;exact rfl;first|(apply Ok1.neq_f;exact rfl;exact rfl;omega)|(apply Ok1.eqlP;(iterate 5 exact rfl))))|(apply R.isCall;(apply R.callE;(iterate 3 exact rfl);exact Ext.none _;intro w1 hw1;exact hcl w1 hw1.chg;rintro v Lo ⟨ov2,hov2,hsome,rfl,rfl⟩))|(apply R.pure;exact rfl;first|(apply Ok1.move;exact rfl)|(apply Ok1.fieldAddr;(iterate 5 exact rfl))|(apply Ok1.load;exact rfl;(apply Ld.blk1;exact rfl;exact rfl;assumption;(exact List.not_mem_nil);exact rfl))|(apply Ok1.assign;exact rfl)|(apply Ok1.nilCheck;exact rfl)))|apply R.nil|(apply T.is;first|apply T.seq|apply T.region|apply T.block|apply T.skip|apply T.ret|(apply T.cond_f;exact rfl)))
  (apply RetOk.tt;exact rfl;exact rfl)
  exact ⟨_,by (focus (repeat' first|exact Ext.here _ _|apply Keep.last);done),ov2,hov2,rfl,rfl⟩
def frameI (ls:List (List Int)):List Int:=ls.flatMap fun b=>len4 b.length++b
theorem frame_app (a b:List (List Int)):frameI (a++b)=frameI a++frameI b:=List.flatMap_append
theorem frame_one (b:List Int):frameI [b]=len4 b.length++b:=by simp [frameI]
theorem cat_app (a b:List Pt):cat (a++b)=cat a++cat b:=List.flatMap_append
theorem add_ok (p:Option Addr) (n cap:Nat) (xs:List Int) (hn:n=xs.length) (hbig:n≤1000000000) (bo:Nat) (ov:Ov) (pts:List Pt) (hov:OvOk 1 ov pts.length (fl Pt.v pts)) (hpl:pts.length≤1000000) (w:World) :
    CallM Tryz.prog 228 [.slice p n cap,.pointer (some ⟨bo,0,none⟩)] ((bo,.cells ⟨[slV ov pts.length]⟩ 86 (0,0))::blkL 22 ov (fl Pt.v pts)) w fun v L=>∃ ov' b4,v = .tuple #[]∧OvOk 1 ov' (pts.length+2) (fl Pt.v (pts++[⟨some ⟨b4,0,none⟩,4,len4 n⟩,⟨p,cap,xs⟩])) ∧
      L=(bo,.cells ⟨[slV ov' (pts.length+2)]⟩ 86 (0,0))::(blkL 22 ov' (fl Pt.v (pts++[⟨some ⟨b4,0,none⟩,4,len4 n⟩,⟨p,cap,xs⟩]))++[(b4,.cells ⟨u8s (len4 n)⟩ 5 (0,0))]):=by
  subst hn
  refine enterK (tb:=tb) Tryz.func228 rfl Tryz.ntmps228 rfl ?_
  repeat' (first|(apply R.is1;first|(apply R.isBin;(apply R.pure;exact rfl;(apply Ok1.shr;exact rfl;exact rfl;omega;exact Nat.le_of_ble_eq_true rfl;(first|exact pwE8|exact pwE16|exact pwE24))))|(apply R.isCall;(apply R.pure;exact rfl;(apply Ok1.lenS;(iterate 3 exact rfl))))|(apply R.pure;exact rfl;first|(apply Ok1.convU32;(iterate 5 exact rfl);omega;omega)|(apply Ok1.move;exact rfl)|(apply Ok1.load;exact rfl;(apply Ld.own1;exact rfl;exact rfl;exact At.head;exact rfl))|(apply Ok1.assign;exact rfl)|(apply Ok1.convU8;(iterate 5 exact rfl);omega;omega)|(apply Ok1.conv;(iterate 5 exact rfl)))|(apply R.buildSlice;(iterate 12 exact rfl);intro))|apply R.nil|(apply T.is;first|apply T.seq|apply T.region))
  rename_i b4 be
  simp only [u8_mod]
  have h4:(xs.length:Int) / 16777216=(xs.length:Int) / 16777216 % 256:=by omega
  rw [h4]
  repeat' (first|(apply R.is1;(apply R.isCall;(apply R.appendRd (xs:=[⟨some ⟨b4,0,none⟩,4,len4 xs.length⟩,⟨p,cap,xs⟩]) (v:=Pt.v) (sz:=1) (ov:=ov) (n:=pts.length) (old:=fl Pt.v pts);(iterate 12 exact rfl);exact hov;(focus (repeat' first|exact Ext.all _|apply Ext.cons);done);exact rfl;exact Pt.v_len;exact rfl;(intro w1 hw1;exact RdSl.of (junk:=[]) hw1 (by exact At.head) rfl);exact rfl;omega;intro ov1 hov1 hsome)))|(apply R.is0;(apply R.store;(iterate 3 exact rfl);exact cellsE_slV _ _;exact rfl;exact one_slV _ _;(focus (repeat' first|exact Upd.head|apply Upd.tail|apply Upd.right);done);exact rfl))|apply R.nil)
  (apply RetOk.n)
  rw [← fl_app] at hov1 ⊢
  refine ⟨_,?_,ov1,b4,rfl,hov1,rfl⟩
  (focus (repeat' first|exact Keep.nil _|exact Ext.one _ _|exact Ext.here _ _|apply Keep.cons|apply Keep.app|apply Ext.cons|apply Ext.app);done)
theorem RdSl.heap {α:Type} {v:α→List Value} {rs:List α} {w:World} {b:Nat} {e:TypeId} {fz:Nat × Nat} {junk:List Value} (h:w.heap[b]? = some (.cells ⟨fl v rs++junk⟩ e fz)):RdSl w (some ⟨b,0,none⟩) v rs:=by
  right
  refine ⟨b,0,rfl,fun k hk=>?_⟩
  simp only [World.cell?,h]
  simp [hk,List.getElem?_append_left]
/-- What has been framed so far: the parts,and the blocks that they lie in. -/
structure FO where
  ov:Ov
  pts:List Pt
  ex:Lst
def FOok (f:FO) (ls:List (List Int)) (src:World→Prop):Prop:=OvOk 1 f.ov f.pts.length (fl Pt.v f.pts)∧f.pts.length=2 * ls.length∧cat f.pts=frameI ls∧∀ W,(∀ z∈f.ex,W.heap[z.1]? = some z.2)→src W→∀ x∈f.pts,RdSl W x.p u8V x.xs
theorem framed_ok (name:ByteArray) (pp:Option Addr) (m cap:Nat) (ps:List Pt) (hm:m=ps.length) (hm2:m≤100000) (hname:name.size≤1000000) (hbig:∀ x∈ps,x.xs.length≤1000000000) (w:World) (hp:RdSl w pp Pt.v ps) :
    CallM Tryz.prog 173 [.string name,.slice pp m cap] [] w fun v L=>∃ f:FO,v=slV f.ov f.pts.length∧L=blkL 22 f.ov (fl Pt.v f.pts)++f.ex∧FOok f (strI name::ps.map (·.xs)) (fun W=>∀ x∈ps,RdSl W x.p u8V x.xs):=by
  subst hm
  refine enterK (tb:=tb) Tryz.func173 rfl Tryz.ntmps173 rfl ?_
  have hnl:(strI name).length=name.size:=by simp [strI]
  repeat' (first|(apply R.is1;first|(apply R.convBytes;(iterate 8 exact rfl);intro bn jn kn)|(apply R.pure;exact rfl;first|(apply Ok1.move;exact rfl)|(apply Ok1.assign;exact rfl)|(apply Ok1.makeFunc;exact rfl;exact rfl))|(apply R.alloc;(iterate 3 exact rfl);intro))|apply R.nil|(apply T.is;first|apply T.seq|apply T.region))
  rename_i bo
  obtain ⟨src,hsrc⟩:∃ src:World→Prop,src=fun W=>∀ x∈ps,RdSl W x.p u8V x.xs:=⟨_,rfl⟩
  rw [← hsrc]
  repeat' (first|(apply R.is1;first|(apply R.isCall;first|(apply R.callFE (fa:=[]) (cb:=[.pointer (some ⟨bo,0,none⟩)]) (Li:=[(bo,.cells ⟨[.slice none 0 0]⟩ 86 (0,0))]);(iterate 4 exact rfl);(focus (repeat' first|exact Ext.one _ _|apply Ext.cons);done);intro w1 hw1;exact add_ok (some ⟨bn,0,none⟩) name.size _ (strI name) hnl.symm (by omega) bo none [] (OvOk.start 1) (by decide) w1;rintro v Lo ⟨ov1,b4,rfl,hov1,rfl⟩)|(apply R.pure;exact rfl;(apply Ok1.lenS;(iterate 3 exact rfl))))|(apply R.pure;exact rfl;(apply Ok1.move;exact rfl)))|apply R.nil|(apply T.is;first|apply T.seq|apply T.region|apply T.block))
  apply T.loopK (α:=Nat × FO) (I:=fun y=>y.1≤ps.length∧FOok y.2 (strI name::(ps.take y.1).map (·.xs)) src) (σi:=fun y=>[(5,.pointer (some ⟨bo,0,none⟩)),(6,.func (.func 228) #[] #[.pointer (some ⟨bo,0,none⟩)]),(14,.slice pp ps.length cap),(15,.int .i64 ps.length),(16,.int .i64 y.1)])
    (Li:=fun y=>(bo,.cells ⟨[slV y.2.ov y.2.pts.length]⟩ 86 (0,0))::(blkL 22 y.2.ov (fl Pt.v y.2.pts)++y.2.ex)) (μ:=fun y=>ps.length - y.1)
    (i0:=(0,⟨ov1,[⟨some ⟨b4,0,none⟩,4,len4 name.size⟩,⟨some ⟨bn,0,none⟩,name.size+jn,strI name⟩],[(b4,.cells ⟨u8s (len4 name.size)⟩ 5 (0,0)),(bn,.cells ⟨(strI name).map (.int .u8)++kn⟩ 5 (name.size+jn,name.size+jn+1))]⟩))
  · refine ⟨Nat.zero_le _,hov1,rfl,?_,fun W hex _ x hx=>?_⟩
    · simp [cat,frameI,hnl]
    · rcases List.mem_cons.1 hx with rfl|hx
      · exact RdSl.heap (junk:=[]) (e:=5) (fz:=(0,0)) (by rw [fl_u8,List.append_nil];exact hex _ List.mem_cons_self)
      · rw [List.mem_singleton.1 hx]
        exact RdSl.heap (junk:=kn) (e:=5) (fz:=(name.size+jn,name.size+jn+1)) (by rw [fl_u8];exact hex _ (List.mem_cons_of_mem _ List.mem_cons_self))
  · exact ⟨rfl,rfl,rfl,rfl,rfl,trivial⟩
  · simp only [List.nil_append,List.cons_append,List.append_assoc]
    (focus (repeat' first|exact Keep.nil _|exact Ext.one _ _|exact Ext.here _ _|apply Keep.cons|apply Keep.app);done)
  · rintro ⟨i,f⟩ ⟨hi,hov,hlen,hcat,hrd⟩
    simp only at hi hov hlen hcat hrd ⊢
    have hll:(strI name::(ps.take i).map (·.xs)).length=i+1:=by simp;omega
    rw [hll] at hlen
    rcases Nat.lt_or_ge i ps.length with hlt|hge
    · obtain ⟨x,hx⟩:∃ x,ps[i]? = some x:=⟨_,List.getElem?_eq_getElem (by omega)⟩
      obtain ⟨b',o',hpe,H⟩:=hp.at hx
      replace H:=H 1 Pt.v_len
      have hxb:=hbig x (List.mem_of_getElem? hx)
      have hls:strI name::(ps.take (i+1)).map (·.xs)=(strI name::(ps.take i).map (·.xs))++[x.xs]:=by rw [List.take_add_one,hx];simp
      obtain ⟨ov,pts,ex⟩:=f
      simp only at hov hlen hcat hrd ⊢
      repeat' (first|(apply R.is1;first|(apply R.isBin;(apply R.pure;exact rfl;first|(apply Ok1.add64;exact rfl;exact rfl;omega;omega)|(apply Ok1.lss_t;exact rfl;exact rfl;omega)))|(apply R.isCall;(apply R.callFE (fa:=[]) (cb:=[.pointer (some ⟨bo,0,none⟩)]) (Li:=(bo,.cells ⟨[slV ov pts.length]⟩ 86 (0,0))::blkL 22 ov (fl Pt.v pts));(iterate 4 exact rfl);(focus (exact Ext.here ((bo,.cells ⟨[slV ov pts.length]⟩ 86 (0,0))::blkL 22 ov (fl Pt.v pts)) ex));intro w1 hw1;exact add_ok x.p x.xs.length x.cap x.xs rfl hxb bo ov pts hov (by omega) w1;rintro v Lo ⟨ov2,b5,rfl,hov2,rfl⟩))|(apply R.pure;exact rfl;first|(apply Ok1.indexAddrP;(iterate 4 exact rfl);exact hpe;exact rfl;omega;omega)|(apply Ok1.load;exact rfl;apply Ld.row0 H;exact rfl;exact List.not_mem_nil;(iterate 3 exact rfl))|(apply Ok1.move;exact rfl)|(apply Ok1.assign;exact rfl)))|apply R.nil|(apply T.is;first|apply T.seq|apply T.region|apply T.block|apply T.skip|(apply T.cond_t;exact rfl)))
      refine ⟨(i+1,⟨ov2,pts++[⟨some ⟨b5,0,none⟩,4,len4 x.xs.length⟩,x],(b5,.cells ⟨u8s (len4 x.xs.length)⟩ 5 (0,0))::ex⟩),⟨by simp only;omega,?_⟩,by simp only;omega,⟨rfl,rfl,rfl,rfl,rfl,trivial⟩,?_⟩
      · rw [hls]
        refine ⟨by simpa using hov2,by simp [hlen];omega,?_,fun W hex hs y hy=>?_⟩
        · rw [frame_app,cat_app,hcat,frame_one]
          simp [cat]
        · rcases List.mem_append.1 hy with hy|hy
          · exact hrd W (fun z hz=>hex z (List.mem_cons_of_mem _ hz)) hs y hy
          · rcases List.mem_cons.1 hy with rfl|hy
            · exact RdSl.heap (junk:=[]) (e:=5) (fz:=(0,0)) (by rw [fl_u8,List.append_nil];exact hex _ List.mem_cons_self)
            · rw [List.mem_singleton.1 hy]
              rw [hsrc] at hs
              exact hs x (List.mem_of_getElem? hx)
      · simp only [List.length_append,List.length_cons,List.length_nil,List.append_assoc,List.cons_append,List.nil_append]
        (focus (repeat' first|exact Ext.one _ _|exact Ext.here _ _|exact Ext.all _|apply Keep.cons|apply Keep.app|apply Keep.last);done)
    · have him:i=ps.length:=by omega
      subst him
      rw [List.take_length] at hcat
      repeat' (first|(apply R.is1;first|(apply R.isBin;(apply R.pure;exact rfl;(apply Ok1.lss_f;exact rfl;exact rfl;omega)))|(apply R.pure;exact rfl;first|(apply Ok1.load;exact rfl;(apply Ld.own1;exact rfl;exact rfl;exact At.head;exact rfl))|(apply Ok1.assign;exact rfl)))|apply R.nil|(apply T.is;first|apply T.seq|apply T.region|apply T.exit|apply T.ret|(apply T.cond_f;exact rfl)))
      (apply RetOk.t;exact rfl)
      refine ⟨_,?_,f,rfl,rfl,hov,?_,hcat,hrd⟩
      · (focus (repeat' first|exact Ext.here _ _|exact Ext.all _|apply Keep.app|apply Keep.last|apply Ext.cons);done)
      · simp [hlen]
/-- A key that was made: its block,its bytes'. -/
def KL (bk:Nat) (ov:Ov) (xs:List Int):Lst:=(bk,.cells ⟨[slV ov xs.length]⟩ 217 (0,0))::blkL 5 ov (u8s xs)
/-- A key that is read. -/
def KeyR (w:World) (bk:Nat) (xs:List Int):Prop:=∃ p cap,w.heap[bk]? = some (.cells ⟨[.slice p xs.length cap]⟩ 217 (0,0))∧RdSl w p u8V xs
theorem KeyR.chg {w w':World} {bk:Nat} {xs:List Int} (h:KeyR w bk xs) (hc:Chg [] w w'):KeyR w' bk xs:=by
  obtain ⟨p,cap,h1,h2⟩:=h
  exact ⟨p,cap,hc.heap h1 List.not_mem_nil,h2.chg' hc (fun _=>Off.nil _)⟩
theorem KeyR.of {ov:Ov} {bk:Nat} {xs:List Int} (hov:OvOk 1 ov xs.length (u8s xs)) {w0 w:World} {S:List Nat} {L:Lst} (hw:Hp w0 S L w) (hin:∀ z∈KL bk ov xs,z∈L):KeyR w bk xs:=by
  refine ⟨ovp ov,ovc ov xs.length,?_,rdown hov hw fun z hz=>hin z (List.mem_cons_of_mem _ hz)⟩
  rw [← slV_eq hov]
  exact hw.get _ _ (hin _ List.mem_cons_self)
theorem new_ok (p:Option Addr) (n cap:Nat) (xs:List Int) (hn:n=xs.length) (hbig:n≤1000000000) (w:World) (hp:RdSl w p u8V xs) :
    CallM Tryz.prog 34 [.slice p n cap] [] w fun v L=>∃ bk ov,v = .pointer (some ⟨bk,0,none⟩)∧OvOk 1 ov xs.length (u8s xs)∧ov.isSome=p.isSome∧L=KL bk ov xs:=by
  subst hn
  refine enterK (tb:=tb) Tryz.func34 rfl Tryz.ntmps34 rfl ?_
  have hcl:=fun w1 (hc:Chg [] w w1)=>clone_ok p xs.length cap xs rfl hbig w1 (hp.chg' hc (fun _=>Off.nil _))
  repeat' (first|(apply R.is1;first|(apply R.isCall;(apply R.callE;(iterate 3 exact rfl);exact Ext.none _;intro w1 hw1;exact hcl w1 hw1.chg;rintro v Lo ⟨ov2,hov2,hsome,rfl,rfl⟩;rw [slV_eq hov2]))|(apply R.pure;exact rfl;first|(apply Ok1.move;exact rfl)|(apply Ok1.assign;exact rfl)|(apply Ok1.build;(iterate 5 exact rfl)))|(apply R.box;(iterate 3 exact rfl);intro))|apply R.nil|(apply T.is;first|apply T.seq|apply T.region|apply T.ret))
  rename_i bk
  (apply RetOk.t;exact rfl)
  refine ⟨_,?_,bk,ov2,rfl,hov2,hsome,rfl⟩
  simp only [KL,slV_eq hov2]
  (focus (repeat' first|exact Ext.one _ _|exact Ext.here _ _|apply Keep.cons|apply Keep.last);done)
theorem bytes_ok (bk:Nat) (xs:List Int) (hbig:xs.length≤1000000000) (w:World) (hk:KeyR w bk xs) :
    CallM Tryz.prog 112 [.pointer (some ⟨bk,0,none⟩)] [] w fun v L=>∃ ov,OvOk 1 ov xs.length (u8s xs)∧v=slV ov xs.length∧L=blkL 5 ov (u8s xs):=by
  obtain ⟨p,cap,hb,hp⟩:=hk
  refine enterK (tb:=tb) Tryz.func112 rfl Tryz.ntmps112 rfl ?_
  have hcl:=fun w1 (hc:Chg [] w w1)=>clone_ok p xs.length cap xs rfl hbig w1 (hp.chg' hc (fun _=>Off.nil _))
  repeat' (first|(apply R.is1;first|(apply R.isBin;(apply R.pure;exact rfl;(apply Ok1.eqlP;(iterate 5 exact rfl))))|(apply R.isCall;(apply R.callE;(iterate 3 exact rfl);exact Ext.none _;intro w1 hw1;exact hcl w1 hw1.chg;rintro v Lo ⟨ov2,hov2,hsome,rfl,rfl⟩))|(apply R.pure;exact rfl;first|(apply Ok1.move;exact rfl)|(apply Ok1.fieldAddr;(iterate 5 exact rfl))|(apply Ok1.load;exact rfl;(apply Ld.blk1;exact rfl;exact rfl;assumption;(exact List.not_mem_nil);exact rfl))|(apply Ok1.assign;exact rfl)|(apply Ok1.nilCheck;exact rfl)))|apply R.nil|(apply T.is;first|apply T.seq|apply T.region|apply T.skip|apply T.ret|(apply T.cond_f;exact rfl)))
  (apply RetOk.t;exact rfl)
  exact ⟨_,by (focus (repeat' first|exact Ext.here _ _|apply Keep.last);done),ov2,hov2,rfl,rfl⟩
def deriveI (k:List Int) (label:ByteArray) (ls:List (List Int)):List Int:=hmacI k (frameI (strI label::ls))
theorem derive_len (k:List Int) (label:ByteArray) (ls:List (List Int)):(deriveI k label ls).length=32:=sha_len _
theorem derive_byt (k:List Int) (label:ByteArray) (ls:List (List Int)):Byt (deriveI k label ls):=sha_byt _
theorem frame_byt {ls:List (List Int)} (h:∀ l∈ls,Byt l):Byt (frameI ls):=by
  intro y hy
  obtain ⟨l,hl,hy⟩:=List.mem_flatMap.1 hy
  rcases List.mem_append.1 hy with hy|hy
  · exact len4_byt _ y hy
  · exact h l hl y hy
theorem str_byt (s:ByteArray):Byt (strI s):=by
  intro y hy
  obtain ⟨z,_,rfl⟩:=List.mem_map.1 hy
  have:=z.toNat_lt
  omega
theorem derive_ok (bk:Nat) (k:List Int) (hkl:k.length≤999999000) (hkb:Byt k) (name:ByteArray) (hname:name.size≤1000000) (pp:Option Addr) (m cap:Nat) (ps:List Pt) (hm:m=ps.length) (hm2:m≤100000) (hpb:∀ x∈ps,Byt x.xs) (hbig:(frameI (strI name::ps.map (·.xs))).length≤999998000) (hbig1:∀ x∈ps,x.xs.length≤1000000000) (w:World) (hk:KeyR w bk k) (hp:RdSl w pp Pt.v ps) (hall:∀ x∈ps,RdSl w x.p u8V x.xs) :
    CallM Tryz.prog 111 [.pointer (some ⟨bk,0,none⟩),.string name,.slice pp m cap] [] w fun v L=>∃ bk' ov,v = .pointer (some ⟨bk',0,none⟩)∧OvOk 1 ov 32 (u8s (deriveI k name (ps.map (·.xs))))∧L=KL bk' ov (deriveI k name (ps.map (·.xs))):=by
  obtain ⟨pk,ck,hb,hpk⟩:=hk
  have hfb:Byt (frameI (strI name::ps.map (·.xs))):=frame_byt fun l hl=>by
    rcases List.mem_cons.1 hl with rfl|hl
    · exact str_byt _
    · obtain ⟨x,hx,rfl⟩:=List.mem_map.1 hl
      exact hpb x hx
  have hdl:=derive_len k name (ps.map (·.xs))
  have hdb:=derive_byt k name (ps.map (·.xs))
  have hdd:deriveI k name (ps.map (·.xs))=hmacI k (frameI (strI name::ps.map (·.xs))):=rfl
  have hfr:=fun w1 (hc:Chg [] w w1)=>framed_ok name pp m cap ps hm hm2 hname hbig1 w1 (hp.chg' hc (fun _=>Off.nil _))
  have hmapl:(strI name::ps.map (·.xs)).length=m+1:=by simp [hm]
  generalize hfre:frameI (strI name::ps.map (·.xs))=fr at *
  generalize deriveI k name (ps.map (·.xs))=d0 at *
  have hls:(u8s d0).length=32:=by rw [u8s_len,hdl]
  have hone:=u8s_one d0
  have hset:∀ cs:List Value,cs.length=32→setE cs 0 (u8s d0)=some (u8s d0):=fun cs h=>setE_all (by rw [hls,h])
  refine enterK (tb:=tb) Tryz.func111 rfl Tryz.ntmps111 rfl ?_
  repeat' (first|(apply R.is1;first|(apply R.isBin;(apply R.pure;exact rfl;(apply Ok1.eqlP;(iterate 5 exact rfl))))|(apply R.isCall;(apply R.callE;(iterate 3 exact rfl);exact Ext.none _;intro w1 hw1;exact new_ok (some ⟨_,0,none⟩) 32 32 d0 hdl.symm (by decide) w1 (RdSl.of (junk:=[]) hw1 (by (focus (repeat' first|exact At.head|apply At.right);done)) (by rw [fl_u8,List.append_nil]));rintro v Lo ⟨bk2,ov2,rfl,hov2,_,rfl⟩))|(apply R.pure;exact rfl;first|(apply Ok1.sliceArr;(iterate 4 exact rfl))|(apply Ok1.move;exact rfl)|(apply Ok1.assign;exact rfl)))|apply R.nil|(apply T.is;first|(apply T.drawC (id:=3) [] (by decide);((apply A.tk 0;exact rfl;kernel_rfl;(apply Ok1.move;exact rfl))<;>(apply A.tk 1;exact rfl;kernel_rfl;(apply Ok1.nilCheck;exact rfl))<;>(apply A.tk 2;exact rfl;kernel_rfl;(apply Ok1.fieldAddr;(iterate 5 exact rfl)))<;>(apply A.tk 3;exact rfl;kernel_rfl;(apply Ok1.load;exact rfl;(apply Ld.blk1;exact rfl;exact rfl;assumption;(exact List.not_mem_nil);exact rfl)))<;>(apply A.tk 4;exact rfl;kernel_rfl;(apply Ok1.move;exact rfl))<;>(apply A.tk 5;exact rfl;kernel_rfl;(apply Ok1.move;exact rfl))<;>(apply A.two 6 8;kernel_rfl;exact rfl;exact rfl;rotate_left 1;(focus (((((apply R.alloc;(iterate 3 exact rfl);intro)));apply R.nil;refine ⟨?_,?_⟩;(focus ((repeat' (exact trivial)))))<;>(apply A.one 6;kernel_rfl;exact rfl;(((apply R.callE;(iterate 3 exact rfl);exact Ext.none _;intro w1 hw1;exact hfr w1 hw1.chg;rintro v Lo ⟨f,rfl,rfl,hfo,hflen,hfcat,hfrd⟩;rw [slV_eq hfo,List.append_assoc];rw [hfre] at hfcat;rw [hmapl] at hflen)));apply R.nil;refine ⟨?_,?_⟩;(focus ((repeat' (exact trivial)))))<;>(apply A.one 7;kernel_rfl;exact rfl;(((apply R.callV;(iterate 3 exact rfl);intro w1 hw1;have h9:=tag_ok pk k.length ck k rfl hkl hkb (ovp f.ov) f.pts.length (ovc f.ov f.pts.length) f.pts rfl (by rw [hfcat];exact hfb) (by rw [hfcat];exact hbig) (by omega) w1 (hpk.chg' hw1.chg (fun _=>Off.nil _)) (RdSl.own' hw1 (Ext.mem (by (focus ((repeat' (exact Ext.here _ _));done)))) hfo Pt.v_len) (hfrd w1 (fun z hz=>hw1.get _ _ (Ext.mem (s:=f.ex) (by (focus (repeat' first|exact Ext.here _ _|apply Ext.app);done)) z hz)) (fun x hx=>(hall x hx).chg' hw1.chg (fun _=>Off.nil _)));rw [hfcat,← hdd] at h9;exact h9)));apply R.nil;refine ⟨?_,?_⟩;(focus ((repeat' (exact trivial)))))<;>(apply A.one 9;kernel_rfl;exact rfl;(((apply R.store;(iterate 4 exact rfl);exact hls;exact hone;(focus (repeat' first|exact Upd.head|apply Upd.right);done);exact hset _ rfl)));apply R.nil;refine ⟨?_,?_⟩;(focus ((repeat' (exact trivial)))))<;>(apply A.done;kernel_rfl)));rotate_right 1;(focus (((((apply R.callE;(iterate 3 exact rfl);exact Ext.none _;intro w1 hw1;exact hfr w1 hw1.chg;rintro v Lo ⟨f,rfl,rfl,hfo,hflen,hfcat,hfrd⟩;rw [slV_eq hfo,List.append_assoc];rw [hfre] at hfcat;rw [hmapl] at hflen)));apply R.nil;refine ⟨?_,?_⟩;(focus ((repeat' (exact trivial)))))<;>(apply A.two 7 8;kernel_rfl;exact rfl;exact rfl;rotate_left 1;(focus (((((apply R.alloc;(iterate 3 exact rfl);intro)));apply R.nil;refine ⟨?_,?_⟩;(focus ((repeat' (exact trivial)))))<;>(apply A.one 7;kernel_rfl;exact rfl;(((apply R.callV;(iterate 3 exact rfl);intro w1 hw1;have h9:=tag_ok pk k.length ck k rfl hkl hkb (ovp f.ov) f.pts.length (ovc f.ov f.pts.length) f.pts rfl (by rw [hfcat];exact hfb) (by rw [hfcat];exact hbig) (by omega) w1 (hpk.chg' hw1.chg (fun _=>Off.nil _)) (RdSl.own' hw1 (Ext.mem (by (focus (repeat' first|exact Ext.here _ _|apply Ext.cons);done))) hfo Pt.v_len) (hfrd w1 (fun z hz=>hw1.get _ _ (Ext.mem (s:=f.ex) (by (focus (repeat' first|exact Ext.here _ _|apply Ext.cons|apply Ext.app);done)) z hz)) (fun x hx=>(hall x hx).chg' hw1.chg (fun _=>Off.nil _)));rw [hfcat,← hdd] at h9;exact h9)));apply R.nil;refine ⟨?_,?_⟩;(focus ((repeat' (exact trivial)))))<;>(apply A.one 9;kernel_rfl;exact rfl;(((apply R.store;(iterate 4 exact rfl);exact hls;exact hone;exact Upd.head;exact hset _ rfl)));apply R.nil;refine ⟨?_,?_⟩;(focus ((repeat' (exact trivial)))))<;>(apply A.done;kernel_rfl)));rotate_right 1;(focus (((((apply R.callV;(iterate 3 exact rfl);intro w1 hw1;have h9:=tag_ok pk k.length ck k rfl hkl hkb (ovp f.ov) f.pts.length (ovc f.ov f.pts.length) f.pts rfl (by rw [hfcat];exact hfb) (by rw [hfcat];exact hbig) (by omega) w1 (hpk.chg' hw1.chg (fun _=>Off.nil _)) (RdSl.own' hw1 (Ext.mem (by (focus ((repeat' (exact Ext.here _ _));done)))) hfo Pt.v_len) (hfrd w1 (fun z hz=>hw1.get _ _ (Ext.mem (s:=f.ex) (by (focus (repeat' first|exact Ext.here _ _|apply Ext.app);done)) z hz)) (fun x hx=>(hall x hx).chg' hw1.chg (fun _=>Off.nil _)));rw [hfcat,← hdd] at h9;exact h9)));apply R.nil;refine ⟨?_,?_⟩;(focus ((repeat' (exact trivial)))))<;>(apply A.one 8;kernel_rfl;exact rfl;(((apply R.alloc;(iterate 3 exact rfl);intro)));apply R.nil;refine ⟨?_,?_⟩;(focus ((repeat' (exact trivial)))))<;>(apply A.one 9;kernel_rfl;exact rfl;(((apply R.store;(iterate 4 exact rfl);exact hls;exact hone;exact Upd.head;exact hset _ rfl)));apply R.nil;refine ⟨?_,?_⟩;(focus ((repeat' (exact trivial)))))<;>(apply A.done;kernel_rfl)))))))))|apply T.seq|apply T.region|apply T.skip|apply T.ret|(apply T.cond_f;exact rfl)))
  all_goals (apply RetOk.t;exact rfl)
  all_goals rw [hdl] at hov2
  all_goals refine ⟨_,?_,bk2,ov2,rfl,hov2,rfl⟩
  all_goals (focus (repeat' first|exact Ext.one _ _|exact Ext.here _ _|apply Keep.cons|apply Keep.last);done)
theorem equal_ok (p1 p2:Option Addr) (n c1 c2:Nat) (xs:List Int) (hn:n=xs.length) (hbig:n≤1000000000) (hb:Byt xs) (w:World) (h1:RdSl w p1 u8V xs) (h2:RdSl w p2 u8V xs):CallW Tryz.prog 259 [.slice p1 n c1,.slice p2 n c2] w fun v _=>v = .bool true:=by
  subst hn
  refine enterW (tb:=tb) Tryz.func259 rfl Tryz.ntmps259 rfl ?_
  repeat' (first|(apply R.is1;first|(apply R.isBin;(apply R.pure;exact rfl;(apply Ok1.neq_f;exact rfl;exact rfl;omega)))|(apply R.isCall;(apply R.pure;exact rfl;(apply Ok1.lenS;(iterate 3 exact rfl))))|(apply R.pure;exact rfl;first|(apply Ok1.move;exact rfl)|(apply Ok1.assign;exact rfl)))|apply R.nil|(apply T.is;first|apply T.seq|apply T.region|apply T.block|apply T.skip|(apply T.cond_f;exact rfl)))
  apply T.loopK (α:=Nat) (I:=fun i=>i≤xs.length) (σi:=fun i=>[(0,.slice p1 xs.length c1),(1,.slice p2 xs.length c2),(5,.int .u8 0),(13,.int .i64 xs.length),(14,.int .i64 i)]) (Li:=fun _=>[]) (μ:=fun i=>xs.length - i) (i0:=0)
  · exact Nat.zero_le _
  · exact ⟨rfl,rfl,rfl,rfl,rfl,trivial⟩
  · (focus ((repeat' (exact Keep.nil _));done))
  · intro i hi
    rcases Nat.lt_or_ge i xs.length with hlt|hge
    · obtain ⟨x,hx⟩:∃ x,xs[i]? = some x:=⟨_,List.getElem?_eq_getElem (by omega)⟩
      obtain ⟨b1,o1,hpe1,H1⟩:=h1.at hx
      obtain ⟨b2,o2,hpe2,H2⟩:=h2.at hx
      replace H1:=H1 1 u8V_len
      replace H2:=H2 1 u8V_len
      have hxx:orI .u8 0 (xorI .u8 x x)=0:=by
        have:xorI .u8 x x=0:=by unfold xorI;rw [BitVec.xor_self];rfl
        rw [this];decide +kernel
      repeat' (first|(apply R.is1;first|(apply R.isBin;(apply R.pure;exact rfl;first|(apply Ok1.add64;exact rfl;exact rfl;omega;omega)|(apply Ok1.lss_t;exact rfl;exact rfl;omega)))|(apply R.pure;exact rfl;first|(apply Ok1.move;exact rfl)|(apply Ok1.assign;exact rfl)))|apply R.nil|(apply T.is;first|(apply T.drawC (id:=7) [] (by decide);((apply A.tk 0;exact rfl;kernel_rfl;(apply Ok1.move;exact rfl))<;>(apply A.tk 1;exact rfl;kernel_rfl;(apply Ok1.move;exact rfl))<;>(apply A.tk 2;exact rfl;kernel_rfl;(apply Ok1.move;exact rfl))<;>(apply A.tk 3;exact rfl;kernel_rfl;(apply Ok1.indexAddrP;(iterate 4 exact rfl);(exact hpe1);exact rfl;omega;omega))<;>(apply A.tk 4;exact rfl;kernel_rfl;(apply Ok1.load;exact rfl;(apply Ld.row0 H1;exact rfl;exact List.not_mem_nil;(iterate 3 exact rfl))))<;>(apply A.tk 5;exact rfl;kernel_rfl;(apply Ok1.move;exact rfl))<;>(apply A.tk 6;exact rfl;kernel_rfl;(apply Ok1.move;exact rfl))<;>(apply A.tk 7;exact rfl;kernel_rfl;(apply Ok1.indexAddrP;(iterate 4 exact rfl);(exact hpe2);exact rfl;omega;omega))<;>(apply A.tk 8;exact rfl;kernel_rfl;(apply Ok1.load;exact rfl;(apply Ld.row0 H2;exact rfl;exact List.not_mem_nil;(iterate 3 exact rfl))))<;>(apply A.tk 9;exact rfl;kernel_rfl;(apply Ok1.xorK;exact rfl;exact rfl))<;>(apply A.tk 10;exact rfl;kernel_rfl;(apply Ok1.orK;exact rfl;exact rfl))<;>(apply A.tk 11;exact rfl;kernel_rfl;(apply Ok1.assign;exact rfl))<;>(apply A.done;kernel_rfl)))|apply T.seq|apply T.region|apply T.block|apply T.skip|(apply T.cond_t;exact rfl)))
      refine ⟨i+1,by omega,by omega,⟨rfl,rfl,?_,rfl,rfl,trivial⟩,by (focus ((repeat' (exact Keep.nil _));done))⟩
      exact congrArg (fun z=>some (Value.int .u8 z)) hxx
    · repeat' (first|(apply R.is1;first|(apply R.isBin;(apply R.pure;exact rfl;first|(apply Ok1.lss_f;exact rfl;exact rfl;omega)|(apply Ok1.eql_t;exact rfl;exact rfl;omega)))|(apply R.pure;exact rfl;first|(apply Ok1.move;exact rfl)|(apply Ok1.assign;exact rfl)))|apply R.nil|(apply T.is;first|apply T.seq|apply T.region|apply T.exit|apply T.ret|(apply T.cond_f;exact rfl)))
      (apply RetOk.t;exact rfl)
      rfl
structure Cl where
  id:Int
  roles:Int
  exp:Int
  ser:Int
  deriving DecidableEq
instance:Inhabited Cl:=⟨⟨0,0,0,0⟩⟩
def Cl.v (c:Cl):List Value:=[.int .i64 c.id,.int .i64 c.roles,.int .i64 c.exp,.int .i64 c.ser]
def kvC (c:Cl):Value:=.agg ⟨[.int .i64 c.id,.int .i64 c.roles,.int .i64 c.exp,.int .i64 c.ser]⟩
def Cl.right (c:Cl):Prop:=1≤c.id∧c.id≤65535∧0≤c.roles∧c.roles≤255∧0≤c.exp∧c.exp≤1073741824∧1≤c.ser∧c.ser≤65535
instance (c:Cl):Decidable c.right:=by unfold Cl.right;infer_instance

theorem spans_ok (a b c d:Int):CallP Tryz.prog 176 [.agg ⟨[.int .i64 a,.int .i64 b,.int .i64 c,.int .i64 d]⟩]
    (.agg ⟨[.int .i64 a,.int .i64 1,.int .i64 65535,.int .i64 b,.int .i64 0,.int .i64 255,.int .i64 c,.int .i64 0,.int .i64 1073741824,.int .i64 d,.int .i64 1,.int .i64 65535]⟩):=by
  refine enterP (tb:=tb) Tryz.func176 rfl Tryz.ntmps176 rfl fun w=>?_
  repeat' (first|(apply R.is1;first|(apply R.pure;exact rfl;first|(apply Ok1.fieldAddr;(iterate 5 exact rfl))|(apply Ok1.load;exact rfl;(apply Ld.own1;exact rfl;exact rfl;(focus (repeat' first|exact At.head|apply At.tail);done);exact rfl))|(apply Ok1.build;(iterate 5 exact rfl))|(apply Ok1.buildA;(iterate 6 exact rfl)))|(apply R.box;(iterate 3 exact rfl);intro)|(apply R.alloc;(iterate 3 exact rfl);intro))|(apply R.is0;(apply R.store;(iterate 6 exact rfl);exact Upd.head;exact rfl))|apply R.nil|(apply T.is;first|apply T.seq|apply T.region|apply T.ret))
  (apply RetOk.c;exact rfl;((apply Ld.ownk;exact rfl;exact rfl;exact At.head;exact rfl)))
  rfl
theorem check_ok (a b c d:Int):CallP Tryz.prog 119 [.agg ⟨[.int .i64 a,.int .i64 b,.int .i64 c,.int .i64 d]⟩] (.int .i64 (if Cl.right ⟨a,b,c,d⟩ then 0 else 10)):=by
  refine enterP (tb:=tb) Tryz.func119 rfl Tryz.ntmps119 rfl fun w=>?_
  repeat' (first|(apply R.is1;first|(apply R.isBin;first|(apply R.pure;exact rfl;first|(apply Ok1.add64;exact rfl;exact rfl;omega;omega)|(apply Ok1.lss_t;exact rfl;exact rfl;omega)|(apply Ok1.lss_f;exact rfl;exact rfl;omega))|(apply R.leq rfl rfl rfl<;>intro)|(apply R.geq rfl rfl rfl<;>intro))|(apply R.isCall;apply R.callP rfl rfl rfl (spans_ok _ _ _ _))|(apply R.pure;exact rfl;first|(apply Ok1.move;exact rfl)|(apply Ok1.fieldAddr;(iterate 5 exact rfl))|(apply Ok1.load;exact rfl;first|(apply Ld.own1;exact rfl;exact rfl;exact At.head;exact rfl)|(apply Ld.ownk;exact rfl;exact rfl;exact At.head;exact rfl))|(apply Ok1.assign;exact rfl)|(apply Ok1.pick_t;exact rfl;exact rfl)|(apply Ok1.pick_f;exact rfl;exact rfl)|(apply Ok1.indexk;(iterate 6 exact rfl);omega;omega;exact rfl))|(apply R.box;(iterate 3 exact rfl);intro)|(apply R.alloc;(iterate 3 exact rfl);intro))|(apply R.is0;(apply R.store;(iterate 6 exact rfl);exact Upd.head;exact rfl))|(apply R.isG;first|(apply R.guard_run;exact rfl;exact rfl)|(apply R.guard_not;(iterate 3 exact rfl)))|apply R.nil|(apply T.is;first|apply T.rounds 5|apply T.seq|apply T.region|apply T.block|apply T.scope|apply T.label|apply T.skip|apply T.exit|apply T.ret|(apply T.cond_t;exact rfl)|(apply T.cond_f;exact rfl)))
  all_goals (apply RetOk.t;exact rfl)
  all_goals first|rw [if_pos (by simp only [Cl.right];omega)]|rw [if_neg (by simp only [Cl.right];omega)]

structure Rm where
  kind:Int
  cl:Cl
  inc:Int
  deriving DecidableEq
def Rm.v (r:Rm):List Value:=[.int .i64 r.kind,.int .i64 r.cl.id,.int .i64 r.cl.roles,.int .i64 r.cl.exp,.int .i64 r.cl.ser,.int .i64 r.inc]
def Rm.chk (r:Rm):Int:=if r.kind < 0 ∨ 3≤r.kind then 13 else if ¬ r.cl.right ∨ r.inc < 0 ∨ 2147483647 < r.inc then 10 else 0
def Rm.outw (a b:Rm):Bool:=decide (a.cl=b.cl∧(a.inc > b.inc ∨ a.inc=b.inc∧a.kind > b.kind))
def entV (x:Rm × Int):List Value:=[.int .i64 x.1.kind,.int .i64 x.1.cl.id,.int .i64 x.1.cl.roles,.int .i64 x.1.cl.exp,.int .i64 x.1.cl.ser,.int .i64 x.1.inc,.int .i64 x.2]
def vvQ (x:Rm × Int):Value:=.agg ⟨entV x⟩
abbrev QMs:=Ms Cl (Rm × Int)
abbrev QS:=Option (Nat × QMs × Nat)
def adde (ms:QMs) (r:Rm):Int:=if r.chk≠0 then r.chk else match mget r.cl ms with
  | some h=>if r.outw h.1 then 0 else 9
  | none=>if ms.length=32 then 6 else 0
theorem adde_bad {ms:QMs} {r:Rm} (h:r.chk≠0):adde ms r=r.chk:=by simp only [adde,if_pos h]
theorem adde_some {ms:QMs} {r:Rm} (h:r.chk=0) {x:Rm × Int} (hm:mget r.cl ms=some x):adde ms r=if r.outw x.1 then 0 else 9:=by
  unfold adde;rw [if_neg (by simpa using h),hm]
theorem adde_none {ms:QMs} {r:Rm} (h:r.chk=0) (hm:mget r.cl ms=none):adde ms r=if ms.length=32 then 6 else 0:=by
  unfold adde;rw [if_neg (by simpa using h),hm]
end Go.Proofs.YtolnagbahceebaaGreat
set_option linter.unusedSimpArgs false
set_option linter.unusedVariables false
set_option linter.unusedSectionVars false
namespace Go.Proofs.YtolnagbahceebaaGreat
section
variable {κ α:Type} [DecidableEq κ]
def mkeys (ms:Ms κ α):List κ:=ms.map (·.1)
/-- A map that is in order: keys once each,stamps once each and below the clock. -/
structure MWf (s:Ms κ α × Nat):Prop where
  bnd:∀ e∈s.1,e.2.2 < s.2
  nd:(s.1.map (·.2.2)).Nodup
  keys:(mkeys s.1).Nodup
end
end Go.Proofs.YtolnagbahceebaaGreat
set_option linter.unusedSimpArgs false
set_option linter.unusedVariables false
namespace Go.Proofs.YtolnagbahceebaaGreat
open Go.RowKit Go.Shelf
set_option maxRecDepth 100000
theorem ktag_ok (bk:Nat) (k:List Int) (hkl:k.length≤999999000) (hkb:Byt k) (pp:Option Addr) (m cap:Nat) (ps:List Pt) (hm:m=ps.length) (hbyt:Byt (cat ps)) (hbig:(cat ps).length≤999998000) (hm2:m≤1000000000) (w:World) (hk:KeyR w bk k) (hpp:RdSl w pp Pt.v ps) (hall:∀ x∈ps,RdSl w x.p u8V x.xs) :
    CallW Tryz.prog 180 [.pointer (some ⟨bk,0,none⟩),.slice pp m cap] w fun v _=>v = .agg ⟨u8s (hmacI k (cat ps))⟩:=by
  obtain ⟨pk,ck,hb,hpk⟩:=hk
  have htg:=fun w1 (hc:Chg [] w w1)=>tag_ok pk k.length ck k rfl hkl hkb pp m cap ps hm hbyt hbig hm2 w1 (hpk.chg' hc (fun _=>Off.nil _)) (hpp.chg' hc (fun _=>Off.nil _)) (fun x hx=>(hall x hx).chg' hc (fun _=>Off.nil _))
  have hls:(u8s (hmacI k (cat ps))).length=32:=by rw [u8s_len,hmac_len]
  have hone:=u8s_one (hmacI k (cat ps))
  generalize u8s (hmacI k (cat ps))=D at *
  have hset:∀ cs:List Value,cs.length=32→setE cs 0 D=some D:=fun cs h=>setE_all (by rw [hls,h])
  refine enterW (tb:=tb) Tryz.func180 rfl Tryz.ntmps180 rfl ?_
  repeat' (first|(apply R.is1;first|(apply R.isBin;(apply R.pure;exact rfl;(apply Ok1.eqlP;(iterate 5 exact rfl))))|(apply R.isCall;(apply R.callW (vs:=[.slice pk k.length ck,.slice pp m cap]);(iterate 3 exact rfl);intro w1 hw1;exact htg w1 hw1.chg;rintro v rfl))|(apply R.pure;exact rfl;first|(apply Ok1.move;exact rfl)|(apply Ok1.fieldAddr;(iterate 5 exact rfl))|(apply Ok1.load;exact rfl;(apply Ld.blk1;exact rfl;exact rfl;assumption;(exact List.not_mem_nil);exact rfl))|(apply Ok1.nilCheck;exact rfl))|(apply R.alloc;(iterate 3 exact rfl);intro))|(apply R.is0;(apply R.store;(iterate 4 exact rfl);exact hls;exact hone;exact Upd.head;exact hset _ rfl))|apply R.nil|(apply T.is;first|apply T.seq|apply T.region|apply T.skip|apply T.ret|(apply T.cond_f;exact rfl)))
  (apply RetOk.c;exact rfl;(apply Ld.ownk;exact rfl;exact rfl;exact At.head;exact subE_all hls))
  rfl
def HRt (o r v:Int):Prop:=1≤o∧o≤65535∧0≤r∧r < 8∧1≤v∧v≤2147483647
instance (o r v:Int):Decidable (HRt o r v):=by unfold HRt;infer_instance
/-- An entry of a store. -/
structure SE where
  o:Int
  r:Int
  ver:Int
  bov:Ov
  body:List Int
  vov:Ov
  val:List Int
  op:Bool
def SE.v (e:SE):List Value:=[.int .i64 e.o,.int .i64 e.r,.int .i64 e.ver,slV e.bov e.body.length,slV e.vov e.val.length,.bool e.op]
def SE.L (e:SE):Lst:=blkL 5 e.bov (u8s e.body)++blkL 5 e.vov (u8s e.val)
abbrev SMs:=Ms (Int × Int) SE
end Go.Proofs.YtolnagbahceebaaGreat
set_option linter.unusedSimpArgs false
set_option linter.unusedVariables false
namespace Go.Proofs.YtolnagbahceebaaGreat
open Go.RowKit Go.Shelf Go.Sort
set_option maxRecDepth 100000
instance:Inhabited SE:=⟨⟨0,0,0,none,[],none,[],false⟩⟩
/-- A store as it must be. -/
structure SOk (ms:SMs) (clk:Nat):Prop where
  wf:MWf (ms,clk)
  key:∀ e∈ms,e.1=(e.2.1.o,e.2.1.r)
  hrt:∀ e∈ms,HRt e.2.1.o e.2.1.r e.2.1.ver
  bok:∀ e∈ms,OvOk 1 e.2.1.bov e.2.1.body.length (u8s e.2.1.body)
  vok:∀ e∈ms,OvOk 1 e.2.1.vov e.2.1.val.length (u8s e.2.1.val)
  blen:∀ e∈ms,e.2.1.body.length≤96
  vlen:∀ e∈ms,e.2.1.val.length≤96
  few:ms.length≤64
end Go.Proofs.YtolnagbahceebaaGreat
set_option linter.unusedSimpArgs false
set_option linter.unusedVariables false
namespace Go.Proofs.YtolnagbahceebaaGreat
open Go.RowKit Go.Shelf Go.Sort
set_option maxRecDepth 100000
/-- A note in memory of its own. -/
structure NE where
  o:Int
  r:Int
  ver:Int
  ov:Ov
  xs:List Int
instance:Inhabited NE:=⟨⟨0,0,0,none,[]⟩⟩
def NE.v (e:NE):List Value:=[.int .i64 e.o,.int .i64 e.r,.int .i64 e.ver,slV e.ov e.xs.length]
end Go.Proofs.YtolnagbahceebaaGreat
set_option linter.unusedSimpArgs false
set_option linter.unusedVariables false
namespace Go.Proofs.YtolnagbahceebaaGreat
open Go.RowKit Go.Shelf Go.Sort
set_option maxRecDepth 100000
section
variable {κ α β:Type} [DecidableEq κ]
end
theorem mget_mem9 {κ α:Type} [DecidableEq κ] {k:κ} {a:α}:∀ {ms:Ms κ α},mget k ms=some a→∃ b,(k,a,b)∈ms
  | [],h=>by simp [mget] at h
  | x :: r,h=>by
    simp only [mget] at h
    by_cases hx:x.1=k
    · rw [if_pos hx] at h
      cases h
      exact ⟨x.2.2,by rw [← hx];exact List.mem_cons_self⟩
    · rw [if_neg hx] at h
      obtain ⟨b,hb⟩:=mget_mem9 h
      exact ⟨b,List.mem_cons_of_mem _ hb⟩
theorem SOk.ver {ms:SMs} {clk:Nat} (h:SOk ms clk):∀ k a,mget k ms=some a→a.ver≠0:=by
  intro k a hg
  obtain ⟨b,hb⟩:=mget_mem9 hg
  have:=(h.hrt _ hb).2.2.2.2.1
  simp only at this
  omega
end Go.Proofs.YtolnagbahceebaaGreat
set_option linter.unusedSimpArgs false
set_option linter.unusedVariables false
namespace Go.Proofs.YtolnagbahceebaaGreat
open Go.RowKit Go.Shelf
set_option maxRecDepth 100000
/-- A note as it is read: its value lies somewhere. -/
structure NT where
  o:Int
  r:Int
  ver:Int
  p:Option Addr
  cap:Nat
  xs:List Int
instance:Inhabited NT:=⟨⟨0,0,0,none,0,[]⟩⟩
def NT.v (e:NT):List Value:=[.int .i64 e.o,.int .i64 e.r,.int .i64 e.ver,.slice e.p e.xs.length e.cap]
section
variable {X:Cx} {σ:Env} {L:Lst} {ty t:TypeId} {pos:String} {af:Array Edge} {x y:Operand} {r:TRow}
end
section
variable {X:Cx} {σ:Env} {L:Lst} {ty t:TypeId} {pos:String} {af:Array Edge} {x y:Operand} {r:TRow} {xs ys:List Value} {ks:List TK}
end
/-- The walk stops here. -/
structure Stop (p:Prop):Prop where
  of:p
section
variable {X:Cx} {Q:Post} {σ:Env} {L:Lst}
theorem T.stop (i:Nat) {ops:Array Oper} {g:Bool} {c d:Code} (h:Stop (T X (.seq (.seq (.region i ops g) c) d) Q σ L)):T X (.seq (.seq (.region i ops g) c) d) Q σ L:=h.of
theorem T.stop1 (i:Nat) {ops:Array Oper} {g:Bool} {d:Code} (h:Stop (T X (.seq (.region i ops g) d) Q σ L)):T X (.seq (.region i ops g) d) Q σ L:=h.of
end
theorem CallW.toM {P:Program} {f:FuncId} {vs:List Value} {w:World} {v:Value} (h:CallW P f vs w fun x _=>x=v):CallM P f vs [] w fun x L=>x=v∧L=[] :=
  ⟨fun _=>h.run.mono fun e w' ⟨x,h1,h2,h3⟩=>⟨x,[],h1,⟨h2,rfl⟩,⟨h3,by simp,by simp,by simp⟩⟩⟩

section
variable {X:Cx} {σ:Env} {L Lr:Lst} {d:Option Nat} {dd:Nat} {ty:TypeId} {pos:String} {af:Array Edge} {g:Option (Nat × Bool)} {x y:Operand} {t t2 e:TypeId} {r r2 re:TRow}
variable {all:Array Oper} {rest:List Oper} {K:Env→Lst→Prop} {p:Option Addr} {n cap i:Nat}
/-- append(s,y...) of an empty y. -/
theorem R.append0 {ov:Ov} {cap2 e2:Nat} (hn:Nat.blt dd X.n=true) (ht:X.tb.row t=some r) (hk:r.k = .slice e) (he:X.tb.row e=some re) (ht2:X.tb.row t2=some r2) (hk2:r2.k = .slice e2)
    (hx:ev σ x=some (slV ov n)) (hy:ev σ y=some (.slice p 0 cap2)) (h0:ov=none→n=0)
    (h:R X all rest K ((dd,slV ov n)::σ) L) :
    R X all (⟨some dd,.call { callee:=.builtin .append,args:=#[x,y],argTypes:=#[t,t2] },ty,pos,af,none⟩::rest) K σ L:=by
  refine R.value rfl rfl hn fun a w ha hw=>?_
  have hrun:=append_none X.tb (w:=w) (ty:=ty) (n:=n) (p2:=p) (cap2:=cap2) (ov:=ov) ht hk he ht2 hk2 h0
  refine ⟨slV ov n,w,L,?_,hw,h⟩
  simp [execOp,resolve,ha.ev hx,ha.ev hy,invoke,builtin,hrun]
end
section
variable {X:Cx} {σ:Env} {L Lr:Lst} {d:Option Nat} {ty:TypeId} {pos:String} {af:Array Edge} {g:Option (Nat × Bool)} {x:Operand} {t e:TypeId} {r re:TRow} {p:Option Addr} {n m cap b o i:Nat}
end
def clI (c:Cl):List Int:=((([]++numI 1 c.id)++numI 0 c.roles)++numI 2 c.exp)++numI 1 c.ser
theorem clI_len (c:Cl):(clI c).length=9:=rfl
theorem byt_nil:Byt []:=fun x hx=>by cases hx
theorem clI_byt (c:Cl):Byt (clI c):=Byt.app (Byt.app (Byt.app (Byt.app byt_nil (num_byt _ _)) (num_byt _ _)) (num_byt _ _)) (num_byt _ _)
theorem clBytes_ok (c:Cl) (hr:c.right) (w:World):CallM Tryz.prog 110 [kvC c] [] w fun v L=>∃ ov,OvOk 1 ov 9 (u8s (clI c))∧v = .tuple #[slV ov 9,.int .i64 0]∧L=blkL 5 ov (u8s (clI c)):=by
  have hck:=check_ok c.id c.roles c.exp c.ser
  rw [if_pos hr] at hck
  have hf1:Fits 1 c.id:=by unfold Cl.right at hr;unfold Fits;omega
  have hf2:Fits 0 c.roles:=by unfold Cl.right at hr;unfold Fits;omega
  have hf3:Fits 2 c.exp:=by unfold Cl.right at hr;unfold Fits;omega
  have hf4:Fits 1 c.ser:=by unfold Cl.right at hr;unfold Fits;omega
  refine enterK (tb:=tb) Tryz.func110 rfl Tryz.ntmps110 rfl ?_
  simp only [kvC]
  repeat' (first|(apply R.is1;first|(apply R.isBin;(apply R.pure;exact rfl;(apply Ok1.neq_f;exact rfl;exact rfl;omega)))|(apply R.isCall;apply R.callP rfl rfl rfl hck)|(apply R.pure;exact rfl;first|(apply Ok1.move;exact rfl)|(apply Ok1.load;exact rfl;(apply Ld.ownk;exact rfl;exact rfl;exact At.head;exact rfl))|(apply Ok1.assign;exact rfl))|(apply R.box;(iterate 3 exact rfl);intro)|(apply R.alloc;(iterate 3 exact rfl);intro))|apply R.nil|(apply T.is;first|apply T.seq|apply T.region|apply T.skip|(apply T.cond_f;exact rfl)))
  rename_i bc bw
  obtain ⟨B0,hB0⟩:∃ B:List Int,B=[]:=⟨_,rfl⟩
  obtain ⟨B1,hB1⟩:∃ B,B=B0++numI 1 c.id:=⟨_,rfl⟩
  obtain ⟨B2,hB2⟩:∃ B,B=B1++numI 0 c.roles:=⟨_,rfl⟩
  obtain ⟨B3,hB3⟩:∃ B,B=B2++numI 2 c.exp:=⟨_,rfl⟩
  obtain ⟨B4,hB4⟩:∃ B,B=B3++numI 1 c.ser:=⟨_,rfl⟩
  have hl0:B0.length≤1000:=by rw [hB0];decide
  have hl1:B1.length≤1000:=by rw [hB1,hB0];exact Nat.le_of_ble_eq_true rfl
  have hl2:B2.length≤1000:=by rw [hB2,hB1,hB0];exact Nat.le_of_ble_eq_true rfl
  have hl3:B3.length≤1000:=by rw [hB3,hB2,hB1,hB0];exact Nat.le_of_ble_eq_true rfl
  have hB:B4=clI c:=by rw [hB4,hB3,hB2,hB1,hB0];rfl
  have hw0:OvOk 1 none B0.length (u8s B0):=by rw [hB0];exact OvOk.start 1
  apply T.drawC (id:=5) [1] (by decide)
  (apply A.tk 0;exact rfl;kernel_rfl;(apply Ok1.fieldAddr;(iterate 5 exact rfl)))<;>(apply A.tk 1;exact rfl;kernel_rfl;(apply Ok1.load;exact rfl;(apply Ld.own1;exact rfl;exact rfl;exact At.head;exact rfl)))<;>(apply A.tk 4;exact rfl;kernel_rfl;(apply Ok1.fieldAddr;(iterate 5 exact rfl)))<;>(apply A.tk 5;exact rfl;kernel_rfl;(apply Ok1.load;exact rfl;(apply Ld.own1;exact rfl;exact rfl;exact At.head;exact rfl)))<;>(apply A.tk 8;exact rfl;kernel_rfl;(apply Ok1.fieldAddr;(iterate 5 exact rfl)))<;>(apply A.tk 9;exact rfl;kernel_rfl;(apply Ok1.load;exact rfl;(apply Ld.own1;exact rfl;exact rfl;exact At.head;exact rfl)))<;>(apply A.tk 12;exact rfl;kernel_rfl;(apply Ok1.fieldAddr;(iterate 5 exact rfl)))<;>(apply A.tk 13;exact rfl;kernel_rfl;(apply Ok1.load;exact rfl;(apply Ld.own1;exact rfl;exact rfl;exact At.head;exact rfl)))
  refine A.merge (fun σ L=>∃ (ov:Ov),OvOk 1 ov B4.length (u8s B4)∧Sub [(5,.pointer (some ⟨bw,0,none⟩)),(12,.int .i64 c.id),(16,.int .i64 c.roles),(20,.int .i64 c.exp),(24,.int .i64 c.ser),(26,.pointer (some ⟨bw,0,none⟩))] σ∧Keep L (WL bw ov B4++[(bc,.cells ⟨[.int .i64 c.id,.int .i64 c.roles,.int .i64 c.exp,.int .i64 c.ser]⟩ 97 (0,0))])) 5 #[true,true,true,true,true,true,true,true,true,true,true,true,true,true,true,true,false,false,false,false,false] ?_ ?_
  rotate_left 1
  focus
    intro H4_
    refine A.merge (fun σ L=>∃ (ov:Ov) (b3:Nat),OvOk 1 ov B3.length (u8s B3)∧Sub [(5,.pointer (some ⟨bw,0,none⟩)),(12,.int .i64 c.id),(16,.int .i64 c.roles),(20,.int .i64 c.exp),(24,.int .i64 c.ser),(22,.pointer (some ⟨bw,0,none⟩)),(25,.slice (some ⟨b3,0,none⟩) 1 1)] σ∧Keep L (WL bw ov B3++[(bc,.cells ⟨[.int .i64 c.id,.int .i64 c.roles,.int .i64 c.exp,.int .i64 c.ser]⟩ 97 (0,0)),(b3,.cells ⟨[.int .i64 c.ser]⟩ 3 (0,0))])) 6 #[true,true,true,true,true,true,true,true,true,true,true,true,true,true,true,false,false,false,false,false,false] ?_ ?_
    · rintro σ L ⟨ov,b3,hov,hs,hk⟩
      refine A.weak ?_ hs hk
      refine A.multi [15] (by kernel_rfl) (by decide) ⟨⟨_,rfl,?_⟩,trivial⟩
      · (apply R.callE (Li:=WL bw ov B3);(iterate 3 exact rfl);(focus ((repeat' (exact Ext.here _ _));done));intro w1 hw1;have h9:=number1_ok bw ov B3 hov 1 c.ser hf4 hl3 b3 _ _ w1 (hw1.get _ _ (At.mem (by (focus (repeat' first|exact At.head|apply At.tail|apply At.right);done)))) (RdSl.off hw1 (by (focus ((repeat' (exact Ext.here _ _));done))) (At.mem (by (focus (repeat' first|exact At.head|apply At.tail);done))));rw [← hB4] at h9;exact h9;rintro v Lo ⟨ov1,rfl,hov1,rfl⟩);apply R.nil;refine ⟨(by (focus (repeat' first|exact trivial|exact At.head|apply At.tail|apply At.right|refine ⟨?_,?_⟩))),A.cast (by kernel_rfl) (H4_ _ _ ⟨ov1,hov1,⟨rfl,rfl,rfl,rfl,rfl,rfl,trivial⟩,(by (focus (repeat' first|exact Keep.nil _|exact Ext.one _ _|exact Ext.here _ _|apply Keep.cons|apply Keep.app);done))⟩)⟩
    intro H3_3
    refine A.merge (fun σ L=>∃ (ov:Ov),OvOk 1 ov B3.length (u8s B3)∧Sub [(5,.pointer (some ⟨bw,0,none⟩)),(12,.int .i64 c.id),(16,.int .i64 c.roles),(20,.int .i64 c.exp),(24,.int .i64 c.ser),(22,.pointer (some ⟨bw,0,none⟩))] σ∧Keep L (WL bw ov B3++[(bc,.cells ⟨[.int .i64 c.id,.int .i64 c.roles,.int .i64 c.exp,.int .i64 c.ser]⟩ 97 (0,0))])) 7 #[true,true,true,true,true,true,true,true,true,true,true,true,true,true,false,false,false,false,false,false,false] ?_ ?_
    · rintro σ L ⟨ov,hov,hs,hk⟩
      refine A.weak ?_ hs hk
      refine A.multi [14] (by kernel_rfl) (by decide) ⟨⟨_,rfl,?_⟩,trivial⟩
      · (((apply R.buildSlice;(iterate 12 exact rfl);intro)));rename_i b3;apply R.nil;refine ⟨(by (focus (repeat' first|exact trivial|exact At.head|apply At.tail|apply At.right|refine ⟨?_,?_⟩))),A.cast (by kernel_rfl) (H3_3 _ _ ⟨ov,b3,hov,⟨rfl,rfl,rfl,rfl,rfl,rfl,rfl,trivial⟩,(by (focus (repeat' first|exact Keep.nil _|exact Ext.one _ _|exact Ext.here _ _|apply Keep.cons|apply Keep.app|apply Ext.cons);done))⟩)⟩
    intro H3_
    refine A.merge (fun σ L=>∃ (ov:Ov) (b2:Nat) (b3:Nat),OvOk 1 ov B2.length (u8s B2)∧Sub [(5,.pointer (some ⟨bw,0,none⟩)),(12,.int .i64 c.id),(16,.int .i64 c.roles),(20,.int .i64 c.exp),(24,.int .i64 c.ser),(18,.pointer (some ⟨bw,0,none⟩)),(21,.slice (some ⟨b2,0,none⟩) 1 1),(25,.slice (some ⟨b3,0,none⟩) 1 1)] σ∧Keep L (WL bw ov B2++[(bc,.cells ⟨[.int .i64 c.id,.int .i64 c.roles,.int .i64 c.exp,.int .i64 c.ser]⟩ 97 (0,0)),(b2,.cells ⟨[.int .i64 c.exp]⟩ 3 (0,0)),(b3,.cells ⟨[.int .i64 c.ser]⟩ 3 (0,0))])) 7 #[true,true,true,true,true,true,true,true,true,true,true,false,true,true,true,false,false,false,false,false,false] ?_ ?_
    · rintro σ L ⟨ov,b2,b3,hov,hs,hk⟩
      refine A.weak ?_ hs hk
      refine A.multi [11] (by kernel_rfl) (by decide) ⟨⟨_,rfl,?_⟩,trivial⟩
      · (apply R.callE (Li:=WL bw ov B2);(iterate 3 exact rfl);(focus ((repeat' (exact Ext.here _ _));done));intro w1 hw1;have h9:=number1_ok bw ov B2 hov 2 c.exp hf3 hl2 b2 _ _ w1 (hw1.get _ _ (At.mem (by (focus (repeat' first|exact At.head|apply At.tail|apply At.right);done)))) (RdSl.off hw1 (by (focus ((repeat' (exact Ext.here _ _));done))) (At.mem (by (focus (repeat' first|exact At.head|apply At.tail);done))));rw [← hB3] at h9;exact h9;rintro v Lo ⟨ov1,rfl,hov1,rfl⟩);apply R.nil;refine ⟨(by (focus (repeat' first|exact trivial|exact At.head|apply At.tail|apply At.right|refine ⟨?_,?_⟩))),A.cast (by kernel_rfl) (H3_3 _ _ ⟨ov1,b3,hov1,⟨rfl,rfl,rfl,rfl,rfl,rfl,rfl,trivial⟩,(by (focus (repeat' first|exact Keep.nil _|exact Ext.one _ _|exact Ext.here _ _|apply Keep.cons|apply Keep.app|apply Ext.cons);done))⟩)⟩
    intro H2_23
    refine A.merge (fun σ L=>∃ (ov:Ov) (b2:Nat),OvOk 1 ov B2.length (u8s B2)∧Sub [(5,.pointer (some ⟨bw,0,none⟩)),(12,.int .i64 c.id),(16,.int .i64 c.roles),(20,.int .i64 c.exp),(24,.int .i64 c.ser),(18,.pointer (some ⟨bw,0,none⟩)),(21,.slice (some ⟨b2,0,none⟩) 1 1)] σ∧Keep L (WL bw ov B2++[(bc,.cells ⟨[.int .i64 c.id,.int .i64 c.roles,.int .i64 c.exp,.int .i64 c.ser]⟩ 97 (0,0)),(b2,.cells ⟨[.int .i64 c.exp]⟩ 3 (0,0))])) 8 #[true,true,true,true,true,true,true,true,true,true,true,false,true,true,false,false,false,false,false,false,false] ?_ ?_
    · rintro σ L ⟨ov,b2,hov,hs,hk⟩
      refine A.weak ?_ hs hk
      refine A.multi [11,14] (by kernel_rfl) (by decide) ⟨⟨_,rfl,?_⟩,⟨_,rfl,?_⟩,trivial⟩
      · (apply R.callE (Li:=WL bw ov B2);(iterate 3 exact rfl);(focus ((repeat' (exact Ext.here _ _));done));intro w1 hw1;have h9:=number1_ok bw ov B2 hov 2 c.exp hf3 hl2 b2 _ _ w1 (hw1.get _ _ (At.mem (by (focus (repeat' first|exact At.head|apply At.tail|apply At.right);done)))) (RdSl.off hw1 (by (focus ((repeat' (exact Ext.here _ _));done))) (At.mem (by (focus (repeat' first|exact At.head|apply At.tail);done))));rw [← hB3] at h9;exact h9;rintro v Lo ⟨ov1,rfl,hov1,rfl⟩);apply R.nil;refine ⟨(by (focus (repeat' first|exact trivial|exact At.head|apply At.tail|apply At.right|refine ⟨?_,?_⟩))),A.cast (by kernel_rfl) (H3_ _ _ ⟨ov1,hov1,⟨rfl,rfl,rfl,rfl,rfl,rfl,trivial⟩,(by (focus (repeat' first|exact Keep.nil _|exact Ext.one _ _|exact Ext.here _ _|apply Keep.cons|apply Keep.app);done))⟩)⟩
      · (((apply R.buildSlice;(iterate 12 exact rfl);intro)));rename_i b3;apply R.nil;refine ⟨(by (focus (repeat' first|exact trivial|exact At.head|apply At.tail|apply At.right|refine ⟨?_,?_⟩))),A.cast (by kernel_rfl) (H2_23 _ _ ⟨ov,b2,b3,hov,⟨rfl,rfl,rfl,rfl,rfl,rfl,rfl,rfl,trivial⟩,(by (focus (repeat' first|exact Keep.nil _|exact Ext.one _ _|exact Ext.here _ _|apply Keep.cons|apply Keep.app|apply Ext.cons);done))⟩)⟩
    intro H2_2
    refine A.merge (fun σ L=>∃ (ov:Ov) (b3:Nat),OvOk 1 ov B2.length (u8s B2)∧Sub [(5,.pointer (some ⟨bw,0,none⟩)),(12,.int .i64 c.id),(16,.int .i64 c.roles),(20,.int .i64 c.exp),(24,.int .i64 c.ser),(18,.pointer (some ⟨bw,0,none⟩)),(25,.slice (some ⟨b3,0,none⟩) 1 1)] σ∧Keep L (WL bw ov B2++[(bc,.cells ⟨[.int .i64 c.id,.int .i64 c.roles,.int .i64 c.exp,.int .i64 c.ser]⟩ 97 (0,0)),(b3,.cells ⟨[.int .i64 c.ser]⟩ 3 (0,0))])) 8 #[true,true,true,true,true,true,true,true,true,true,false,false,true,true,true,false,false,false,false,false,false] ?_ ?_
    · rintro σ L ⟨ov,b3,hov,hs,hk⟩
      refine A.weak ?_ hs hk
      refine A.multi [10] (by kernel_rfl) (by decide) ⟨⟨_,rfl,?_⟩,trivial⟩
      · (((apply R.buildSlice;(iterate 12 exact rfl);intro)));rename_i b2;apply R.nil;refine ⟨(by (focus (repeat' first|exact trivial|exact At.head|apply At.tail|apply At.right|refine ⟨?_,?_⟩))),A.cast (by kernel_rfl) (H2_23 _ _ ⟨ov,b2,b3,hov,⟨rfl,rfl,rfl,rfl,rfl,rfl,rfl,rfl,trivial⟩,(by (focus (repeat' first|exact Keep.nil _|exact Ext.one _ _|exact Ext.here _ _|apply Keep.cons|apply Keep.app|apply Ext.cons);done))⟩)⟩
    intro H2_3
    refine A.merge (fun σ L=>∃ (ov:Ov),OvOk 1 ov B2.length (u8s B2)∧Sub [(5,.pointer (some ⟨bw,0,none⟩)),(12,.int .i64 c.id),(16,.int .i64 c.roles),(20,.int .i64 c.exp),(24,.int .i64 c.ser),(18,.pointer (some ⟨bw,0,none⟩))] σ∧Keep L (WL bw ov B2++[(bc,.cells ⟨[.int .i64 c.id,.int .i64 c.roles,.int .i64 c.exp,.int .i64 c.ser]⟩ 97 (0,0))])) 9 #[true,true,true,true,true,true,true,true,true,true,false,false,true,true,false,false,false,false,false,false,false] ?_ ?_
    · rintro σ L ⟨ov,hov,hs,hk⟩
      refine A.weak ?_ hs hk
      refine A.multi [10,14] (by kernel_rfl) (by decide) ⟨⟨_,rfl,?_⟩,⟨_,rfl,?_⟩,trivial⟩
      · (((apply R.buildSlice;(iterate 12 exact rfl);intro)));rename_i b2;apply R.nil;refine ⟨(by (focus (repeat' first|exact trivial|exact At.head|apply At.tail|apply At.right|refine ⟨?_,?_⟩))),A.cast (by kernel_rfl) (H2_2 _ _ ⟨ov,b2,hov,⟨rfl,rfl,rfl,rfl,rfl,rfl,rfl,trivial⟩,(by (focus (repeat' first|exact Keep.nil _|exact Ext.one _ _|exact Ext.here _ _|apply Keep.cons|apply Keep.app|apply Ext.cons);done))⟩)⟩
      · (((apply R.buildSlice;(iterate 12 exact rfl);intro)));rename_i b3;apply R.nil;refine ⟨(by (focus (repeat' first|exact trivial|exact At.head|apply At.tail|apply At.right|refine ⟨?_,?_⟩))),A.cast (by kernel_rfl) (H2_3 _ _ ⟨ov,b3,hov,⟨rfl,rfl,rfl,rfl,rfl,rfl,rfl,trivial⟩,(by (focus (repeat' first|exact Keep.nil _|exact Ext.one _ _|exact Ext.here _ _|apply Keep.cons|apply Keep.app|apply Ext.cons);done))⟩)⟩
    intro H2_
    refine A.merge (fun σ L=>∃ (ov:Ov) (b1:Nat) (b2:Nat) (b3:Nat),OvOk 1 ov B1.length (u8s B1)∧Sub [(5,.pointer (some ⟨bw,0,none⟩)),(12,.int .i64 c.id),(16,.int .i64 c.roles),(20,.int .i64 c.exp),(24,.int .i64 c.ser),(14,.pointer (some ⟨bw,0,none⟩)),(17,.slice (some ⟨b1,0,none⟩) 1 1),(21,.slice (some ⟨b2,0,none⟩) 1 1),(25,.slice (some ⟨b3,0,none⟩) 1 1)] σ∧Keep L (WL bw ov B1++[(bc,.cells ⟨[.int .i64 c.id,.int .i64 c.roles,.int .i64 c.exp,.int .i64 c.ser]⟩ 97 (0,0)),(b1,.cells ⟨[.int .i64 c.roles]⟩ 3 (0,0)),(b2,.cells ⟨[.int .i64 c.exp]⟩ 3 (0,0)),(b3,.cells ⟨[.int .i64 c.ser]⟩ 3 (0,0))])) 8 #[true,true,true,true,true,true,true,false,true,true,true,false,true,true,true,false,false,false,false,false,false] ?_ ?_
    · rintro σ L ⟨ov,b1,b2,b3,hov,hs,hk⟩
      refine A.weak ?_ hs hk
      refine A.multi [7] (by kernel_rfl) (by decide) ⟨⟨_,rfl,?_⟩,trivial⟩
      · (apply R.callE (Li:=WL bw ov B1);(iterate 3 exact rfl);(focus ((repeat' (exact Ext.here _ _));done));intro w1 hw1;have h9:=number1_ok bw ov B1 hov 0 c.roles hf2 hl1 b1 _ _ w1 (hw1.get _ _ (At.mem (by (focus (repeat' first|exact At.head|apply At.tail|apply At.right);done)))) (RdSl.off hw1 (by (focus ((repeat' (exact Ext.here _ _));done))) (At.mem (by (focus (repeat' first|exact At.head|apply At.tail);done))));rw [← hB2] at h9;exact h9;rintro v Lo ⟨ov1,rfl,hov1,rfl⟩);apply R.nil;refine ⟨(by (focus (repeat' first|exact trivial|exact At.head|apply At.tail|apply At.right|refine ⟨?_,?_⟩))),A.cast (by kernel_rfl) (H2_23 _ _ ⟨ov1,b2,b3,hov1,⟨rfl,rfl,rfl,rfl,rfl,rfl,rfl,rfl,trivial⟩,(by (focus (repeat' first|exact Keep.nil _|exact Ext.one _ _|exact Ext.here _ _|apply Keep.cons|apply Keep.app|apply Ext.cons);done))⟩)⟩
    intro H1_123
    refine A.merge (fun σ L=>∃ (ov:Ov) (b1:Nat) (b2:Nat),OvOk 1 ov B1.length (u8s B1)∧Sub [(5,.pointer (some ⟨bw,0,none⟩)),(12,.int .i64 c.id),(16,.int .i64 c.roles),(20,.int .i64 c.exp),(24,.int .i64 c.ser),(14,.pointer (some ⟨bw,0,none⟩)),(17,.slice (some ⟨b1,0,none⟩) 1 1),(21,.slice (some ⟨b2,0,none⟩) 1 1)] σ∧Keep L (WL bw ov B1++[(bc,.cells ⟨[.int .i64 c.id,.int .i64 c.roles,.int .i64 c.exp,.int .i64 c.ser]⟩ 97 (0,0)),(b1,.cells ⟨[.int .i64 c.roles]⟩ 3 (0,0)),(b2,.cells ⟨[.int .i64 c.exp]⟩ 3 (0,0))])) 9 #[true,true,true,true,true,true,true,false,true,true,true,false,true,true,false,false,false,false,false,false,false] ?_ ?_
    · rintro σ L ⟨ov,b1,b2,hov,hs,hk⟩
      refine A.weak ?_ hs hk
      refine A.multi [7,14] (by kernel_rfl) (by decide) ⟨⟨_,rfl,?_⟩,⟨_,rfl,?_⟩,trivial⟩
      · (apply R.callE (Li:=WL bw ov B1);(iterate 3 exact rfl);(focus ((repeat' (exact Ext.here _ _));done));intro w1 hw1;have h9:=number1_ok bw ov B1 hov 0 c.roles hf2 hl1 b1 _ _ w1 (hw1.get _ _ (At.mem (by (focus (repeat' first|exact At.head|apply At.tail|apply At.right);done)))) (RdSl.off hw1 (by (focus ((repeat' (exact Ext.here _ _));done))) (At.mem (by (focus (repeat' first|exact At.head|apply At.tail);done))));rw [← hB2] at h9;exact h9;rintro v Lo ⟨ov1,rfl,hov1,rfl⟩);apply R.nil;refine ⟨(by (focus (repeat' first|exact trivial|exact At.head|apply At.tail|apply At.right|refine ⟨?_,?_⟩))),A.cast (by kernel_rfl) (H2_2 _ _ ⟨ov1,b2,hov1,⟨rfl,rfl,rfl,rfl,rfl,rfl,rfl,trivial⟩,(by (focus (repeat' first|exact Keep.nil _|exact Ext.one _ _|exact Ext.here _ _|apply Keep.cons|apply Keep.app|apply Ext.cons);done))⟩)⟩
      · (((apply R.buildSlice;(iterate 12 exact rfl);intro)));rename_i b3;apply R.nil;refine ⟨(by (focus (repeat' first|exact trivial|exact At.head|apply At.tail|apply At.right|refine ⟨?_,?_⟩))),A.cast (by kernel_rfl) (H1_123 _ _ ⟨ov,b1,b2,b3,hov,⟨rfl,rfl,rfl,rfl,rfl,rfl,rfl,rfl,rfl,trivial⟩,(by (focus (repeat' first|exact Keep.nil _|exact Ext.one _ _|exact Ext.here _ _|apply Keep.cons|apply Keep.app|apply Ext.cons);done))⟩)⟩
    intro H1_12
    refine A.merge (fun σ L=>∃ (ov:Ov) (b1:Nat) (b3:Nat),OvOk 1 ov B1.length (u8s B1)∧Sub [(5,.pointer (some ⟨bw,0,none⟩)),(12,.int .i64 c.id),(16,.int .i64 c.roles),(20,.int .i64 c.exp),(24,.int .i64 c.ser),(14,.pointer (some ⟨bw,0,none⟩)),(17,.slice (some ⟨b1,0,none⟩) 1 1),(25,.slice (some ⟨b3,0,none⟩) 1 1)] σ∧Keep L (WL bw ov B1++[(bc,.cells ⟨[.int .i64 c.id,.int .i64 c.roles,.int .i64 c.exp,.int .i64 c.ser]⟩ 97 (0,0)),(b1,.cells ⟨[.int .i64 c.roles]⟩ 3 (0,0)),(b3,.cells ⟨[.int .i64 c.ser]⟩ 3 (0,0))])) 9 #[true,true,true,true,true,true,true,false,true,true,false,false,true,true,true,false,false,false,false,false,false] ?_ ?_
    · rintro σ L ⟨ov,b1,b3,hov,hs,hk⟩
      refine A.weak ?_ hs hk
      refine A.multi [7,10] (by kernel_rfl) (by decide) ⟨⟨_,rfl,?_⟩,⟨_,rfl,?_⟩,trivial⟩
      · (apply R.callE (Li:=WL bw ov B1);(iterate 3 exact rfl);(focus ((repeat' (exact Ext.here _ _));done));intro w1 hw1;have h9:=number1_ok bw ov B1 hov 0 c.roles hf2 hl1 b1 _ _ w1 (hw1.get _ _ (At.mem (by (focus (repeat' first|exact At.head|apply At.tail|apply At.right);done)))) (RdSl.off hw1 (by (focus ((repeat' (exact Ext.here _ _));done))) (At.mem (by (focus (repeat' first|exact At.head|apply At.tail);done))));rw [← hB2] at h9;exact h9;rintro v Lo ⟨ov1,rfl,hov1,rfl⟩);apply R.nil;refine ⟨(by (focus (repeat' first|exact trivial|exact At.head|apply At.tail|apply At.right|refine ⟨?_,?_⟩))),A.cast (by kernel_rfl) (H2_3 _ _ ⟨ov1,b3,hov1,⟨rfl,rfl,rfl,rfl,rfl,rfl,rfl,trivial⟩,(by (focus (repeat' first|exact Keep.nil _|exact Ext.one _ _|exact Ext.here _ _|apply Keep.cons|apply Keep.app|apply Ext.cons);done))⟩)⟩
      · (((apply R.buildSlice;(iterate 12 exact rfl);intro)));rename_i b2;apply R.nil;refine ⟨(by (focus (repeat' first|exact trivial|exact At.head|apply At.tail|apply At.right|refine ⟨?_,?_⟩))),A.cast (by kernel_rfl) (H1_123 _ _ ⟨ov,b1,b2,b3,hov,⟨rfl,rfl,rfl,rfl,rfl,rfl,rfl,rfl,rfl,trivial⟩,(by (focus (repeat' first|exact Keep.nil _|exact Ext.one _ _|exact Ext.here _ _|apply Keep.cons|apply Keep.app|apply Ext.cons);done))⟩)⟩
    intro H1_13
    refine A.merge (fun σ L=>∃ (ov:Ov) (b2:Nat) (b3:Nat),OvOk 1 ov B1.length (u8s B1)∧Sub [(5,.pointer (some ⟨bw,0,none⟩)),(12,.int .i64 c.id),(16,.int .i64 c.roles),(20,.int .i64 c.exp),(24,.int .i64 c.ser),(14,.pointer (some ⟨bw,0,none⟩)),(21,.slice (some ⟨b2,0,none⟩) 1 1),(25,.slice (some ⟨b3,0,none⟩) 1 1)] σ∧Keep L (WL bw ov B1++[(bc,.cells ⟨[.int .i64 c.id,.int .i64 c.roles,.int .i64 c.exp,.int .i64 c.ser]⟩ 97 (0,0)),(b2,.cells ⟨[.int .i64 c.exp]⟩ 3 (0,0)),(b3,.cells ⟨[.int .i64 c.ser]⟩ 3 (0,0))])) 9 #[true,true,true,true,true,true,false,false,true,true,true,false,true,true,true,false,false,false,false,false,false] ?_ ?_
    · rintro σ L ⟨ov,b2,b3,hov,hs,hk⟩
      refine A.weak ?_ hs hk
      refine A.multi [6] (by kernel_rfl) (by decide) ⟨⟨_,rfl,?_⟩,trivial⟩
      · (((apply R.buildSlice;(iterate 12 exact rfl);intro)));rename_i b1;apply R.nil;refine ⟨(by (focus (repeat' first|exact trivial|exact At.head|apply At.tail|apply At.right|refine ⟨?_,?_⟩))),A.cast (by kernel_rfl) (H1_123 _ _ ⟨ov,b1,b2,b3,hov,⟨rfl,rfl,rfl,rfl,rfl,rfl,rfl,rfl,rfl,trivial⟩,(by (focus (repeat' first|exact Keep.nil _|exact Ext.one _ _|exact Ext.here _ _|apply Keep.cons|apply Keep.app|apply Ext.cons);done))⟩)⟩
    intro H1_23
    refine A.merge (fun σ L=>∃ (ov:Ov) (b1:Nat),OvOk 1 ov B1.length (u8s B1)∧Sub [(5,.pointer (some ⟨bw,0,none⟩)),(12,.int .i64 c.id),(16,.int .i64 c.roles),(20,.int .i64 c.exp),(24,.int .i64 c.ser),(14,.pointer (some ⟨bw,0,none⟩)),(17,.slice (some ⟨b1,0,none⟩) 1 1)] σ∧Keep L (WL bw ov B1++[(bc,.cells ⟨[.int .i64 c.id,.int .i64 c.roles,.int .i64 c.exp,.int .i64 c.ser]⟩ 97 (0,0)),(b1,.cells ⟨[.int .i64 c.roles]⟩ 3 (0,0))])) 10 #[true,true,true,true,true,true,true,false,true,true,false,false,true,true,false,false,false,false,false,false,false] ?_ ?_
    · rintro σ L ⟨ov,b1,hov,hs,hk⟩
      refine A.weak ?_ hs hk
      refine A.multi [7,10,14] (by kernel_rfl) (by decide) ⟨⟨_,rfl,?_⟩,⟨_,rfl,?_⟩,⟨_,rfl,?_⟩,trivial⟩
      · (apply R.callE (Li:=WL bw ov B1);(iterate 3 exact rfl);(focus ((repeat' (exact Ext.here _ _));done));intro w1 hw1;have h9:=number1_ok bw ov B1 hov 0 c.roles hf2 hl1 b1 _ _ w1 (hw1.get _ _ (At.mem (by (focus (repeat' first|exact At.head|apply At.tail|apply At.right);done)))) (RdSl.off hw1 (by (focus ((repeat' (exact Ext.here _ _));done))) (At.mem (by (focus (repeat' first|exact At.head|apply At.tail);done))));rw [← hB2] at h9;exact h9;rintro v Lo ⟨ov1,rfl,hov1,rfl⟩);apply R.nil;refine ⟨(by (focus (repeat' first|exact trivial|exact At.head|apply At.tail|apply At.right|refine ⟨?_,?_⟩))),A.cast (by kernel_rfl) (H2_ _ _ ⟨ov1,hov1,⟨rfl,rfl,rfl,rfl,rfl,rfl,trivial⟩,(by (focus (repeat' first|exact Keep.nil _|exact Ext.one _ _|exact Ext.here _ _|apply Keep.cons|apply Keep.app);done))⟩)⟩
      · (((apply R.buildSlice;(iterate 12 exact rfl);intro)));rename_i b2;apply R.nil;refine ⟨(by (focus (repeat' first|exact trivial|exact At.head|apply At.tail|apply At.right|refine ⟨?_,?_⟩))),A.cast (by kernel_rfl) (H1_12 _ _ ⟨ov,b1,b2,hov,⟨rfl,rfl,rfl,rfl,rfl,rfl,rfl,rfl,trivial⟩,(by (focus (repeat' first|exact Keep.nil _|exact Ext.one _ _|exact Ext.here _ _|apply Keep.cons|apply Keep.app|apply Ext.cons);done))⟩)⟩
      · (((apply R.buildSlice;(iterate 12 exact rfl);intro)));rename_i b3;apply R.nil;refine ⟨(by (focus (repeat' first|exact trivial|exact At.head|apply At.tail|apply At.right|refine ⟨?_,?_⟩))),A.cast (by kernel_rfl) (H1_13 _ _ ⟨ov,b1,b3,hov,⟨rfl,rfl,rfl,rfl,rfl,rfl,rfl,rfl,trivial⟩,(by (focus (repeat' first|exact Keep.nil _|exact Ext.one _ _|exact Ext.here _ _|apply Keep.cons|apply Keep.app|apply Ext.cons);done))⟩)⟩
    intro H1_1
    refine A.merge (fun σ L=>∃ (ov:Ov) (b2:Nat),OvOk 1 ov B1.length (u8s B1)∧Sub [(5,.pointer (some ⟨bw,0,none⟩)),(12,.int .i64 c.id),(16,.int .i64 c.roles),(20,.int .i64 c.exp),(24,.int .i64 c.ser),(14,.pointer (some ⟨bw,0,none⟩)),(21,.slice (some ⟨b2,0,none⟩) 1 1)] σ∧Keep L (WL bw ov B1++[(bc,.cells ⟨[.int .i64 c.id,.int .i64 c.roles,.int .i64 c.exp,.int .i64 c.ser]⟩ 97 (0,0)),(b2,.cells ⟨[.int .i64 c.exp]⟩ 3 (0,0))])) 10 #[true,true,true,true,true,true,false,false,true,true,true,false,true,true,false,false,false,false,false,false,false] ?_ ?_
    · rintro σ L ⟨ov,b2,hov,hs,hk⟩
      refine A.weak ?_ hs hk
      refine A.multi [6,14] (by kernel_rfl) (by decide) ⟨⟨_,rfl,?_⟩,⟨_,rfl,?_⟩,trivial⟩
      · (((apply R.buildSlice;(iterate 12 exact rfl);intro)));rename_i b1;apply R.nil;refine ⟨(by (focus (repeat' first|exact trivial|exact At.head|apply At.tail|apply At.right|refine ⟨?_,?_⟩))),A.cast (by kernel_rfl) (H1_12 _ _ ⟨ov,b1,b2,hov,⟨rfl,rfl,rfl,rfl,rfl,rfl,rfl,rfl,trivial⟩,(by (focus (repeat' first|exact Keep.nil _|exact Ext.one _ _|exact Ext.here _ _|apply Keep.cons|apply Keep.app|apply Ext.cons);done))⟩)⟩
      · (((apply R.buildSlice;(iterate 12 exact rfl);intro)));rename_i b3;apply R.nil;refine ⟨(by (focus (repeat' first|exact trivial|exact At.head|apply At.tail|apply At.right|refine ⟨?_,?_⟩))),A.cast (by kernel_rfl) (H1_23 _ _ ⟨ov,b2,b3,hov,⟨rfl,rfl,rfl,rfl,rfl,rfl,rfl,rfl,trivial⟩,(by (focus (repeat' first|exact Keep.nil _|exact Ext.one _ _|exact Ext.here _ _|apply Keep.cons|apply Keep.app|apply Ext.cons);done))⟩)⟩
    intro H1_2
    refine A.merge (fun σ L=>∃ (ov:Ov) (b3:Nat),OvOk 1 ov B1.length (u8s B1)∧Sub [(5,.pointer (some ⟨bw,0,none⟩)),(12,.int .i64 c.id),(16,.int .i64 c.roles),(20,.int .i64 c.exp),(24,.int .i64 c.ser),(14,.pointer (some ⟨bw,0,none⟩)),(25,.slice (some ⟨b3,0,none⟩) 1 1)] σ∧Keep L (WL bw ov B1++[(bc,.cells ⟨[.int .i64 c.id,.int .i64 c.roles,.int .i64 c.exp,.int .i64 c.ser]⟩ 97 (0,0)),(b3,.cells ⟨[.int .i64 c.ser]⟩ 3 (0,0))])) 10 #[true,true,true,true,true,true,false,false,true,true,false,false,true,true,true,false,false,false,false,false,false] ?_ ?_
    · rintro σ L ⟨ov,b3,hov,hs,hk⟩
      refine A.weak ?_ hs hk
      refine A.multi [6,10] (by kernel_rfl) (by decide) ⟨⟨_,rfl,?_⟩,⟨_,rfl,?_⟩,trivial⟩
      · (((apply R.buildSlice;(iterate 12 exact rfl);intro)));rename_i b1;apply R.nil;refine ⟨(by (focus (repeat' first|exact trivial|exact At.head|apply At.tail|apply At.right|refine ⟨?_,?_⟩))),A.cast (by kernel_rfl) (H1_13 _ _ ⟨ov,b1,b3,hov,⟨rfl,rfl,rfl,rfl,rfl,rfl,rfl,rfl,trivial⟩,(by (focus (repeat' first|exact Keep.nil _|exact Ext.one _ _|exact Ext.here _ _|apply Keep.cons|apply Keep.app|apply Ext.cons);done))⟩)⟩
      · (((apply R.buildSlice;(iterate 12 exact rfl);intro)));rename_i b2;apply R.nil;refine ⟨(by (focus (repeat' first|exact trivial|exact At.head|apply At.tail|apply At.right|refine ⟨?_,?_⟩))),A.cast (by kernel_rfl) (H1_23 _ _ ⟨ov,b2,b3,hov,⟨rfl,rfl,rfl,rfl,rfl,rfl,rfl,rfl,trivial⟩,(by (focus (repeat' first|exact Keep.nil _|exact Ext.one _ _|exact Ext.here _ _|apply Keep.cons|apply Keep.app|apply Ext.cons);done))⟩)⟩
    intro H1_3
    refine A.merge (fun σ L=>∃ (ov:Ov),OvOk 1 ov B1.length (u8s B1)∧Sub [(5,.pointer (some ⟨bw,0,none⟩)),(12,.int .i64 c.id),(16,.int .i64 c.roles),(20,.int .i64 c.exp),(24,.int .i64 c.ser),(14,.pointer (some ⟨bw,0,none⟩))] σ∧Keep L (WL bw ov B1++[(bc,.cells ⟨[.int .i64 c.id,.int .i64 c.roles,.int .i64 c.exp,.int .i64 c.ser]⟩ 97 (0,0))])) 11 #[true,true,true,true,true,true,false,false,true,true,false,false,true,true,false,false,false,false,false,false,false] ?_ ?_
    · rintro σ L ⟨ov,hov,hs,hk⟩
      refine A.weak ?_ hs hk
      refine A.multi [6,10,14] (by kernel_rfl) (by decide) ⟨⟨_,rfl,?_⟩,⟨_,rfl,?_⟩,⟨_,rfl,?_⟩,trivial⟩
      · (((apply R.buildSlice;(iterate 12 exact rfl);intro)));rename_i b1;apply R.nil;refine ⟨(by (focus (repeat' first|exact trivial|exact At.head|apply At.tail|apply At.right|refine ⟨?_,?_⟩))),A.cast (by kernel_rfl) (H1_1 _ _ ⟨ov,b1,hov,⟨rfl,rfl,rfl,rfl,rfl,rfl,rfl,trivial⟩,(by (focus (repeat' first|exact Keep.nil _|exact Ext.one _ _|exact Ext.here _ _|apply Keep.cons|apply Keep.app|apply Ext.cons);done))⟩)⟩
      · (((apply R.buildSlice;(iterate 12 exact rfl);intro)));rename_i b2;apply R.nil;refine ⟨(by (focus (repeat' first|exact trivial|exact At.head|apply At.tail|apply At.right|refine ⟨?_,?_⟩))),A.cast (by kernel_rfl) (H1_2 _ _ ⟨ov,b2,hov,⟨rfl,rfl,rfl,rfl,rfl,rfl,rfl,trivial⟩,(by (focus (repeat' first|exact Keep.nil _|exact Ext.one _ _|exact Ext.here _ _|apply Keep.cons|apply Keep.app|apply Ext.cons);done))⟩)⟩
      · (((apply R.buildSlice;(iterate 12 exact rfl);intro)));rename_i b3;apply R.nil;refine ⟨(by (focus (repeat' first|exact trivial|exact At.head|apply At.tail|apply At.right|refine ⟨?_,?_⟩))),A.cast (by kernel_rfl) (H1_3 _ _ ⟨ov,b3,hov,⟨rfl,rfl,rfl,rfl,rfl,rfl,rfl,trivial⟩,(by (focus (repeat' first|exact Keep.nil _|exact Ext.one _ _|exact Ext.here _ _|apply Keep.cons|apply Keep.app|apply Ext.cons);done))⟩)⟩
    intro H1_
    refine A.merge (fun σ L=>∃ (ov:Ov) (b0:Nat) (b1:Nat) (b2:Nat) (b3:Nat),OvOk 1 ov B0.length (u8s B0)∧Sub [(5,.pointer (some ⟨bw,0,none⟩)),(12,.int .i64 c.id),(16,.int .i64 c.roles),(20,.int .i64 c.exp),(24,.int .i64 c.ser),(13,.slice (some ⟨b0,0,none⟩) 1 1),(17,.slice (some ⟨b1,0,none⟩) 1 1),(21,.slice (some ⟨b2,0,none⟩) 1 1),(25,.slice (some ⟨b3,0,none⟩) 1 1)] σ∧Keep L (WL bw ov B0++[(bc,.cells ⟨[.int .i64 c.id,.int .i64 c.roles,.int .i64 c.exp,.int .i64 c.ser]⟩ 97 (0,0)),(b0,.cells ⟨[.int .i64 c.id]⟩ 3 (0,0)),(b1,.cells ⟨[.int .i64 c.roles]⟩ 3 (0,0)),(b2,.cells ⟨[.int .i64 c.exp]⟩ 3 (0,0)),(b3,.cells ⟨[.int .i64 c.ser]⟩ 3 (0,0))])) 9 #[true,true,true,false,true,true,true,false,true,true,true,false,true,true,true,false,false,false,false,false,false] ?_ ?_
    · rintro σ L ⟨ov,b0,b1,b2,b3,hov,hs,hk⟩
      refine A.weak ?_ hs hk
      refine A.multi [3] (by kernel_rfl) (by decide) ⟨⟨_,rfl,?_⟩,trivial⟩
      · (apply R.callE (Li:=WL bw ov B0);(iterate 3 exact rfl);(focus ((repeat' (exact Ext.here _ _));done));intro w1 hw1;have h9:=number1_ok bw ov B0 hov 1 c.id hf1 hl0 b0 _ _ w1 (hw1.get _ _ (At.mem (by (focus (repeat' first|exact At.head|apply At.tail|apply At.right);done)))) (RdSl.off hw1 (by (focus ((repeat' (exact Ext.here _ _));done))) (At.mem (by (focus (repeat' first|exact At.head|apply At.tail);done))));rw [← hB1] at h9;exact h9;rintro v Lo ⟨ov1,rfl,hov1,rfl⟩);apply R.nil;refine ⟨(by (focus (repeat' first|exact trivial|exact At.head|apply At.tail|apply At.right|refine ⟨?_,?_⟩))),A.cast (by kernel_rfl) (H1_123 _ _ ⟨ov1,b1,b2,b3,hov1,⟨rfl,rfl,rfl,rfl,rfl,rfl,rfl,rfl,rfl,trivial⟩,(by (focus (repeat' first|exact Keep.nil _|exact Ext.one _ _|exact Ext.here _ _|apply Keep.cons|apply Keep.app|apply Ext.cons);done))⟩)⟩
    intro H0_0123
    refine A.merge (fun σ L=>∃ (ov:Ov) (b0:Nat) (b1:Nat) (b2:Nat),OvOk 1 ov B0.length (u8s B0)∧Sub [(5,.pointer (some ⟨bw,0,none⟩)),(12,.int .i64 c.id),(16,.int .i64 c.roles),(20,.int .i64 c.exp),(24,.int .i64 c.ser),(13,.slice (some ⟨b0,0,none⟩) 1 1),(17,.slice (some ⟨b1,0,none⟩) 1 1),(21,.slice (some ⟨b2,0,none⟩) 1 1)] σ∧Keep L (WL bw ov B0++[(bc,.cells ⟨[.int .i64 c.id,.int .i64 c.roles,.int .i64 c.exp,.int .i64 c.ser]⟩ 97 (0,0)),(b0,.cells ⟨[.int .i64 c.id]⟩ 3 (0,0)),(b1,.cells ⟨[.int .i64 c.roles]⟩ 3 (0,0)),(b2,.cells ⟨[.int .i64 c.exp]⟩ 3 (0,0))])) 10 #[true,true,true,false,true,true,true,false,true,true,true,false,true,true,false,false,false,false,false,false,false] ?_ ?_
    · rintro σ L ⟨ov,b0,b1,b2,hov,hs,hk⟩
      refine A.weak ?_ hs hk
      refine A.multi [3,14] (by kernel_rfl) (by decide) ⟨⟨_,rfl,?_⟩,⟨_,rfl,?_⟩,trivial⟩
      · (apply R.callE (Li:=WL bw ov B0);(iterate 3 exact rfl);(focus ((repeat' (exact Ext.here _ _));done));intro w1 hw1;have h9:=number1_ok bw ov B0 hov 1 c.id hf1 hl0 b0 _ _ w1 (hw1.get _ _ (At.mem (by (focus (repeat' first|exact At.head|apply At.tail|apply At.right);done)))) (RdSl.off hw1 (by (focus ((repeat' (exact Ext.here _ _));done))) (At.mem (by (focus (repeat' first|exact At.head|apply At.tail);done))));rw [← hB1] at h9;exact h9;rintro v Lo ⟨ov1,rfl,hov1,rfl⟩);apply R.nil;refine ⟨(by (focus (repeat' first|exact trivial|exact At.head|apply At.tail|apply At.right|refine ⟨?_,?_⟩))),A.cast (by kernel_rfl) (H1_12 _ _ ⟨ov1,b1,b2,hov1,⟨rfl,rfl,rfl,rfl,rfl,rfl,rfl,rfl,trivial⟩,(by (focus (repeat' first|exact Keep.nil _|exact Ext.one _ _|exact Ext.here _ _|apply Keep.cons|apply Keep.app|apply Ext.cons);done))⟩)⟩
      · (((apply R.buildSlice;(iterate 12 exact rfl);intro)));rename_i b3;apply R.nil;refine ⟨(by (focus (repeat' first|exact trivial|exact At.head|apply At.tail|apply At.right|refine ⟨?_,?_⟩))),A.cast (by kernel_rfl) (H0_0123 _ _ ⟨ov,b0,b1,b2,b3,hov,⟨rfl,rfl,rfl,rfl,rfl,rfl,rfl,rfl,rfl,trivial⟩,(by (focus (repeat' first|exact Keep.nil _|exact Ext.one _ _|exact Ext.here _ _|apply Keep.cons|apply Keep.app|apply Ext.cons);done))⟩)⟩
    intro H0_012
    refine A.merge (fun σ L=>∃ (ov:Ov) (b0:Nat) (b1:Nat) (b3:Nat),OvOk 1 ov B0.length (u8s B0)∧Sub [(5,.pointer (some ⟨bw,0,none⟩)),(12,.int .i64 c.id),(16,.int .i64 c.roles),(20,.int .i64 c.exp),(24,.int .i64 c.ser),(13,.slice (some ⟨b0,0,none⟩) 1 1),(17,.slice (some ⟨b1,0,none⟩) 1 1),(25,.slice (some ⟨b3,0,none⟩) 1 1)] σ∧Keep L (WL bw ov B0++[(bc,.cells ⟨[.int .i64 c.id,.int .i64 c.roles,.int .i64 c.exp,.int .i64 c.ser]⟩ 97 (0,0)),(b0,.cells ⟨[.int .i64 c.id]⟩ 3 (0,0)),(b1,.cells ⟨[.int .i64 c.roles]⟩ 3 (0,0)),(b3,.cells ⟨[.int .i64 c.ser]⟩ 3 (0,0))])) 10 #[true,true,true,false,true,true,true,false,true,true,false,false,true,true,true,false,false,false,false,false,false] ?_ ?_
    · rintro σ L ⟨ov,b0,b1,b3,hov,hs,hk⟩
      refine A.weak ?_ hs hk
      refine A.multi [3,10] (by kernel_rfl) (by decide) ⟨⟨_,rfl,?_⟩,⟨_,rfl,?_⟩,trivial⟩
      · (apply R.callE (Li:=WL bw ov B0);(iterate 3 exact rfl);(focus ((repeat' (exact Ext.here _ _));done));intro w1 hw1;have h9:=number1_ok bw ov B0 hov 1 c.id hf1 hl0 b0 _ _ w1 (hw1.get _ _ (At.mem (by (focus (repeat' first|exact At.head|apply At.tail|apply At.right);done)))) (RdSl.off hw1 (by (focus ((repeat' (exact Ext.here _ _));done))) (At.mem (by (focus (repeat' first|exact At.head|apply At.tail);done))));rw [← hB1] at h9;exact h9;rintro v Lo ⟨ov1,rfl,hov1,rfl⟩);apply R.nil;refine ⟨(by (focus (repeat' first|exact trivial|exact At.head|apply At.tail|apply At.right|refine ⟨?_,?_⟩))),A.cast (by kernel_rfl) (H1_13 _ _ ⟨ov1,b1,b3,hov1,⟨rfl,rfl,rfl,rfl,rfl,rfl,rfl,rfl,trivial⟩,(by (focus (repeat' first|exact Keep.nil _|exact Ext.one _ _|exact Ext.here _ _|apply Keep.cons|apply Keep.app|apply Ext.cons);done))⟩)⟩
      · (((apply R.buildSlice;(iterate 12 exact rfl);intro)));rename_i b2;apply R.nil;refine ⟨(by (focus (repeat' first|exact trivial|exact At.head|apply At.tail|apply At.right|refine ⟨?_,?_⟩))),A.cast (by kernel_rfl) (H0_0123 _ _ ⟨ov,b0,b1,b2,b3,hov,⟨rfl,rfl,rfl,rfl,rfl,rfl,rfl,rfl,rfl,trivial⟩,(by (focus (repeat' first|exact Keep.nil _|exact Ext.one _ _|exact Ext.here _ _|apply Keep.cons|apply Keep.app|apply Ext.cons);done))⟩)⟩
    intro H0_013
    refine A.merge (fun σ L=>∃ (ov:Ov) (b0:Nat) (b2:Nat) (b3:Nat),OvOk 1 ov B0.length (u8s B0)∧Sub [(5,.pointer (some ⟨bw,0,none⟩)),(12,.int .i64 c.id),(16,.int .i64 c.roles),(20,.int .i64 c.exp),(24,.int .i64 c.ser),(13,.slice (some ⟨b0,0,none⟩) 1 1),(21,.slice (some ⟨b2,0,none⟩) 1 1),(25,.slice (some ⟨b3,0,none⟩) 1 1)] σ∧Keep L (WL bw ov B0++[(bc,.cells ⟨[.int .i64 c.id,.int .i64 c.roles,.int .i64 c.exp,.int .i64 c.ser]⟩ 97 (0,0)),(b0,.cells ⟨[.int .i64 c.id]⟩ 3 (0,0)),(b2,.cells ⟨[.int .i64 c.exp]⟩ 3 (0,0)),(b3,.cells ⟨[.int .i64 c.ser]⟩ 3 (0,0))])) 10 #[true,true,true,false,true,true,false,false,true,true,true,false,true,true,true,false,false,false,false,false,false] ?_ ?_
    · rintro σ L ⟨ov,b0,b2,b3,hov,hs,hk⟩
      refine A.weak ?_ hs hk
      refine A.multi [3,6] (by kernel_rfl) (by decide) ⟨⟨_,rfl,?_⟩,⟨_,rfl,?_⟩,trivial⟩
      · (apply R.callE (Li:=WL bw ov B0);(iterate 3 exact rfl);(focus ((repeat' (exact Ext.here _ _));done));intro w1 hw1;have h9:=number1_ok bw ov B0 hov 1 c.id hf1 hl0 b0 _ _ w1 (hw1.get _ _ (At.mem (by (focus (repeat' first|exact At.head|apply At.tail|apply At.right);done)))) (RdSl.off hw1 (by (focus ((repeat' (exact Ext.here _ _));done))) (At.mem (by (focus (repeat' first|exact At.head|apply At.tail);done))));rw [← hB1] at h9;exact h9;rintro v Lo ⟨ov1,rfl,hov1,rfl⟩);apply R.nil;refine ⟨(by (focus (repeat' first|exact trivial|exact At.head|apply At.tail|apply At.right|refine ⟨?_,?_⟩))),A.cast (by kernel_rfl) (H1_23 _ _ ⟨ov1,b2,b3,hov1,⟨rfl,rfl,rfl,rfl,rfl,rfl,rfl,rfl,trivial⟩,(by (focus (repeat' first|exact Keep.nil _|exact Ext.one _ _|exact Ext.here _ _|apply Keep.cons|apply Keep.app|apply Ext.cons);done))⟩)⟩
      · (((apply R.buildSlice;(iterate 12 exact rfl);intro)));rename_i b1;apply R.nil;refine ⟨(by (focus (repeat' first|exact trivial|exact At.head|apply At.tail|apply At.right|refine ⟨?_,?_⟩))),A.cast (by kernel_rfl) (H0_0123 _ _ ⟨ov,b0,b1,b2,b3,hov,⟨rfl,rfl,rfl,rfl,rfl,rfl,rfl,rfl,rfl,trivial⟩,(by (focus (repeat' first|exact Keep.nil _|exact Ext.one _ _|exact Ext.here _ _|apply Keep.cons|apply Keep.app|apply Ext.cons);done))⟩)⟩
    intro H0_023
    refine A.merge (fun σ L=>∃ (ov:Ov) (b1:Nat) (b2:Nat) (b3:Nat),OvOk 1 ov B0.length (u8s B0)∧Sub [(5,.pointer (some ⟨bw,0,none⟩)),(12,.int .i64 c.id),(16,.int .i64 c.roles),(20,.int .i64 c.exp),(24,.int .i64 c.ser),(17,.slice (some ⟨b1,0,none⟩) 1 1),(21,.slice (some ⟨b2,0,none⟩) 1 1),(25,.slice (some ⟨b3,0,none⟩) 1 1)] σ∧Keep L (WL bw ov B0++[(bc,.cells ⟨[.int .i64 c.id,.int .i64 c.roles,.int .i64 c.exp,.int .i64 c.ser]⟩ 97 (0,0)),(b1,.cells ⟨[.int .i64 c.roles]⟩ 3 (0,0)),(b2,.cells ⟨[.int .i64 c.exp]⟩ 3 (0,0)),(b3,.cells ⟨[.int .i64 c.ser]⟩ 3 (0,0))])) 10 #[true,true,false,false,true,true,true,false,true,true,true,false,true,true,true,false,false,false,false,false,false] ?_ ?_
    · rintro σ L ⟨ov,b1,b2,b3,hov,hs,hk⟩
      refine A.weak ?_ hs hk
      refine A.multi [2] (by kernel_rfl) (by decide) ⟨⟨_,rfl,?_⟩,trivial⟩
      · (((apply R.buildSlice;(iterate 12 exact rfl);intro)));rename_i b0;apply R.nil;refine ⟨(by (focus (repeat' first|exact trivial|exact At.head|apply At.tail|apply At.right|refine ⟨?_,?_⟩))),A.cast (by kernel_rfl) (H0_0123 _ _ ⟨ov,b0,b1,b2,b3,hov,⟨rfl,rfl,rfl,rfl,rfl,rfl,rfl,rfl,rfl,trivial⟩,(by (focus (repeat' first|exact Keep.nil _|exact Ext.one _ _|exact Ext.here _ _|apply Keep.cons|apply Keep.app|apply Ext.cons);done))⟩)⟩
    intro H0_123
    refine A.merge (fun σ L=>∃ (ov:Ov) (b0:Nat) (b1:Nat),OvOk 1 ov B0.length (u8s B0)∧Sub [(5,.pointer (some ⟨bw,0,none⟩)),(12,.int .i64 c.id),(16,.int .i64 c.roles),(20,.int .i64 c.exp),(24,.int .i64 c.ser),(13,.slice (some ⟨b0,0,none⟩) 1 1),(17,.slice (some ⟨b1,0,none⟩) 1 1)] σ∧Keep L (WL bw ov B0++[(bc,.cells ⟨[.int .i64 c.id,.int .i64 c.roles,.int .i64 c.exp,.int .i64 c.ser]⟩ 97 (0,0)),(b0,.cells ⟨[.int .i64 c.id]⟩ 3 (0,0)),(b1,.cells ⟨[.int .i64 c.roles]⟩ 3 (0,0))])) 11 #[true,true,true,false,true,true,true,false,true,true,false,false,true,true,false,false,false,false,false,false,false] ?_ ?_
    · rintro σ L ⟨ov,b0,b1,hov,hs,hk⟩
      refine A.weak ?_ hs hk
      refine A.multi [3,10,14] (by kernel_rfl) (by decide) ⟨⟨_,rfl,?_⟩,⟨_,rfl,?_⟩,⟨_,rfl,?_⟩,trivial⟩
      · (apply R.callE (Li:=WL bw ov B0);(iterate 3 exact rfl);(focus ((repeat' (exact Ext.here _ _));done));intro w1 hw1;have h9:=number1_ok bw ov B0 hov 1 c.id hf1 hl0 b0 _ _ w1 (hw1.get _ _ (At.mem (by (focus (repeat' first|exact At.head|apply At.tail|apply At.right);done)))) (RdSl.off hw1 (by (focus ((repeat' (exact Ext.here _ _));done))) (At.mem (by (focus (repeat' first|exact At.head|apply At.tail);done))));rw [← hB1] at h9;exact h9;rintro v Lo ⟨ov1,rfl,hov1,rfl⟩);apply R.nil;refine ⟨(by (focus (repeat' first|exact trivial|exact At.head|apply At.tail|apply At.right|refine ⟨?_,?_⟩))),A.cast (by kernel_rfl) (H1_1 _ _ ⟨ov1,b1,hov1,⟨rfl,rfl,rfl,rfl,rfl,rfl,rfl,trivial⟩,(by (focus (repeat' first|exact Keep.nil _|exact Ext.one _ _|exact Ext.here _ _|apply Keep.cons|apply Keep.app|apply Ext.cons);done))⟩)⟩
      · (((apply R.buildSlice;(iterate 12 exact rfl);intro)));rename_i b2;apply R.nil;refine ⟨(by (focus (repeat' first|exact trivial|exact At.head|apply At.tail|apply At.right|refine ⟨?_,?_⟩))),A.cast (by kernel_rfl) (H0_012 _ _ ⟨ov,b0,b1,b2,hov,⟨rfl,rfl,rfl,rfl,rfl,rfl,rfl,rfl,trivial⟩,(by (focus (repeat' first|exact Keep.nil _|exact Ext.one _ _|exact Ext.here _ _|apply Keep.cons|apply Keep.app|apply Ext.cons);done))⟩)⟩
      · (((apply R.buildSlice;(iterate 12 exact rfl);intro)));rename_i b3;apply R.nil;refine ⟨(by (focus (repeat' first|exact trivial|exact At.head|apply At.tail|apply At.right|refine ⟨?_,?_⟩))),A.cast (by kernel_rfl) (H0_013 _ _ ⟨ov,b0,b1,b3,hov,⟨rfl,rfl,rfl,rfl,rfl,rfl,rfl,rfl,trivial⟩,(by (focus (repeat' first|exact Keep.nil _|exact Ext.one _ _|exact Ext.here _ _|apply Keep.cons|apply Keep.app|apply Ext.cons);done))⟩)⟩
    intro H0_01
    refine A.merge (fun σ L=>∃ (ov:Ov) (b0:Nat) (b2:Nat),OvOk 1 ov B0.length (u8s B0)∧Sub [(5,.pointer (some ⟨bw,0,none⟩)),(12,.int .i64 c.id),(16,.int .i64 c.roles),(20,.int .i64 c.exp),(24,.int .i64 c.ser),(13,.slice (some ⟨b0,0,none⟩) 1 1),(21,.slice (some ⟨b2,0,none⟩) 1 1)] σ∧Keep L (WL bw ov B0++[(bc,.cells ⟨[.int .i64 c.id,.int .i64 c.roles,.int .i64 c.exp,.int .i64 c.ser]⟩ 97 (0,0)),(b0,.cells ⟨[.int .i64 c.id]⟩ 3 (0,0)),(b2,.cells ⟨[.int .i64 c.exp]⟩ 3 (0,0))])) 11 #[true,true,true,false,true,true,false,false,true,true,true,false,true,true,false,false,false,false,false,false,false] ?_ ?_
    · rintro σ L ⟨ov,b0,b2,hov,hs,hk⟩
      refine A.weak ?_ hs hk
      refine A.multi [3,6,14] (by kernel_rfl) (by decide) ⟨⟨_,rfl,?_⟩,⟨_,rfl,?_⟩,⟨_,rfl,?_⟩,trivial⟩
      · (apply R.callE (Li:=WL bw ov B0);(iterate 3 exact rfl);(focus ((repeat' (exact Ext.here _ _));done));intro w1 hw1;have h9:=number1_ok bw ov B0 hov 1 c.id hf1 hl0 b0 _ _ w1 (hw1.get _ _ (At.mem (by (focus (repeat' first|exact At.head|apply At.tail|apply At.right);done)))) (RdSl.off hw1 (by (focus ((repeat' (exact Ext.here _ _));done))) (At.mem (by (focus (repeat' first|exact At.head|apply At.tail);done))));rw [← hB1] at h9;exact h9;rintro v Lo ⟨ov1,rfl,hov1,rfl⟩);apply R.nil;refine ⟨(by (focus (repeat' first|exact trivial|exact At.head|apply At.tail|apply At.right|refine ⟨?_,?_⟩))),A.cast (by kernel_rfl) (H1_2 _ _ ⟨ov1,b2,hov1,⟨rfl,rfl,rfl,rfl,rfl,rfl,rfl,trivial⟩,(by (focus (repeat' first|exact Keep.nil _|exact Ext.one _ _|exact Ext.here _ _|apply Keep.cons|apply Keep.app|apply Ext.cons);done))⟩)⟩
      · (((apply R.buildSlice;(iterate 12 exact rfl);intro)));rename_i b1;apply R.nil;refine ⟨(by (focus (repeat' first|exact trivial|exact At.head|apply At.tail|apply At.right|refine ⟨?_,?_⟩))),A.cast (by kernel_rfl) (H0_012 _ _ ⟨ov,b0,b1,b2,hov,⟨rfl,rfl,rfl,rfl,rfl,rfl,rfl,rfl,trivial⟩,(by (focus (repeat' first|exact Keep.nil _|exact Ext.one _ _|exact Ext.here _ _|apply Keep.cons|apply Keep.app|apply Ext.cons);done))⟩)⟩
      · (((apply R.buildSlice;(iterate 12 exact rfl);intro)));rename_i b3;apply R.nil;refine ⟨(by (focus (repeat' first|exact trivial|exact At.head|apply At.tail|apply At.right|refine ⟨?_,?_⟩))),A.cast (by kernel_rfl) (H0_023 _ _ ⟨ov,b0,b2,b3,hov,⟨rfl,rfl,rfl,rfl,rfl,rfl,rfl,rfl,trivial⟩,(by (focus (repeat' first|exact Keep.nil _|exact Ext.one _ _|exact Ext.here _ _|apply Keep.cons|apply Keep.app|apply Ext.cons);done))⟩)⟩
    intro H0_02
    refine A.merge (fun σ L=>∃ (ov:Ov) (b0:Nat) (b3:Nat),OvOk 1 ov B0.length (u8s B0)∧Sub [(5,.pointer (some ⟨bw,0,none⟩)),(12,.int .i64 c.id),(16,.int .i64 c.roles),(20,.int .i64 c.exp),(24,.int .i64 c.ser),(13,.slice (some ⟨b0,0,none⟩) 1 1),(25,.slice (some ⟨b3,0,none⟩) 1 1)] σ∧Keep L (WL bw ov B0++[(bc,.cells ⟨[.int .i64 c.id,.int .i64 c.roles,.int .i64 c.exp,.int .i64 c.ser]⟩ 97 (0,0)),(b0,.cells ⟨[.int .i64 c.id]⟩ 3 (0,0)),(b3,.cells ⟨[.int .i64 c.ser]⟩ 3 (0,0))])) 11 #[true,true,true,false,true,true,false,false,true,true,false,false,true,true,true,false,false,false,false,false,false] ?_ ?_
    · rintro σ L ⟨ov,b0,b3,hov,hs,hk⟩
      refine A.weak ?_ hs hk
      refine A.multi [3,6,10] (by kernel_rfl) (by decide) ⟨⟨_,rfl,?_⟩,⟨_,rfl,?_⟩,⟨_,rfl,?_⟩,trivial⟩
      · (apply R.callE (Li:=WL bw ov B0);(iterate 3 exact rfl);(focus ((repeat' (exact Ext.here _ _));done));intro w1 hw1;have h9:=number1_ok bw ov B0 hov 1 c.id hf1 hl0 b0 _ _ w1 (hw1.get _ _ (At.mem (by (focus (repeat' first|exact At.head|apply At.tail|apply At.right);done)))) (RdSl.off hw1 (by (focus ((repeat' (exact Ext.here _ _));done))) (At.mem (by (focus (repeat' first|exact At.head|apply At.tail);done))));rw [← hB1] at h9;exact h9;rintro v Lo ⟨ov1,rfl,hov1,rfl⟩);apply R.nil;refine ⟨(by (focus (repeat' first|exact trivial|exact At.head|apply At.tail|apply At.right|refine ⟨?_,?_⟩))),A.cast (by kernel_rfl) (H1_3 _ _ ⟨ov1,b3,hov1,⟨rfl,rfl,rfl,rfl,rfl,rfl,rfl,trivial⟩,(by (focus (repeat' first|exact Keep.nil _|exact Ext.one _ _|exact Ext.here _ _|apply Keep.cons|apply Keep.app|apply Ext.cons);done))⟩)⟩
      · (((apply R.buildSlice;(iterate 12 exact rfl);intro)));rename_i b1;apply R.nil;refine ⟨(by (focus (repeat' first|exact trivial|exact At.head|apply At.tail|apply At.right|refine ⟨?_,?_⟩))),A.cast (by kernel_rfl) (H0_013 _ _ ⟨ov,b0,b1,b3,hov,⟨rfl,rfl,rfl,rfl,rfl,rfl,rfl,rfl,trivial⟩,(by (focus (repeat' first|exact Keep.nil _|exact Ext.one _ _|exact Ext.here _ _|apply Keep.cons|apply Keep.app|apply Ext.cons);done))⟩)⟩
      · (((apply R.buildSlice;(iterate 12 exact rfl);intro)));rename_i b2;apply R.nil;refine ⟨(by (focus (repeat' first|exact trivial|exact At.head|apply At.tail|apply At.right|refine ⟨?_,?_⟩))),A.cast (by kernel_rfl) (H0_023 _ _ ⟨ov,b0,b2,b3,hov,⟨rfl,rfl,rfl,rfl,rfl,rfl,rfl,rfl,trivial⟩,(by (focus (repeat' first|exact Keep.nil _|exact Ext.one _ _|exact Ext.here _ _|apply Keep.cons|apply Keep.app|apply Ext.cons);done))⟩)⟩
    intro H0_03
    refine A.merge (fun σ L=>∃ (ov:Ov) (b1:Nat) (b2:Nat),OvOk 1 ov B0.length (u8s B0)∧Sub [(5,.pointer (some ⟨bw,0,none⟩)),(12,.int .i64 c.id),(16,.int .i64 c.roles),(20,.int .i64 c.exp),(24,.int .i64 c.ser),(17,.slice (some ⟨b1,0,none⟩) 1 1),(21,.slice (some ⟨b2,0,none⟩) 1 1)] σ∧Keep L (WL bw ov B0++[(bc,.cells ⟨[.int .i64 c.id,.int .i64 c.roles,.int .i64 c.exp,.int .i64 c.ser]⟩ 97 (0,0)),(b1,.cells ⟨[.int .i64 c.roles]⟩ 3 (0,0)),(b2,.cells ⟨[.int .i64 c.exp]⟩ 3 (0,0))])) 11 #[true,true,false,false,true,true,true,false,true,true,true,false,true,true,false,false,false,false,false,false,false] ?_ ?_
    · rintro σ L ⟨ov,b1,b2,hov,hs,hk⟩
      refine A.weak ?_ hs hk
      refine A.multi [2,14] (by kernel_rfl) (by decide) ⟨⟨_,rfl,?_⟩,⟨_,rfl,?_⟩,trivial⟩
      · (((apply R.buildSlice;(iterate 12 exact rfl);intro)));rename_i b0;apply R.nil;refine ⟨(by (focus (repeat' first|exact trivial|exact At.head|apply At.tail|apply At.right|refine ⟨?_,?_⟩))),A.cast (by kernel_rfl) (H0_012 _ _ ⟨ov,b0,b1,b2,hov,⟨rfl,rfl,rfl,rfl,rfl,rfl,rfl,rfl,trivial⟩,(by (focus (repeat' first|exact Keep.nil _|exact Ext.one _ _|exact Ext.here _ _|apply Keep.cons|apply Keep.app|apply Ext.cons);done))⟩)⟩
      · (((apply R.buildSlice;(iterate 12 exact rfl);intro)));rename_i b3;apply R.nil;refine ⟨(by (focus (repeat' first|exact trivial|exact At.head|apply At.tail|apply At.right|refine ⟨?_,?_⟩))),A.cast (by kernel_rfl) (H0_123 _ _ ⟨ov,b1,b2,b3,hov,⟨rfl,rfl,rfl,rfl,rfl,rfl,rfl,rfl,trivial⟩,(by (focus (repeat' first|exact Keep.nil _|exact Ext.one _ _|exact Ext.here _ _|apply Keep.cons|apply Keep.app|apply Ext.cons);done))⟩)⟩
    intro H0_12
    refine A.merge (fun σ L=>∃ (ov:Ov) (b1:Nat) (b3:Nat),OvOk 1 ov B0.length (u8s B0)∧Sub [(5,.pointer (some ⟨bw,0,none⟩)),(12,.int .i64 c.id),(16,.int .i64 c.roles),(20,.int .i64 c.exp),(24,.int .i64 c.ser),(17,.slice (some ⟨b1,0,none⟩) 1 1),(25,.slice (some ⟨b3,0,none⟩) 1 1)] σ∧Keep L (WL bw ov B0++[(bc,.cells ⟨[.int .i64 c.id,.int .i64 c.roles,.int .i64 c.exp,.int .i64 c.ser]⟩ 97 (0,0)),(b1,.cells ⟨[.int .i64 c.roles]⟩ 3 (0,0)),(b3,.cells ⟨[.int .i64 c.ser]⟩ 3 (0,0))])) 11 #[true,true,false,false,true,true,true,false,true,true,false,false,true,true,true,false,false,false,false,false,false] ?_ ?_
    · rintro σ L ⟨ov,b1,b3,hov,hs,hk⟩
      refine A.weak ?_ hs hk
      refine A.multi [2,10] (by kernel_rfl) (by decide) ⟨⟨_,rfl,?_⟩,⟨_,rfl,?_⟩,trivial⟩
      · (((apply R.buildSlice;(iterate 12 exact rfl);intro)));rename_i b0;apply R.nil;refine ⟨(by (focus (repeat' first|exact trivial|exact At.head|apply At.tail|apply At.right|refine ⟨?_,?_⟩))),A.cast (by kernel_rfl) (H0_013 _ _ ⟨ov,b0,b1,b3,hov,⟨rfl,rfl,rfl,rfl,rfl,rfl,rfl,rfl,trivial⟩,(by (focus (repeat' first|exact Keep.nil _|exact Ext.one _ _|exact Ext.here _ _|apply Keep.cons|apply Keep.app|apply Ext.cons);done))⟩)⟩
      · (((apply R.buildSlice;(iterate 12 exact rfl);intro)));rename_i b2;apply R.nil;refine ⟨(by (focus (repeat' first|exact trivial|exact At.head|apply At.tail|apply At.right|refine ⟨?_,?_⟩))),A.cast (by kernel_rfl) (H0_123 _ _ ⟨ov,b1,b2,b3,hov,⟨rfl,rfl,rfl,rfl,rfl,rfl,rfl,rfl,trivial⟩,(by (focus (repeat' first|exact Keep.nil _|exact Ext.one _ _|exact Ext.here _ _|apply Keep.cons|apply Keep.app|apply Ext.cons);done))⟩)⟩
    intro H0_13
    refine A.merge (fun σ L=>∃ (ov:Ov) (b2:Nat) (b3:Nat),OvOk 1 ov B0.length (u8s B0)∧Sub [(5,.pointer (some ⟨bw,0,none⟩)),(12,.int .i64 c.id),(16,.int .i64 c.roles),(20,.int .i64 c.exp),(24,.int .i64 c.ser),(21,.slice (some ⟨b2,0,none⟩) 1 1),(25,.slice (some ⟨b3,0,none⟩) 1 1)] σ∧Keep L (WL bw ov B0++[(bc,.cells ⟨[.int .i64 c.id,.int .i64 c.roles,.int .i64 c.exp,.int .i64 c.ser]⟩ 97 (0,0)),(b2,.cells ⟨[.int .i64 c.exp]⟩ 3 (0,0)),(b3,.cells ⟨[.int .i64 c.ser]⟩ 3 (0,0))])) 11 #[true,true,false,false,true,true,false,false,true,true,true,false,true,true,true,false,false,false,false,false,false] ?_ ?_
    · rintro σ L ⟨ov,b2,b3,hov,hs,hk⟩
      refine A.weak ?_ hs hk
      refine A.multi [2,6] (by kernel_rfl) (by decide) ⟨⟨_,rfl,?_⟩,⟨_,rfl,?_⟩,trivial⟩
      · (((apply R.buildSlice;(iterate 12 exact rfl);intro)));rename_i b0;apply R.nil;refine ⟨(by (focus (repeat' first|exact trivial|exact At.head|apply At.tail|apply At.right|refine ⟨?_,?_⟩))),A.cast (by kernel_rfl) (H0_023 _ _ ⟨ov,b0,b2,b3,hov,⟨rfl,rfl,rfl,rfl,rfl,rfl,rfl,rfl,trivial⟩,(by (focus (repeat' first|exact Keep.nil _|exact Ext.one _ _|exact Ext.here _ _|apply Keep.cons|apply Keep.app|apply Ext.cons);done))⟩)⟩
      · (((apply R.buildSlice;(iterate 12 exact rfl);intro)));rename_i b1;apply R.nil;refine ⟨(by (focus (repeat' first|exact trivial|exact At.head|apply At.tail|apply At.right|refine ⟨?_,?_⟩))),A.cast (by kernel_rfl) (H0_123 _ _ ⟨ov,b1,b2,b3,hov,⟨rfl,rfl,rfl,rfl,rfl,rfl,rfl,rfl,trivial⟩,(by (focus (repeat' first|exact Keep.nil _|exact Ext.one _ _|exact Ext.here _ _|apply Keep.cons|apply Keep.app|apply Ext.cons);done))⟩)⟩
    intro H0_23
    refine A.merge (fun σ L=>∃ (ov:Ov) (b0:Nat),OvOk 1 ov B0.length (u8s B0)∧Sub [(5,.pointer (some ⟨bw,0,none⟩)),(12,.int .i64 c.id),(16,.int .i64 c.roles),(20,.int .i64 c.exp),(24,.int .i64 c.ser),(13,.slice (some ⟨b0,0,none⟩) 1 1)] σ∧Keep L (WL bw ov B0++[(bc,.cells ⟨[.int .i64 c.id,.int .i64 c.roles,.int .i64 c.exp,.int .i64 c.ser]⟩ 97 (0,0)),(b0,.cells ⟨[.int .i64 c.id]⟩ 3 (0,0))])) 12 #[true,true,true,false,true,true,false,false,true,true,false,false,true,true,false,false,false,false,false,false,false] ?_ ?_
    · rintro σ L ⟨ov,b0,hov,hs,hk⟩
      refine A.weak ?_ hs hk
      refine A.multi [3,6,10,14] (by kernel_rfl) (by decide) ⟨⟨_,rfl,?_⟩,⟨_,rfl,?_⟩,⟨_,rfl,?_⟩,⟨_,rfl,?_⟩,trivial⟩
      · (apply R.callE (Li:=WL bw ov B0);(iterate 3 exact rfl);(focus ((repeat' (exact Ext.here _ _));done));intro w1 hw1;have h9:=number1_ok bw ov B0 hov 1 c.id hf1 hl0 b0 _ _ w1 (hw1.get _ _ (At.mem (by (focus (repeat' first|exact At.head|apply At.tail|apply At.right);done)))) (RdSl.off hw1 (by (focus ((repeat' (exact Ext.here _ _));done))) (At.mem (by (focus (repeat' first|exact At.head|apply At.tail);done))));rw [← hB1] at h9;exact h9;rintro v Lo ⟨ov1,rfl,hov1,rfl⟩);apply R.nil;refine ⟨(by (focus (repeat' first|exact trivial|exact At.head|apply At.tail|apply At.right|refine ⟨?_,?_⟩))),A.cast (by kernel_rfl) (H1_ _ _ ⟨ov1,hov1,⟨rfl,rfl,rfl,rfl,rfl,rfl,trivial⟩,(by (focus (repeat' first|exact Keep.nil _|exact Ext.one _ _|exact Ext.here _ _|apply Keep.cons|apply Keep.app);done))⟩)⟩
      · (((apply R.buildSlice;(iterate 12 exact rfl);intro)));rename_i b1;apply R.nil;refine ⟨(by (focus (repeat' first|exact trivial|exact At.head|apply At.tail|apply At.right|refine ⟨?_,?_⟩))),A.cast (by kernel_rfl) (H0_01 _ _ ⟨ov,b0,b1,hov,⟨rfl,rfl,rfl,rfl,rfl,rfl,rfl,trivial⟩,(by (focus (repeat' first|exact Keep.nil _|exact Ext.one _ _|exact Ext.here _ _|apply Keep.cons|apply Keep.app|apply Ext.cons);done))⟩)⟩
      · (((apply R.buildSlice;(iterate 12 exact rfl);intro)));rename_i b2;apply R.nil;refine ⟨(by (focus (repeat' first|exact trivial|exact At.head|apply At.tail|apply At.right|refine ⟨?_,?_⟩))),A.cast (by kernel_rfl) (H0_02 _ _ ⟨ov,b0,b2,hov,⟨rfl,rfl,rfl,rfl,rfl,rfl,rfl,trivial⟩,(by (focus (repeat' first|exact Keep.nil _|exact Ext.one _ _|exact Ext.here _ _|apply Keep.cons|apply Keep.app|apply Ext.cons);done))⟩)⟩
      · (((apply R.buildSlice;(iterate 12 exact rfl);intro)));rename_i b3;apply R.nil;refine ⟨(by (focus (repeat' first|exact trivial|exact At.head|apply At.tail|apply At.right|refine ⟨?_,?_⟩))),A.cast (by kernel_rfl) (H0_03 _ _ ⟨ov,b0,b3,hov,⟨rfl,rfl,rfl,rfl,rfl,rfl,rfl,trivial⟩,(by (focus (repeat' first|exact Keep.nil _|exact Ext.one _ _|exact Ext.here _ _|apply Keep.cons|apply Keep.app|apply Ext.cons);done))⟩)⟩
    intro H0_0
    refine A.merge (fun σ L=>∃ (ov:Ov) (b1:Nat),OvOk 1 ov B0.length (u8s B0)∧Sub [(5,.pointer (some ⟨bw,0,none⟩)),(12,.int .i64 c.id),(16,.int .i64 c.roles),(20,.int .i64 c.exp),(24,.int .i64 c.ser),(17,.slice (some ⟨b1,0,none⟩) 1 1)] σ∧Keep L (WL bw ov B0++[(bc,.cells ⟨[.int .i64 c.id,.int .i64 c.roles,.int .i64 c.exp,.int .i64 c.ser]⟩ 97 (0,0)),(b1,.cells ⟨[.int .i64 c.roles]⟩ 3 (0,0))])) 12 #[true,true,false,false,true,true,true,false,true,true,false,false,true,true,false,false,false,false,false,false,false] ?_ ?_
    · rintro σ L ⟨ov,b1,hov,hs,hk⟩
      refine A.weak ?_ hs hk
      refine A.multi [2,10,14] (by kernel_rfl) (by decide) ⟨⟨_,rfl,?_⟩,⟨_,rfl,?_⟩,⟨_,rfl,?_⟩,trivial⟩
      · (((apply R.buildSlice;(iterate 12 exact rfl);intro)));rename_i b0;apply R.nil;refine ⟨(by (focus (repeat' first|exact trivial|exact At.head|apply At.tail|apply At.right|refine ⟨?_,?_⟩))),A.cast (by kernel_rfl) (H0_01 _ _ ⟨ov,b0,b1,hov,⟨rfl,rfl,rfl,rfl,rfl,rfl,rfl,trivial⟩,(by (focus (repeat' first|exact Keep.nil _|exact Ext.one _ _|exact Ext.here _ _|apply Keep.cons|apply Keep.app|apply Ext.cons);done))⟩)⟩
      · (((apply R.buildSlice;(iterate 12 exact rfl);intro)));rename_i b2;apply R.nil;refine ⟨(by (focus (repeat' first|exact trivial|exact At.head|apply At.tail|apply At.right|refine ⟨?_,?_⟩))),A.cast (by kernel_rfl) (H0_12 _ _ ⟨ov,b1,b2,hov,⟨rfl,rfl,rfl,rfl,rfl,rfl,rfl,trivial⟩,(by (focus (repeat' first|exact Keep.nil _|exact Ext.one _ _|exact Ext.here _ _|apply Keep.cons|apply Keep.app|apply Ext.cons);done))⟩)⟩
      · (((apply R.buildSlice;(iterate 12 exact rfl);intro)));rename_i b3;apply R.nil;refine ⟨(by (focus (repeat' first|exact trivial|exact At.head|apply At.tail|apply At.right|refine ⟨?_,?_⟩))),A.cast (by kernel_rfl) (H0_13 _ _ ⟨ov,b1,b3,hov,⟨rfl,rfl,rfl,rfl,rfl,rfl,rfl,trivial⟩,(by (focus (repeat' first|exact Keep.nil _|exact Ext.one _ _|exact Ext.here _ _|apply Keep.cons|apply Keep.app|apply Ext.cons);done))⟩)⟩
    intro H0_1
    refine A.merge (fun σ L=>∃ (ov:Ov) (b2:Nat),OvOk 1 ov B0.length (u8s B0)∧Sub [(5,.pointer (some ⟨bw,0,none⟩)),(12,.int .i64 c.id),(16,.int .i64 c.roles),(20,.int .i64 c.exp),(24,.int .i64 c.ser),(21,.slice (some ⟨b2,0,none⟩) 1 1)] σ∧Keep L (WL bw ov B0++[(bc,.cells ⟨[.int .i64 c.id,.int .i64 c.roles,.int .i64 c.exp,.int .i64 c.ser]⟩ 97 (0,0)),(b2,.cells ⟨[.int .i64 c.exp]⟩ 3 (0,0))])) 12 #[true,true,false,false,true,true,false,false,true,true,true,false,true,true,false,false,false,false,false,false,false] ?_ ?_
    · rintro σ L ⟨ov,b2,hov,hs,hk⟩
      refine A.weak ?_ hs hk
      refine A.multi [2,6,14] (by kernel_rfl) (by decide) ⟨⟨_,rfl,?_⟩,⟨_,rfl,?_⟩,⟨_,rfl,?_⟩,trivial⟩
      · (((apply R.buildSlice;(iterate 12 exact rfl);intro)));rename_i b0;apply R.nil;refine ⟨(by (focus (repeat' first|exact trivial|exact At.head|apply At.tail|apply At.right|refine ⟨?_,?_⟩))),A.cast (by kernel_rfl) (H0_02 _ _ ⟨ov,b0,b2,hov,⟨rfl,rfl,rfl,rfl,rfl,rfl,rfl,trivial⟩,(by (focus (repeat' first|exact Keep.nil _|exact Ext.one _ _|exact Ext.here _ _|apply Keep.cons|apply Keep.app|apply Ext.cons);done))⟩)⟩
      · (((apply R.buildSlice;(iterate 12 exact rfl);intro)));rename_i b1;apply R.nil;refine ⟨(by (focus (repeat' first|exact trivial|exact At.head|apply At.tail|apply At.right|refine ⟨?_,?_⟩))),A.cast (by kernel_rfl) (H0_12 _ _ ⟨ov,b1,b2,hov,⟨rfl,rfl,rfl,rfl,rfl,rfl,rfl,trivial⟩,(by (focus (repeat' first|exact Keep.nil _|exact Ext.one _ _|exact Ext.here _ _|apply Keep.cons|apply Keep.app|apply Ext.cons);done))⟩)⟩
      · (((apply R.buildSlice;(iterate 12 exact rfl);intro)));rename_i b3;apply R.nil;refine ⟨(by (focus (repeat' first|exact trivial|exact At.head|apply At.tail|apply At.right|refine ⟨?_,?_⟩))),A.cast (by kernel_rfl) (H0_23 _ _ ⟨ov,b2,b3,hov,⟨rfl,rfl,rfl,rfl,rfl,rfl,rfl,trivial⟩,(by (focus (repeat' first|exact Keep.nil _|exact Ext.one _ _|exact Ext.here _ _|apply Keep.cons|apply Keep.app|apply Ext.cons);done))⟩)⟩
    intro H0_2
    refine A.merge (fun σ L=>∃ (ov:Ov) (b3:Nat),OvOk 1 ov B0.length (u8s B0)∧Sub [(5,.pointer (some ⟨bw,0,none⟩)),(12,.int .i64 c.id),(16,.int .i64 c.roles),(20,.int .i64 c.exp),(24,.int .i64 c.ser),(25,.slice (some ⟨b3,0,none⟩) 1 1)] σ∧Keep L (WL bw ov B0++[(bc,.cells ⟨[.int .i64 c.id,.int .i64 c.roles,.int .i64 c.exp,.int .i64 c.ser]⟩ 97 (0,0)),(b3,.cells ⟨[.int .i64 c.ser]⟩ 3 (0,0))])) 12 #[true,true,false,false,true,true,false,false,true,true,false,false,true,true,true,false,false,false,false,false,false] ?_ ?_
    · rintro σ L ⟨ov,b3,hov,hs,hk⟩
      refine A.weak ?_ hs hk
      refine A.multi [2,6,10] (by kernel_rfl) (by decide) ⟨⟨_,rfl,?_⟩,⟨_,rfl,?_⟩,⟨_,rfl,?_⟩,trivial⟩
      · (((apply R.buildSlice;(iterate 12 exact rfl);intro)));rename_i b0;apply R.nil;refine ⟨(by (focus (repeat' first|exact trivial|exact At.head|apply At.tail|apply At.right|refine ⟨?_,?_⟩))),A.cast (by kernel_rfl) (H0_03 _ _ ⟨ov,b0,b3,hov,⟨rfl,rfl,rfl,rfl,rfl,rfl,rfl,trivial⟩,(by (focus (repeat' first|exact Keep.nil _|exact Ext.one _ _|exact Ext.here _ _|apply Keep.cons|apply Keep.app|apply Ext.cons);done))⟩)⟩
      · (((apply R.buildSlice;(iterate 12 exact rfl);intro)));rename_i b1;apply R.nil;refine ⟨(by (focus (repeat' first|exact trivial|exact At.head|apply At.tail|apply At.right|refine ⟨?_,?_⟩))),A.cast (by kernel_rfl) (H0_13 _ _ ⟨ov,b1,b3,hov,⟨rfl,rfl,rfl,rfl,rfl,rfl,rfl,trivial⟩,(by (focus (repeat' first|exact Keep.nil _|exact Ext.one _ _|exact Ext.here _ _|apply Keep.cons|apply Keep.app|apply Ext.cons);done))⟩)⟩
      · (((apply R.buildSlice;(iterate 12 exact rfl);intro)));rename_i b2;apply R.nil;refine ⟨(by (focus (repeat' first|exact trivial|exact At.head|apply At.tail|apply At.right|refine ⟨?_,?_⟩))),A.cast (by kernel_rfl) (H0_23 _ _ ⟨ov,b2,b3,hov,⟨rfl,rfl,rfl,rfl,rfl,rfl,rfl,trivial⟩,(by (focus (repeat' first|exact Keep.nil _|exact Ext.one _ _|exact Ext.here _ _|apply Keep.cons|apply Keep.app|apply Ext.cons);done))⟩)⟩
    intro H0_3
    refine A.merge (fun σ L=>∃ (ov:Ov),OvOk 1 ov B0.length (u8s B0)∧Sub [(5,.pointer (some ⟨bw,0,none⟩)),(12,.int .i64 c.id),(16,.int .i64 c.roles),(20,.int .i64 c.exp),(24,.int .i64 c.ser)] σ∧Keep L (WL bw ov B0++[(bc,.cells ⟨[.int .i64 c.id,.int .i64 c.roles,.int .i64 c.exp,.int .i64 c.ser]⟩ 97 (0,0))])) 13 #[true,true,false,false,true,true,false,false,true,true,false,false,true,true,false,false,false,false,false,false,false] ?_ ?_
    · rintro σ L ⟨ov,hov,hs,hk⟩
      refine A.weak ?_ hs hk
      refine A.multi [2,6,10,14] (by kernel_rfl) (by decide) ⟨⟨_,rfl,?_⟩,⟨_,rfl,?_⟩,⟨_,rfl,?_⟩,⟨_,rfl,?_⟩,trivial⟩
      · (((apply R.buildSlice;(iterate 12 exact rfl);intro)));rename_i b0;apply R.nil;refine ⟨(by (focus (repeat' first|exact trivial|exact At.head|apply At.tail|apply At.right|refine ⟨?_,?_⟩))),A.cast (by kernel_rfl) (H0_0 _ _ ⟨ov,b0,hov,⟨rfl,rfl,rfl,rfl,rfl,rfl,trivial⟩,(by (focus (repeat' first|exact Keep.nil _|exact Ext.one _ _|exact Ext.here _ _|apply Keep.cons|apply Keep.app|apply Ext.cons);done))⟩)⟩
      · (((apply R.buildSlice;(iterate 12 exact rfl);intro)));rename_i b1;apply R.nil;refine ⟨(by (focus (repeat' first|exact trivial|exact At.head|apply At.tail|apply At.right|refine ⟨?_,?_⟩))),A.cast (by kernel_rfl) (H0_1 _ _ ⟨ov,b1,hov,⟨rfl,rfl,rfl,rfl,rfl,rfl,trivial⟩,(by (focus (repeat' first|exact Keep.nil _|exact Ext.one _ _|exact Ext.here _ _|apply Keep.cons|apply Keep.app|apply Ext.cons);done))⟩)⟩
      · (((apply R.buildSlice;(iterate 12 exact rfl);intro)));rename_i b2;apply R.nil;refine ⟨(by (focus (repeat' first|exact trivial|exact At.head|apply At.tail|apply At.right|refine ⟨?_,?_⟩))),A.cast (by kernel_rfl) (H0_2 _ _ ⟨ov,b2,hov,⟨rfl,rfl,rfl,rfl,rfl,rfl,trivial⟩,(by (focus (repeat' first|exact Keep.nil _|exact Ext.one _ _|exact Ext.here _ _|apply Keep.cons|apply Keep.app|apply Ext.cons);done))⟩)⟩
      · (((apply R.buildSlice;(iterate 12 exact rfl);intro)));rename_i b3;apply R.nil;refine ⟨(by (focus (repeat' first|exact trivial|exact At.head|apply At.tail|apply At.right|refine ⟨?_,?_⟩))),A.cast (by kernel_rfl) (H0_3 _ _ ⟨ov,b3,hov,⟨rfl,rfl,rfl,rfl,rfl,rfl,trivial⟩,(by (focus (repeat' first|exact Keep.nil _|exact Ext.one _ _|exact Ext.here _ _|apply Keep.cons|apply Keep.app|apply Ext.cons);done))⟩)⟩
    intro H0_
    exact A.cast (by kernel_rfl) (H0_ _ _ ⟨none,hw0,⟨rfl,rfl,rfl,rfl,rfl,trivial⟩,(by (focus (repeat' first|exact Keep.nil _|exact Ext.one _ _|apply Keep.cons);done))⟩)
  rintro σ L ⟨ov,hov,hs,hk⟩
  refine A.weak ?_ hs hk
  clear hs hk
  (apply A.one 16;kernel_rfl;exact rfl;(((simp only [WL,List.cons_append];apply R.callE;(iterate 3 exact rfl);exact Ext.none _;intro w1 hw1;exact wout_ok bw ov B4 hov (by rw [hB,clI_len];decide) w1 (hw1.get _ _ (At.mem (by exact At.head))) (rdown hov hw1 (Ext.mem (by (focus (repeat' first|exact Ext.here _ _|apply Ext.cons);done))));rintro v Lo ⟨ov9,hov9,rfl,rfl⟩)));apply R.nil;refine ⟨?_,?_⟩;(focus (repeat' first|exact trivial|exact At.head|apply At.tail|apply At.right|refine ⟨?_,?_⟩)))<;>(apply A.tk 17;exact rfl;kernel_rfl;(apply Ok1.extract;exact rfl;exact rfl))<;>(apply A.tk 18;exact rfl;kernel_rfl;(apply Ok1.extract;exact rfl;exact rfl))<;>(apply A.tk 19;exact rfl;kernel_rfl;(apply Ok1.assign;exact rfl))<;>(apply A.tk 20;exact rfl;kernel_rfl;(apply Ok1.assign;exact rfl))<;>(apply A.done;kernel_rfl)
  rw [hB,clI_len] at hov9
  repeat' ((apply T.is;apply T.ret))
  (apply RetOk.tt;exact rfl;exact rfl)
  refine ⟨_,?_,ov9,hov9,by rw [hB,clI_len],rfl⟩
  rw [hB]
  (focus (repeat' first|exact Ext.here _ _|apply Keep.last);done)
def iV (x:Int):List Value:=[.int .i64 x]
theorem iV_len (x:Int):(iV x).length=1:=rfl
def iis (xs:List Int):List Value:=xs.map fun x=>.int .i64 x
theorem iis_len (xs:List Int):(iis xs).length=xs.length:=by simp [iis]
theorem iis_one (xs:List Int):(iis xs).all Value.oneCell'=true:=by simp [iis,Value.oneCell']
theorem iis_app (xs ys:List Int):iis (xs++ys)=iis xs++iis ys:=by simp [iis]
theorem fl_i (xs:List Int):fl iV xs=iis xs:=by
  unfold fl iis
  induction xs with
  | nil=>rfl
  | cons a l ih=>simp only [List.map_cons,List.flatten_cons,ih];rfl
theorem irdown {ov:Ov} {xs:List Int} {e:Nat} (hov:OvOk 1 ov xs.length (iis xs)) {w0 w:World} {S:List Nat} {L:Lst} (hw:Hp w0 S L w) (hin:∀ x∈blkL e ov (iis xs),x∈L):RdSl w (ovp ov) iV xs:=by
  rw [← fl_i] at hov hin
  exact RdSl.own' hw hin hov iV_len
/-- A log: nothing,or a slice of one's own. -/
structure Lg where
  ov:Ov
  xs:List Int
def Lg.v (g:Lg):Value:=slV g.ov g.xs.length
def Lg.L (g:Lg):Lst:=blkL 3 g.ov (iis g.xs)
def Lg.ok (g:Lg):Prop:=OvOk 1 g.ov g.xs.length (iis g.xs)
theorem Lg.rd {g:Lg} (h:g.ok) {w0 w:World} {S:List Nat} {L:Lst} (hw:Hp w0 S L w) (hin:∀ x∈g.L,x∈L):RdSl w (ovp g.ov) iV g.xs:=irdown h hw hin
/-- A part: a slice of integers. -/
structure Pi where
  p:Option Addr
  cap:Nat
  xs:List Int
deriving Inhabited
def Pi.v (x:Pi):List Value:=[.slice x.p x.xs.length x.cap]
theorem index_ok (p:Option Addr) (n cap:Nat) (xs:List Int) (hn:n=xs.length) (hbig:n≤1000000000) (y:Int) (w:World) (hp:RdSl w p iV xs) :
    CallW Tryz.prog 171 [.slice p n cap,.int .i64 y] w fun v _=>∃ r,v = .int .i64 r∧(0≤r ↔ y∈xs):=by
  subst hn
  refine enterW (tb:=tb) Tryz.func171 rfl Tryz.ntmps171 rfl ?_
  repeat' (first|(apply R.is1;first|(apply R.isCall;(apply R.pure;exact rfl;(apply Ok1.lenS;(iterate 3 exact rfl))))|(apply R.pure;exact rfl;first|(apply Ok1.move;exact rfl)|(apply Ok1.assign;exact rfl)))|apply R.nil|(apply T.is;first|apply T.seq|apply T.region|apply T.block))
  apply T.loopK (α:=Nat) (I:=fun i=>i≤xs.length∧∀ x∈xs.take i,x≠y) (σi:=fun i=>[(0,.slice p xs.length cap),(1,.int .i64 y),(7,.int .i64 xs.length),(8,.int .i64 i)]) (Li:=fun _=>[]) (μ:=fun i=>xs.length - i) (i0:=0)
  · exact ⟨Nat.zero_le _,by simp⟩
  · exact ⟨rfl,rfl,rfl,rfl,trivial⟩
  · (focus ((repeat' (exact Keep.nil _));done))
  · intro i ⟨hi,hall⟩
    rcases Nat.lt_or_ge i xs.length with hlt|hge
    · obtain ⟨x,hx⟩:∃ x,xs[i]? = some x:=⟨_,List.getElem?_eq_getElem (by omega)⟩
      obtain ⟨b,o,hpe,H⟩:=hp.at hx
      replace H:=H 1 iV_len
      by_cases hb:y=x
      · repeat' (first|(apply R.is1;first|(apply R.isBin;(apply R.pure;exact rfl;first|(apply Ok1.lss_t;exact rfl;exact rfl;omega)|(apply Ok1.eql_t;exact rfl;exact rfl;omega)))|(apply R.pure;exact rfl;first|(apply Ok1.indexAddrP;(iterate 4 exact rfl);exact hpe;exact rfl;omega;omega)|(apply Ok1.load;exact rfl;apply Ld.row0 H;exact rfl;exact List.not_mem_nil;(iterate 3 exact rfl))|(apply Ok1.move;exact rfl)|(apply Ok1.assign;exact rfl)))|apply R.nil|(apply T.is;first|apply T.seq|apply T.region|apply T.block|apply T.skip|apply T.ret|(apply T.cond_t;exact rfl)))
        (apply RetOk.t;exact rfl)
        exact ⟨_,rfl,⟨fun _=>hb ▸ List.mem_of_getElem? hx,fun _=>by omega⟩⟩
      · repeat' (first|(apply R.is1;first|(apply R.isBin;(apply R.pure;exact rfl;first|(apply Ok1.add64;exact rfl;exact rfl;omega;omega)|(apply Ok1.lss_t;exact rfl;exact rfl;omega)|(apply Ok1.eql_f;exact rfl;exact rfl;omega)))|(apply R.pure;exact rfl;first|(apply Ok1.indexAddrP;(iterate 4 exact rfl);exact hpe;exact rfl;omega;omega)|(apply Ok1.load;exact rfl;apply Ld.row0 H;exact rfl;exact List.not_mem_nil;(iterate 3 exact rfl))|(apply Ok1.move;exact rfl)|(apply Ok1.assign;exact rfl)))|apply R.nil|(apply T.is;first|apply T.seq|apply T.region|apply T.block|apply T.skip|(apply T.cond_t;exact rfl)|(apply T.cond_f;exact rfl)))
        refine ⟨i+1,⟨by omega,?_⟩,by omega,⟨rfl,rfl,rfl,rfl,trivial⟩,by (focus ((repeat' (exact Keep.nil _));done))⟩
        intro z hz
        rw [List.take_add_one,hx,List.mem_append] at hz
        rcases hz with hz|hz
        · exact hall z hz
        · simp only [Option.toList_some,List.mem_singleton] at hz
          rw [hz];exact fun e=>hb e.symm
    · have him:i=xs.length:=by omega
      subst him
      rw [List.take_length] at hall
      repeat' (first|(apply R.is1;first|(apply R.isBin;(apply R.pure;exact rfl;(apply Ok1.lss_f;exact rfl;exact rfl;omega)))|(apply R.pure;exact rfl;(apply Ok1.assign;exact rfl)))|apply R.nil|(apply T.is;first|apply T.seq|apply T.region|apply T.exit|apply T.ret|(apply T.cond_f;exact rfl)))
      (apply RetOk.t;exact rfl)
      exact ⟨_,rfl,⟨fun h=>absurd h (by decide),fun h=>absurd rfl (hall y h)⟩⟩
theorem contains_ok (p:Option Addr) (n cap:Nat) (xs:List Int) (hn:n=xs.length) (hbig:n≤1000000000) (y:Int) (w:World) (hp:RdSl w p iV xs) :
    CallW Tryz.prog 109 [.slice p n cap,.int .i64 y] w fun v _=>v = .bool (decide (y∈xs)):=by
  have h:=fun w1 (hc:Chg [] w w1)=>index_ok p n cap xs hn hbig y w1 (hp.chg' hc (fun _=>Off.nil _))
  refine enterW (tb:=tb) Tryz.func109 rfl Tryz.ntmps109 rfl ?_
  repeat' (first|(apply R.is1;first|(apply R.isBin;(apply R.geq rfl rfl rfl<;>intro))|(apply R.isCall;(apply R.callW (vs:=[.slice p n cap,.int .i64 y]);(iterate 3 exact rfl);intro w1 hw1;exact h w1 hw1.chg;rintro v ⟨r,rfl,hr⟩))|(apply R.pure;exact rfl;first|(apply Ok1.move;exact rfl)|(apply Ok1.assign;exact rfl)))|apply R.nil|(apply T.is;first|apply T.seq|apply T.region|apply T.ret))
  all_goals have hq:0≤r ↔ decide (y∈xs)=true:=hr.trans decide_eq_true_iff.symm
  all_goals (apply RetOk.t;exact rfl)
  all_goals cases hqq:decide (y∈xs) with
    | true=>first|rfl|(have:=hq.2 hqq;omega)
    | false=>first|rfl|(have h5:=hq.1 ‹0≤r›;rw [hqq] at h5;cases h5)
end Go.Proofs.YtolnagbahceebaaGreat
set_option linter.unusedSimpArgs false
set_option linter.unusedVariables false
namespace Go.Proofs.YtolnagbahceebaaGreat
open Go.Lib
def srt (l:List Int):List Int:=l.mergeSort fun x y=>decide (x≤y)
theorem srt_perm (l:List Int):(srt l).Perm l:=List.mergeSort_perm _ _
end Go.Proofs.YtolnagbahceebaaGreat
set_option linter.unusedSimpArgs false
set_option linter.unusedVariables false
namespace Go.Proofs.YtolnagbahceebaaGreat
open Go.RowKit Go.Shelf
set_option maxRecDepth 100000
theorem putRow_own {w:World} {b m:Nat} {d:List Int} {os:Array Obj} {old junk:List Value} {e:TypeId} {fz:Nat × Nat} (hb:w.heap[b]? = some (.cells ⟨old++junk⟩ e fz)) (ho:old.length=d.length) :
    Chg [b] w (Go.Sort.grow (Go.Sort.putRow (Value.int .i64) (Go.Sort.ahead w m) b 0 d.toArray) os)∧(Go.Sort.grow (Go.Sort.putRow (Value.int .i64) (Go.Sort.ahead w m) b 0 d.toArray) os).heap[b]? = some (.cells ⟨iis d++junk⟩ e fz):=by
  have hlt:=(Array.getElem?_eq_some_iff.1 hb).1
  refine ⟨⟨rfl,rfl,rfl,?_,?_,?_⟩,?_⟩
  · simp [Go.Sort.grow,Go.Sort.putRow,Go.Sort.mapBlock,Go.Sort.ahead]
  · simp [Go.Sort.grow,Go.Sort.putRow,Go.Sort.mapBlock,Go.Sort.ahead]
  · intro i hi hs
    have hne:b≠i:=fun h=>hs (by simp [h])
    simp [Go.Sort.grow,Go.Sort.putRow,Go.Sort.mapBlock,Go.Sort.ahead,Array.getElem?_append,hi,Array.getElem_modify,hne]
  · simp only [Go.Sort.grow,Go.Sort.putRow,Go.Sort.mapBlock,Go.Sort.ahead]
    rw [Array.getElem?_append_left (by simpa using hlt),Array.getElem?_modify,if_pos rfl,hb]
    simp only [Option.map_some,Go.Sort.onCells]
    congr 2
    apply Array.ext_getElem?
    intro t
    simp only [Go.Sort.putCells,Array.getElem?_mapIdx,Nat.zero_le,true_and,Nat.zero_add,Nat.sub_zero,List.size_toArray,List.getElem?_toArray]
    by_cases ht:t < d.length
    · rw [List.getElem?_append_left (by omega),List.getElem?_append_left (by rw [iis_len];omega),List.getElem?_eq_getElem (by omega)]
      simp [ht,iis]
    · rw [List.getElem?_append_right (by omega),List.getElem?_append_right (by rw [iis_len];omega),ho,iis_len]
      cases junk[t - d.length]? with
      | none=>rfl
      | some v=>simp [ht]
theorem sortHolds {w:World} {b:Nat} {xs:List Int} {junk:List Value} {e:TypeId} (hb:w.heap[b]? = some (.cells ⟨iis xs++junk⟩ e (0,0))):Go.Sort.Holds (Value.int .i64) w b 0 xs.toArray:=by
  intro j hj
  have hj':j < xs.length:=by simpa using hj
  refine ⟨?_,?_⟩
  · simp only [World.cell?,hb,Nat.zero_add]
    rw [getElem!_pos _ j hj]
    simp [List.getElem?_append_left,iis_len,hj',iis]
  · simp [World.frozen?,hb]
theorem isort_ok (xs:List Int) (hbig:xs.length≤1000000000) (ov:Ov) (hov:OvOk 1 ov xs.length (iis xs)) (w:World) :
    CallM Tryz.prog 107 [slV ov xs.length] (blkL 3 ov (iis xs)) w fun v L=>v = .tuple #[]∧L=blkL 3 ov (iis (srt xs)):=by
  cases ov with
  | none =>
    have h0:xs.length=0:=hov.2
    have:xs=[]:=List.eq_nil_of_length_eq_zero h0
    subst this
    exact ⟨fun hw=>Calls.mono (AnyM.slices_Sort_int_none Tryz.sortI none 0 w) fun e w' ⟨h1,h2⟩=>⟨_,_,h1,⟨rfl,rfl⟩,by rw [h2];exact hw⟩⟩
  | some q =>
    obtain ⟨b,j,junk⟩:=q
    refine ⟨fun hw=>?_⟩
    have hb:=hw.get b _ List.mem_cons_self
    have hlt:=(Array.getElem?_eq_some_iff.1 hb).1
    refine Calls.mono (AnyM.slices_Sort_int Tryz.sortI b 0 (xs.length+j) xs w (sortHolds hb) hlt (by omega)) ?_
    rintro e w' ⟨h1,n,os,rfl⟩
    obtain ⟨g1,g2⟩:=putRow_own (m:=n) (d:=srt xs) (os:=os) hb (by rw [iis_len,(srt_perm xs).length_eq])
    exact ⟨_,_,h1,⟨rfl,rfl⟩,hw.upd .head g1 g2⟩
theorem icompact_ok (xs:List Int) (hbig:xs.length≤1000000000) (ov:Ov) (hov:OvOk 1 ov xs.length (iis xs)) (w:World) :
    CallM Tryz.prog 108 [slV ov xs.length] (blkL 3 ov (iis xs)) w fun v L=>∃ ov',OvOk 1 ov' (Go.Lib.compact xs).length (iis (Go.Lib.compact xs))∧v=slV ov' (Go.Lib.compact xs).length∧L=blkL 3 ov' (iis (Go.Lib.compact xs)):=by
  cases ov with
  | none =>
    have h0:xs.length=0:=hov.2
    have:xs=[]:=List.eq_nil_of_length_eq_zero h0
    subst this
    exact ⟨fun hw=>Calls.mono (AnyG.slices_Compact_int_empty Tryz.cmpI none 0 w) fun e w' ⟨h1,h2⟩=>⟨_,_,h1,⟨none,hov,rfl,rfl⟩,by rw [h2];exact hw⟩⟩
  | some q =>
    obtain ⟨b,j,junk⟩:=q
    refine ⟨fun hw=>?_⟩
    have hb:=hw.get b _ List.mem_cons_self
    have hle:=Go.Lib.compact_length_le xs
    refine Calls.mono (AnyG.slices_Compact_int Tryz.cmpI b 0 (xs.length+j) xs w (sortHolds hb) (by omega) (by omega)) ?_
    rintro e w' ⟨h1,n,rfl⟩
    obtain ⟨g1,g2⟩:=putRow_own (m:=n) (d:=Go.Lib.compact xs++List.replicate (xs.length - (Go.Lib.compact xs).length) 0) (os:=#[]) hb (by rw [iis_len,List.length_append,List.length_replicate];omega)
    simp only [Go.Sort.grow_empty] at g1 g2
    rw [iis_app,List.append_assoc] at g2
    have hj:junk.length=j:=by have:=hov.2;simpa using this
    refine ⟨_,_,h1,⟨some (b,(xs.length - (Go.Lib.compact xs).length)+j,iis (List.replicate (xs.length - (Go.Lib.compact xs).length) 0)++junk),⟨by rw [iis_len,Nat.mul_one],by simp only [List.length_append,iis_len,List.length_replicate,hj,Nat.mul_one]⟩,?_,rfl⟩,hw.upd .head g1 g2⟩
    simp only [slV]
    congr 1
    omega
theorem log_nil (i:Int):CallP Tryz.prog 106 [.pointer none,.int .i64 i] (.slice none 0 0):=by
  refine enterP (tb:=tb) Tryz.func106 rfl Tryz.ntmps106 rfl fun w=>?_
  repeat' (first|(apply R.is1;first|(apply R.isBin;(apply R.pure;exact rfl;(apply Ok1.eqlP;(iterate 5 exact rfl))))|(apply R.pure;exact rfl;first|(apply Ok1.move;exact rfl)|(apply Ok1.assign;exact rfl)|(apply Ok1.pick_t;exact rfl;exact rfl)))|(apply R.isG;(apply R.guard_not;(iterate 3 exact rfl)))|apply R.nil|(apply T.is;first|apply T.seq|apply T.region|apply T.ret|(apply T.cond_t;exact rfl)))
  all_goals (apply RetOk.t;exact rfl)
  all_goals rfl
theorem rall_nil (w:World):CallM Tryz.prog 32 [.pointer none] [] w fun v L=>∃ ov,OvOk 1 ov 0 []∧v=slV ov 0∧L=blkL 3 ov []:=by
  have h:=log_nil
  have hs:=fun w1=>isort_ok [] (by decide) none ⟨rfl,rfl⟩ w1
  have hc:=fun w1=>icompact_ok [] (by decide) none ⟨rfl,rfl⟩ w1
  refine enterK (tb:=tb) Tryz.func32 rfl Tryz.ntmps32 rfl ?_
  repeat' (first|(apply R.is1;first|(apply R.isBin;(apply R.pure;exact rfl;first|(apply Ok1.add64;exact rfl;exact rfl;omega;omega)|(apply Ok1.lss_t;exact rfl;exact rfl;omega)|(apply Ok1.lss_f;exact rfl;exact rfl;omega)))|(apply R.isCall;first|apply R.callP rfl rfl rfl (h _)|(apply R.append0 (ov:=none) (n:=0);(iterate 8 exact rfl);(intro _;rfl))|(apply R.callE (vs:=[.slice none 0 0]);(iterate 3 exact rfl);exact Ext.none _;intro w1 hw1;exact hs w1;rintro v Lo ⟨rfl,rfl⟩)|(apply R.callE (vs:=[.slice none 0 0]);(iterate 3 exact rfl);exact Ext.none _;intro w1 hw1;exact hc w1;rintro v Lo ⟨ov2,hov2,rfl,rfl⟩))|(apply R.pure;exact rfl;first|(apply Ok1.move;exact rfl)|(apply Ok1.assign;exact rfl)))|apply R.nil|(apply T.is;first|apply T.rounds 5|apply T.seq|apply T.region|apply T.block|apply T.skip|apply T.exit|apply T.ret|(apply T.cond_t;exact rfl)|(apply T.cond_f;exact rfl)))
  all_goals (apply RetOk.t;exact rfl)
  all_goals exact ⟨_,by (focus (repeat' first|exact Ext.here _ _|apply Keep.last);done),ov2,hov2,rfl,rfl⟩
theorem has_nil (s:Int) (w:World):CallM Tryz.prog 33 [.pointer none,.int .i64 s] [] w fun v L=>v = .bool false∧L=[]:=by
  have hall:=fun w1=>rall_nil w1
  refine enterK (tb:=tb) Tryz.func33 rfl Tryz.ntmps33 rfl ?_
  repeat' (first|(apply R.is1;first|(apply R.isCall;first|(apply R.callE (vs:=[.pointer none]);(iterate 3 exact rfl);exact Ext.none _;intro w1 hw1;exact hall w1;rintro v Lo ⟨ov,hov,rfl,rfl⟩;rw [slV_eq hov])|(apply R.callV (vs:=[.slice (ovp ov) 0 (ovc ov 0),.int .i64 s]);(iterate 3 exact rfl);intro w1 hw1;exact contains_ok (ovp ov) 0 (ovc ov 0) [] rfl (by decide) s w1 (.inl rfl)))|(apply R.pure;exact rfl;first|(apply Ok1.move;exact rfl)|(apply Ok1.assign;exact rfl)))|apply R.nil|(apply T.is;first|apply T.seq|apply T.region|apply T.ret))
  (apply RetOk.t;exact rfl)
  exact ⟨_,by (focus ((repeat' (exact Keep.nil _));done)),rfl,rfl⟩
section
variable {X:Cx} {σ:Env} {L Lr:Lst} {d:Option Nat} {ty:TypeId} {pos:String} {af:Array Edge} {g:Option (Nat × Bool)} {x:Operand} {t e:TypeId} {r re:TRow} {p:Option Addr} {n cap i j:Nat}
end
/-- A delta: from where,and a log's part,of each. -/
abbrev Dl:=List (Int × Pi)
section
variable {X:Cx} {σ:Env} {L Lr:Lst} {d:Option Nat} {ty:TypeId} {pos:String} {af:Array Edge} {g:Option (Nat × Bool)} {x:Operand} {t e:TypeId} {r re:TRow} {p:Option Addr} {n cap i j:Nat}
end
/-- A delta whose logs lie in the blocks of L. -/
structure DlO (d:Dl) (L:Lst):Prop where
  cap:∀ x∈d,x.2.xs.length≤x.2.cap
  adr:∀ x∈d,x.2.xs≠[]→∃ b o,x.2.p=some ⟨b,o,none⟩∧b∈blks L
  rd:∀ (w0 w:World) (S:List Nat) (L':Lst),Hp w0 S L' w→(∀ z∈L,z∈L')→∀ x∈d,RdSl w x.2.p iV x.2.xs
theorem or8 (m c:Nat) (hm:m < 72057594037927936) (hc:c < 256):orI .u64 ((m:Int) * 256) c=(m:Int) * 256+c:=by
  unfold orI
  have e1:((m:Int) * 256)=((m * 256:Nat):Int):=by omega
  rw [e1,BitVec.ofInt_natCast,BitVec.ofInt_natCast,BitVec.toNat_or,BitVec.toNat_ofNat,BitVec.toNat_ofNat]
  have hb:IntKind.u64.bits=64:=rfl
  rw [hb,Nat.mod_eq_of_lt (by omega),Nat.mod_eq_of_lt (by omega)]
  have h:=Nat.shiftLeft_add_eq_or_of_lt (b:=c) (i:=8) (by omega) m
  rw [Nat.shiftLeft_eq] at h
  rw [← h,wrap_u64 (by omega) (by omega)]
  omega
section
variable {X:Cx} {σ:Env} {L:Lst} {ty t:TypeId} {pos:String} {af:Array Edge} {x:Operand} {r re:TRow} {d:Option Nat} {g:Option (Nat × Bool)} {e:TypeId} {p:Option Addr} {n cap j:Nat}
theorem Ok1.pre3 {hi mx:Operand} (ht:X.tb.row t=some r) (hk:r.k = .slice e) (he:X.tb.row e=some re) (hx:ev σ x=some (.slice p n cap)) (hh:ev σ hi=some (.int .i64 j)) (hm:ev σ mx=some (.int .i64 j)) (h2:j≤cap) :
    Ok1 X ⟨d,.slice t x none (some hi) (some mx),ty,pos,af,g⟩ σ L (.slice p j j):=.mk fun a w ha hw=>by
  rw [slice_run (l:=0) (h:=(j:Int)) (m:=(j:Int)) X.tb ht hk he ha hx (by simp [bd,hm]) (by simp [bd,hh]) rfl (by omega) (by omega) (by omega) (by omega) (.inr (by simp))]
  have:p.map (·.add (0 * re.size))=p:=by cases p<;>simp [Addr.add]
  simp only [Int.toNat_zero,this,ite_self,Int.toNat_natCast,Nat.sub_zero]
end
/-- The number that bytes make,the highest first. -/
def beN (xs:List Int):Int:=xs.foldl (fun a c=>a * 256+c) 0
theorem be_snoc {xs:List Int} {i:Nat} {x:Int} (h:xs[i]? = some x):beN (xs.take (i+1))=beN (xs.take i) * 256+x:=by
  unfold beN
  rw [List.take_add_one,h,List.foldl_append]
  rfl
theorem be_range:∀ (n:Nat) (xs:List Int),xs.length=n→Byt xs→0≤beN xs∧beN xs < 256 ^ n:=by
  intro n
  induction n with
  | zero=>intro xs h _;rw [List.length_eq_zero_iff.1 h];exact ⟨Int.le_refl _,by decide⟩
  | succ n ih =>
    intro xs h hb
    obtain ⟨x,hx⟩:∃ x,xs[n]? = some x:=⟨_,List.getElem?_eq_getElem (by omega)⟩
    have h1:=ih (xs.take n) (by rw [List.length_take];omega) fun y hy=>hb y (List.mem_of_mem_take hy)
    have h2:=be_snoc hx
    rw [List.take_of_length_le (by omega)] at h2
    have h3:=hb x (List.mem_of_getElem? hx)
    have h4:(256:Int) ^ (n+1)=256 ^ n * 256:=Int.pow_succ ..
    omega
/-- What is left to be read,and the first error. -/
structure Rs where
  q:Option Addr
  cap:Nat
  xs:List Int
  e:Int
def Rs.L (s:Rs) (br:Nat):Lst:=[(br,.cells ⟨[.slice s.q s.xs.length s.cap,.int .i64 s.e]⟩ 205 (0,0))]
def Rs.fail (s:Rs) (e:Int):Rs:=if s.e=0 then ⟨none,0,[],e⟩ else s
def Rs.drop (s:Rs) (k:Nat):Rs:=⟨sufP s.q s.cap k 1,s.cap - k,s.xs.drop k,s.e⟩
structure Rs.ok (s:Rs) (br:Nat) (w:World):Prop where
  rd:RdSl w s.q u8V s.xs
  cap:s.xs.length≤s.cap
  off:s.xs≠[]→Off s.q [br]
  byt:Byt s.xs
  big:s.xs.length≤1000000000
theorem rfail_ok (br:Nat) (s:Rs) (e:Int) (w:World):CallM Tryz.prog 99 [.pointer (some ⟨br,0,none⟩),.int .i64 e] (s.L br) w fun v L=>v = .tuple #[]∧L=(s.fail e).L br:=by
  by_cases h:s.e=0
  · refine enterK (tb:=tb) Tryz.func99 rfl Tryz.ntmps99 rfl ?_
    rw [Rs.fail,if_pos h]
    simp only [Rs.L,h]
    repeat' (first|(apply R.is1;first|(apply R.isBin;(apply R.pure;exact rfl;(apply Ok1.eql_t;exact rfl;exact rfl;omega)))|(apply R.pure;exact rfl;first|(apply Ok1.move;exact rfl)|(apply Ok1.fieldAddr;(iterate 5 exact rfl))|(apply Ok1.load;exact rfl;(apply Ld.own1;exact rfl;exact rfl;exact At.head;exact rfl))|(apply Ok1.nilCheck;exact rfl)))|(apply R.is0;(apply R.store;(iterate 6 exact rfl);exact Upd.head;exact rfl))|apply R.nil|(apply T.is;first|apply T.seq|apply T.region|(apply T.cond_t;exact rfl)))
    (apply RetOk.n)
    exact ⟨_,by (focus (repeat' first|exact Keep.nil _|exact Ext.one _ _|apply Keep.cons);done),rfl,rfl⟩
  · refine enterK (tb:=tb) Tryz.func99 rfl Tryz.ntmps99 rfl ?_
    rw [Rs.fail,if_neg h]
    simp only [Rs.L]
    repeat' (first|(apply R.is1;first|(apply R.isBin;(apply R.pure;exact rfl;(apply Ok1.eql_f;exact rfl;exact rfl;omega)))|(apply R.pure;exact rfl;first|(apply Ok1.move;exact rfl)|(apply Ok1.fieldAddr;(iterate 5 exact rfl))|(apply Ok1.load;exact rfl;(apply Ld.own1;exact rfl;exact rfl;exact At.head;exact rfl))|(apply Ok1.nilCheck;exact rfl)))|apply R.nil|(apply T.is;first|apply T.seq|apply T.region|apply T.skip|(apply T.cond_f;exact rfl)))
    (apply RetOk.n)
    exact ⟨_,by (focus (repeat' first|exact Keep.nil _|exact Ext.one _ _|apply Keep.cons);done),rfl,rfl⟩
theorem rtake_no (br:Nat) (s:Rs) (k:Nat) (h:s.e≠0 ∨ s.xs.length < k) (w:World):CallM Tryz.prog 203 [.pointer (some ⟨br,0,none⟩),.int .i64 k] (s.L br) w fun v L=>v = .slice none 0 0∧L=(s.fail 4).L br:=by
  have hf:=fun w1=>rfail_ok br s 4 w1
  refine enterK (tb:=tb) Tryz.func203 rfl Tryz.ntmps203 rfl ?_
  generalize (s.fail 4).L br=L4 at *
  by_cases he:s.e=0
  · have hk:s.xs.length < k:=h.resolve_left fun h=>h he
    simp only [Rs.L,he] at hf ⊢
    repeat' (first|(apply R.is1;first|(apply R.isBin;(apply R.pure;exact rfl;first|(apply Ok1.gtr_t;exact rfl;exact rfl;omega)|(apply Ok1.neq_f;exact rfl;exact rfl;omega)))|(apply R.isCall;first|(apply R.callE (Li:=[(br,.cells ⟨[.slice s.q s.xs.length s.cap,.int .i64 0]⟩ 205 (0,0))]);(iterate 3 exact rfl);(focus ((repeat' (exact Ext.one _ _));done));intro w1 hw1;exact hf w1;rintro v Lo ⟨rfl,rfl⟩)|(apply R.pure;exact rfl;(apply Ok1.lenS;(iterate 3 exact rfl))))|(apply R.pure;exact rfl;first|(apply Ok1.move;exact rfl)|(apply Ok1.fieldAddr;(iterate 5 exact rfl))|(apply Ok1.load;exact rfl;(apply Ld.own1;exact rfl;exact rfl;exact At.head;exact rfl))|(apply Ok1.assign;exact rfl)|(apply Ok1.pick_f;exact rfl;exact rfl)|(apply Ok1.nilCheck;exact rfl)))|(apply R.isG;(apply R.guard_run;exact rfl;exact rfl))|apply R.nil|(apply T.is;first|apply T.seq|apply T.region|apply T.ret|(apply T.cond_t;exact rfl)))
    (apply RetOk.t;exact rfl)
    exact ⟨_,by (focus (repeat' first|exact Ext.here _ _|apply Keep.last);done),rfl,rfl⟩
  · simp only [Rs.L] at hf ⊢
    repeat' (first|(apply R.is1;first|(apply R.isBin;(apply R.pure;exact rfl;(apply Ok1.neq_t;exact rfl;exact rfl;omega)))|(apply R.isCall;(apply R.callE (Li:=[(br,.cells ⟨[.slice s.q s.xs.length s.cap,.int .i64 s.e]⟩ 205 (0,0))]);(iterate 3 exact rfl);(focus ((repeat' (exact Ext.one _ _));done));intro w1 hw1;exact hf w1;rintro v Lo ⟨rfl,rfl⟩))|(apply R.pure;exact rfl;first|(apply Ok1.move;exact rfl)|(apply Ok1.fieldAddr;(iterate 5 exact rfl))|(apply Ok1.load;exact rfl;(apply Ld.own1;exact rfl;exact rfl;exact At.head;exact rfl))|(apply Ok1.assign;exact rfl)|(apply Ok1.pick_t;exact rfl;exact rfl)|(apply Ok1.nilCheck;exact rfl)))|(apply R.isG;(apply R.guard_not;(iterate 3 exact rfl)))|apply R.nil|(apply T.is;first|apply T.seq|apply T.region|apply T.ret|(apply T.cond_t;exact rfl)))
    (apply RetOk.t;exact rfl)
    exact ⟨_,by (focus (repeat' first|exact Ext.here _ _|apply Keep.last);done),rfl,rfl⟩
theorem rtake_ok (br:Nat) (s:Rs) (k:Nat) (he:s.e=0) (hk:k≤s.xs.length) (hc:s.xs.length≤s.cap) (w:World):CallM Tryz.prog 203 [.pointer (some ⟨br,0,none⟩),.int .i64 k] (s.L br) w fun v L=>v = .slice s.q k k∧L=(s.drop k).L br:=by
  refine enterK (tb:=tb) Tryz.func203 rfl Tryz.ntmps203 rfl ?_
  simp only [Rs.L,Rs.drop,he,List.length_drop]
  repeat' (first|(apply R.is1;first|(apply R.isBin;(apply R.pure;exact rfl;first|(apply Ok1.gtr_f;exact rfl;exact rfl;omega)|(apply Ok1.neq_f;exact rfl;exact rfl;omega)))|(apply R.isCall;(apply R.pure;exact rfl;(apply Ok1.lenS;(iterate 3 exact rfl))))|(apply R.pure;exact rfl;first|(apply Ok1.pre3 (j:=k);(iterate 6 exact rfl);omega)|(apply Ok1.sufR (i:=k) (sz:=1);(iterate 6 exact rfl);exact hk;exact hc)|(apply Ok1.move;exact rfl)|(apply Ok1.fieldAddr;(iterate 5 exact rfl))|(apply Ok1.load;exact rfl;(apply Ld.own1;exact rfl;exact rfl;exact At.head;exact rfl))|(apply Ok1.assign;exact rfl)|(apply Ok1.pick_f;exact rfl;exact rfl)|(apply Ok1.nilCheck;exact rfl)))|(apply R.is0;(apply R.store;(iterate 6 exact rfl);exact Upd.head;exact rfl))|(apply R.isG;(apply R.guard_run;exact rfl;exact rfl))|apply R.nil|(apply T.is;first|apply T.seq|apply T.region|apply T.skip|apply T.ret|(apply T.cond_f;exact rfl)))
  (apply RetOk.t;exact rfl)
  exact ⟨_,by (focus (repeat' first|exact Keep.nil _|exact Ext.one _ _|apply Keep.cons);done),rfl,rfl⟩
/-- The next number of k bytes. -/
def Rs.num (s:Rs) (k:Nat):Int × Bool × Rs :=
  if s.e≠0 ∨ s.xs.length < k then (0,false,s.fail 4) else if beN (s.xs.take k)≤9223372036854775807 then (beN (s.xs.take k),true,s.drop k) else (0,false,(s.drop k).fail 3)
theorem pw8 {z k:Nat} (hz:z≤3) (hk:pw z=k):1≤k∧k≤8∧IntKind.i64.wrap (1 * pw (z:Int).toNat)=k:=by
  have:z=0 ∨ z=1 ∨ z=2 ∨ z=3:=by omega
  rcases this with rfl|rfl|rfl|rfl
  · have:k=1:=by have h:pw 0=1:=rfl;omega
    subst this;exact ⟨by decide,by decide,by decide⟩
  · have:k=2:=by have h:pw 1=2:=rfl;omega
    subst this;exact ⟨by decide,by decide,by decide⟩
  · have:k=4:=by have h:pw 2=4:=rfl;omega
    subst this;exact ⟨by decide,by decide,by decide⟩
  · have:k=8:=by have h:pw 3=8:=rfl;omega
    subst this;exact ⟨by decide,by decide,by decide⟩
theorem rnumber_ok (br:Nat) (s:Rs) (z k:Nat) (hz:z≤3) (hk:pw z=k) (w:World) (hs:s.ok br w):CallM Tryz.prog 202 [.pointer (some ⟨br,0,none⟩),.int .i64 z] (s.L br) w fun v L=>v = .tuple #[.int .i64 (s.num k).1,.bool (s.num k).2.1]∧L=(s.num k).2.2.L br:=by
  obtain ⟨hk1,hk8,hwr⟩:=pw8 hz hk
  have hwd:=width_ok (z:Int) k (by omega) (by omega) hwr
  refine enterK (tb:=tb) Tryz.func202 rfl Tryz.ntmps202 rfl ?_
  by_cases h:s.e≠0 ∨ s.xs.length < k
  · have ht:=fun w1=>rtake_no br s k h w1
    rw [Rs.num,if_pos h]
    simp only
    generalize s.L br=L0 at *
    generalize (s.fail 4).L br=L4 at *
    repeat' (first|(apply R.is1;first|(apply R.isBin;(apply R.pure;exact rfl;first|(apply Ok1.lss_f;exact rfl;exact rfl;omega)|(apply Ok1.gtr_f;exact rfl;exact rfl;omega)))|(apply R.isCall;first|apply R.callP rfl rfl rfl hwd|(apply R.callE (Li:=L0);(iterate 3 exact rfl);(focus ((repeat' (exact Ext.all _));done));intro w1 hw1;exact ht w1;rintro v Lo ⟨rfl,rfl⟩)|(apply R.pure;exact rfl;(apply Ok1.lenS;(iterate 3 exact rfl))))|(apply R.pure;exact rfl;first|(apply Ok1.move;exact rfl)|(apply Ok1.assign;exact rfl)|(apply Ok1.convI64;(iterate 5 exact rfl);omega;omega)))|apply R.nil|(apply T.is;first|apply T.rounds 1|apply T.seq|apply T.region|apply T.block|apply T.skip|apply T.exit|apply T.ret|(apply T.cond_f;exact rfl)))
    (apply RetOk.tt;exact rfl;exact rfl)
    exact ⟨_,by (focus (repeat' first|exact Ext.here _ _|apply Keep.last);done),rfl,rfl⟩
  · have he:s.e=0:=Classical.byContradiction fun h1=>h (.inl h1)
    have hkl:k≤s.xs.length:=Nat.le_of_not_lt fun h1=>h (.inr h1)
    have ht:=fun w1=>rtake_ok br s k he hkl hs.cap w1
    have hne:s.xs≠[]:=by intro h0;rw [h0] at hkl;simp at hkl;omega
    have hoff:=hs.off hne
    have hpre:=hs.rd.pre u8V_len k
    have hbt:Byt (s.xs.take k):=fun y hy=>hs.byt y (List.mem_of_mem_take hy)
    have hlt:(s.xs.take k).length=k:=by rw [List.length_take];omega
    have hbe:∀ i≤k,0≤beN ((s.xs.take k).take i)∧beN ((s.xs.take k).take i) < 256 ^ i:=fun i hi=>be_range i _ (by rw [List.length_take];omega) fun y hy=>hbt y (List.mem_of_mem_take hy)
    rw [Rs.num,if_neg h]
    obtain ⟨q,hq⟩:∃ q,q=s.q:=⟨_,rfl⟩
    rw [← hq] at ht hoff hpre
    have hfl:=fun w1=>rfail_ok br (s.drop k) 3 w1
    obtain ⟨S,hS⟩:∃ S,S=blks (s.L br):=⟨_,rfl⟩
    have hoff:Off q S:=by rw [hS];exact hoff
    rw [← hS]
    generalize s.L br=L0 at *
    generalize s.drop k=s1 at *
    generalize s.xs.take k=ys at *
    repeat' (first|(apply R.is1;first|(apply R.isCall;first|apply R.callP rfl rfl rfl hwd|(apply R.callE (Li:=L0);(iterate 3 exact rfl);(focus ((repeat' (exact Ext.all _));done));intro w1 hw1;exact ht w1;rintro v Lo ⟨rfl,rfl⟩)|(apply R.pure;exact rfl;(apply Ok1.lenS;(iterate 3 exact rfl))))|(apply R.pure;exact rfl;first|(apply Ok1.move;exact rfl)|(apply Ok1.assign;exact rfl)))|apply R.nil|(apply T.is;first|apply T.seq|apply T.region|apply T.block))
    apply T.loopK (α:=Nat) (I:=fun i=>i≤k) (σi:=fun i=>[(0,.pointer (some ⟨br,0,none⟩)),(6,.slice q k k),(7,.int .u64 (beN (ys.take i))),(14,.slice q k k),(15,.int .i64 k),(16,.int .i64 i)]) (Li:=fun _=>s1.L br) (μ:=fun i=>k - i) (i0:=0)
    · exact Nat.zero_le _
    · exact ⟨rfl,rfl,rfl,rfl,rfl,rfl,trivial⟩
    · (focus (repeat' first|exact Keep.nil _|exact Ext.one _ _|apply Keep.cons);done)
    · intro i hi
      have hb:=hbe i hi
      rcases Nat.lt_or_ge i k with hlt|hge
      · obtain ⟨y,hy⟩:∃ y,ys[i]? = some y:=⟨_,List.getElem?_eq_getElem (by omega)⟩
        obtain ⟨b,o,hpe,H⟩:=hpre.at hy
        replace H:=H 1 u8V_len
        have hyb:=hbt y (List.mem_of_getElem? hy)
        have hpw:(256:Int) ^ i≤72057594037927936:=by
          have:i=0 ∨ i=1 ∨ i=2 ∨ i=3 ∨ i=4 ∨ i=5 ∨ i=6 ∨ i=7:=by omega
          rcases this with rfl|rfl|rfl|rfl|rfl|rfl|rfl|rfl<;>decide
        have hor:orI .u64 (IntKind.u64.wrap (beN (ys.take i) * pw (Int.toNat 8))) y=beN (ys.take (i+1)):=by
          rw [be_snoc hy]
          obtain ⟨m,hm⟩:∃ m:Nat,beN (ys.take i)=m:=⟨(beN (ys.take i)).toNat,by omega⟩
          obtain ⟨c,hc⟩:∃ c:Nat,y=c:=⟨y.toNat,by omega⟩
          rw [hm,hc,show pw (Int.toNat 8)=256 from rfl,wrap_u64 (by omega) (by omega)]
          exact or8 m c (by omega) (by omega)
        repeat' (first|(apply R.is1;first|(apply R.isBin;(apply R.pure;exact rfl;first|(apply Ok1.shl;exact rfl;exact rfl;omega;exact Nat.le_of_ble_eq_true rfl;exact rfl)|(apply Ok1.orK;exact rfl;exact rfl)|(apply Ok1.add64;exact rfl;exact rfl;omega;omega)|(apply Ok1.lss_t;exact rfl;exact rfl;omega)))|(apply R.pure;exact rfl;first|(apply Ok1.indexAddrP;(iterate 4 exact rfl);exact hpe;exact rfl;omega;omega)|(apply Ok1.load;exact rfl;apply Ld.row1 (f:=0) H;exact rfl;exact hoff _ hpe;(iterate 3 exact rfl))|(apply Ok1.move;exact rfl)|(apply Ok1.assign;exact rfl)|(apply Ok1.convU64;(iterate 5 exact rfl);omega;omega)))|apply R.nil|(apply T.is;first|apply T.seq|apply T.region|apply T.block|apply T.skip|(apply T.cond_t;exact rfl)))
        refine ⟨i+1,by omega,by omega,⟨rfl,rfl,?_,rfl,rfl,rfl,trivial⟩,by (focus (repeat' first|exact Keep.nil _|exact Ext.one _ _|apply Keep.cons);done)⟩
        rw [← hor];rfl
      · have hik:i=k:=by omega
        subst hik
        rw [List.take_of_length_le (by omega)] at hb ⊢
        by_cases hmx:beN ys≤9223372036854775807
        · rw [if_pos hmx]
          repeat' (first|(apply R.is1;first|(apply R.isBin;(apply R.pure;exact rfl;first|(apply Ok1.lss_f;exact rfl;exact rfl;omega)|(apply Ok1.gtr_t;exact rfl;exact rfl;omega)|(apply Ok1.gtr_f;exact rfl;exact rfl;omega)))|(apply R.isCall;(apply R.pure;exact rfl;(apply Ok1.lenS;(iterate 3 exact rfl))))|(apply R.pure;exact rfl;first|(apply Ok1.move;exact rfl)|(apply Ok1.assign;exact rfl)|(apply Ok1.convI64;(iterate 5 exact rfl);omega;omega)))|apply R.nil|(apply T.is;first|apply T.seq|apply T.region|apply T.skip|apply T.exit|apply T.ret|(apply T.cond_f;exact rfl)))
          (apply RetOk.tt;exact rfl;exact rfl)
          exact ⟨_,by (focus (repeat' first|exact Keep.nil _|exact Ext.one _ _|apply Keep.cons);done),rfl,rfl⟩
        · rw [if_neg hmx]
          repeat' (first|(apply R.is1;first|(apply R.isBin;(apply R.pure;exact rfl;first|(apply Ok1.lss_f;exact rfl;exact rfl;omega)|(apply Ok1.gtr_t;exact rfl;exact rfl;omega)))|(apply R.isCall;(apply R.callE (Li:=s1.L br);(iterate 3 exact rfl);(focus ((repeat' (exact Ext.one _ _));done));intro w1 hw1;exact hfl w1;rintro v Lo ⟨rfl,rfl⟩))|(apply R.pure;exact rfl;first|(apply Ok1.move;exact rfl)|(apply Ok1.assign;exact rfl)))|apply R.nil|(apply T.is;first|apply T.seq|apply T.region|apply T.exit|apply T.ret|(apply T.cond_t;exact rfl)|(apply T.cond_f;exact rfl)))
          (apply RetOk.tt;exact rfl;exact rfl)
          exact ⟨_,by (focus (repeat' first|exact Keep.nil _|exact Ext.one _ _|apply Keep.cons);done),rfl,rfl⟩
/-- A field of a number. -/
def Rs.get (s:Rs) (z k:Nat):List Value:=if (s.num k).2.1=true then fldV z (s.num k).1 else fldV 0 0
theorem rget_ok (br:Nat) (s:Rs) (z k:Nat) (hz:z≤3) (hk:pw z=k) (w:World) (hs:s.ok br w):CallM Tryz.prog 151 [.pointer (some ⟨br,0,none⟩),.int .i64 z] (s.L br) w fun v L=>v = .agg ⟨s.get z k⟩∧L=(s.num k).2.2.L br:=by
  have hn:=fun w1 h1=>rnumber_ok br s z k hz hk w1 h1
  refine enterK (tb:=tb) Tryz.func151 rfl Tryz.ntmps151 rfl ?_
  have hin:∀ w1 S,Chg S w w1→S=blks (s.L br)→s.ok br w1:=fun w1 S hc hS=>⟨hs.rd.chg' hc (fun h=>hS ▸ hs.off h),hs.cap,hs.off,hs.byt,hs.big⟩
  rw [Rs.get]
  generalize s.num k=r at *
  obtain ⟨v1,v2,s'⟩:=r
  simp only at hn ⊢
  obtain ⟨S,hS⟩:∃ S,S=blks (s.L br):=⟨_,rfl⟩
  rw [← hS]
  generalize s.L br=L0 at *
  cases v2 with
  | true =>
    repeat' (first|(apply R.is1;first|(apply R.isBin;(apply R.pure;exact rfl;first|(apply Ok1.lss_t;exact rfl;exact rfl;omega)|(apply Ok1.lss_f;exact rfl;exact rfl;omega)|(apply Ok1.gtr_f;exact rfl;exact rfl;omega)|(apply Ok1.eqlP;(iterate 5 exact rfl))))|(apply R.isCall;(apply R.callE (Li:=L0);(iterate 3 exact rfl);(focus (repeat' first|exact Ext.all _|apply Ext.cons);done);intro w1 hw1;exact hn w1 (hin w1 _ hw1.chg hS);rintro v Lo ⟨rfl,rfl⟩))|(apply R.pure;exact rfl;first|(apply Ok1.move;exact rfl)|(apply Ok1.fieldAddr;(iterate 5 exact rfl))|(apply Ok1.assign;exact rfl)|(apply Ok1.build;(iterate 5 exact rfl))|(apply Ok1.extract;exact rfl;exact rfl)|(apply Ok1.pick_f;exact rfl;exact rfl)|(apply Ok1.not_t;exact rfl)|(apply Ok1.nilCheck;exact rfl))|(apply R.alloc;(iterate 3 exact rfl);intro))|(apply R.is0;(apply R.store;(iterate 6 exact rfl);(focus (repeat' first|exact Upd.head|apply Upd.tail);done);exact rfl))|(apply R.isG;(apply R.guard_run;exact rfl;exact rfl))|apply R.nil|(apply T.is;first|apply T.seq|apply T.region|apply T.block|apply T.skip|apply T.ret|(apply T.cond_t;exact rfl)|(apply T.cond_f;exact rfl)))
    (apply RetOk.c;exact rfl;((apply Ld.ownk;exact rfl;exact rfl;(focus (repeat' first|exact At.head|apply At.tail);done);exact rfl)))
    exact ⟨_,by (focus (repeat' first|exact Keep.nil _|exact Ext.one _ _|apply Keep.cons);done),rfl,rfl⟩
  | false =>
    repeat' (first|(apply R.is1;first|(apply R.isBin;(apply R.pure;exact rfl;first|(apply Ok1.lss_t;exact rfl;exact rfl;omega)|(apply Ok1.lss_f;exact rfl;exact rfl;omega)|(apply Ok1.gtr_f;exact rfl;exact rfl;omega)|(apply Ok1.eqlP;(iterate 5 exact rfl))))|(apply R.isCall;(apply R.callE (Li:=L0);(iterate 3 exact rfl);(focus (repeat' first|exact Ext.all _|apply Ext.cons);done);intro w1 hw1;exact hn w1 (hin w1 _ hw1.chg hS);rintro v Lo ⟨rfl,rfl⟩))|(apply R.pure;exact rfl;first|(apply Ok1.move;exact rfl)|(apply Ok1.fieldAddr;(iterate 5 exact rfl))|(apply Ok1.assign;exact rfl)|(apply Ok1.build;(iterate 5 exact rfl))|(apply Ok1.extract;exact rfl;exact rfl)|(apply Ok1.pick_f;exact rfl;exact rfl)|(apply Ok1.not_f;exact rfl)|(apply Ok1.nilCheck;exact rfl))|(apply R.alloc;(iterate 3 exact rfl);intro))|(apply R.is0;(apply R.store;(iterate 6 exact rfl);(focus (repeat' first|exact Upd.head|apply Upd.tail);done);exact rfl))|(apply R.isG;(apply R.guard_run;exact rfl;exact rfl))|apply R.nil|(apply T.is;first|apply T.seq|apply T.region|apply T.block|apply T.ret|(apply T.cond_t;exact rfl)|(apply T.cond_f;exact rfl)))
    (apply RetOk.c;exact rfl;((apply Ld.ownk;exact rfl;exact rfl;(focus (repeat' first|exact At.head|apply At.tail);done);exact rfl)))
    exact ⟨_,by (focus (repeat' first|exact Keep.nil _|exact Ext.one _ _|apply Keep.cons);done),rfl,rfl⟩
theorem rnum_ok (br:Nat) (s:Rs) (z k:Nat) (hz:z≤3) (hk:pw z=k) (w:World) (hs:s.ok br w):CallM Tryz.prog 76 [.pointer (some ⟨br,0,none⟩),.int .i64 z] (s.L br) w fun v L=>v = .int .i64 (s.num k).1∧L=(s.num k).2.2.L br:=by
  have hn:=fun w1 h1=>rget_ok br s z k hz hk w1 h1
  have hin:∀ w1 S,Chg S w w1→S=blks (s.L br)→s.ok br w1:=fun w1 S hc hS=>⟨hs.rd.chg' hc (fun h=>hS ▸ hs.off h),hs.cap,hs.off,hs.byt,hs.big⟩
  have h0:(s.num k).2.1=false→(s.num k).1=0:=by
    unfold Rs.num
    split
    · exact fun _=>rfl
    · split
      · intro h;cases h
      · exact fun _=>rfl
  have hv:∃ v0,s.get z k=[v0,.int .i64 (s.num k).1,.slice none 0 0]:=by
    unfold Rs.get fldV
    cases h:(s.num k).2.1 with
    | true=>exact ⟨_,rfl⟩
    | false=>rw [h0 h];exact ⟨_,rfl⟩
  obtain ⟨v0,hv⟩:=hv
  rw [hv] at hn
  refine enterK (tb:=tb) Tryz.func76 rfl Tryz.ntmps76 rfl ?_
  generalize s.num k=r at *
  obtain ⟨v1,v2,s'⟩:=r
  simp only at hn ⊢
  obtain ⟨S,hS⟩:∃ S,S=blks (s.L br):=⟨_,rfl⟩
  rw [← hS]
  generalize s.L br=L0 at *
  repeat' (first|(apply R.is1;first|(apply R.isBin;(apply R.pure;exact rfl;first|(apply Ok1.eql_f;exact rfl;exact rfl;omega)|(apply Ok1.neqP;(iterate 5 exact rfl))))|(apply R.isCall;(apply R.callE (Li:=L0);(iterate 3 exact rfl);(focus ((repeat' (exact Ext.all _));done));intro w1 hw1;exact hn w1 (hin w1 _ hw1.chg hS);rintro v Lo ⟨rfl,rfl⟩))|(apply R.pure;exact rfl;first|(apply Ok1.move;exact rfl)|(apply Ok1.assign;exact rfl)|(apply Ok1.pick_t;exact rfl;exact rfl)|(apply Ok1.field1;(iterate 7 exact rfl))))|(apply R.isG;(apply R.guard_run;exact rfl;exact rfl))|apply R.nil|(apply T.is;first|apply T.seq|apply T.region|apply T.skip|apply T.ret|(apply T.cond_f;exact rfl)))
  (apply RetOk.t;exact rfl)
  exact ⟨_,by (focus (repeat' first|exact Keep.nil _|exact Ext.one _ _|apply Keep.cons);done),rfl,rfl⟩
theorem rerr_ok (br:Nat) (s:Rs) (w:World) (hb:w.heap[br]? = some (.cells ⟨[.slice s.q s.xs.length s.cap,.int .i64 s.e]⟩ 205 (0,0))):CallW Tryz.prog 96 [.pointer (some ⟨br,0,none⟩)] w fun v _=>v = .int .i64 s.e:=by
  refine enterW (tb:=tb) Tryz.func96 rfl Tryz.ntmps96 rfl ?_
  repeat' (first|(apply R.is1;first|(apply R.isBin;(apply R.pure;exact rfl;(apply Ok1.eqlP;(iterate 5 exact rfl))))|(apply R.pure;exact rfl;first|(apply Ok1.move;exact rfl)|(apply Ok1.fieldAddr;(iterate 5 exact rfl))|(apply Ok1.load;exact rfl;(apply Ld.blk1;exact rfl;exact rfl;assumption;(exact List.not_mem_nil);exact rfl))|(apply Ok1.assign;exact rfl)|(apply Ok1.nilCheck;exact rfl)))|apply R.nil|(apply T.is;first|apply T.seq|apply T.region|apply T.skip|apply T.ret|(apply T.cond_f;exact rfl)))
  (apply RetOk.t;exact rfl)
  rfl
theorem rleft_ok (br:Nat) (s:Rs) (w:World) (hb:w.heap[br]? = some (.cells ⟨[.slice s.q s.xs.length s.cap,.int .i64 s.e]⟩ 205 (0,0))):CallW Tryz.prog 163 [.pointer (some ⟨br,0,none⟩)] w fun v _=>v = .int .i64 s.xs.length:=by
  refine enterW (tb:=tb) Tryz.func163 rfl Tryz.ntmps163 rfl ?_
  repeat' (first|(apply R.is1;first|(apply R.isBin;(apply R.pure;exact rfl;(apply Ok1.eqlP;(iterate 5 exact rfl))))|(apply R.isCall;(apply R.pure;exact rfl;(apply Ok1.lenS;(iterate 3 exact rfl))))|(apply R.pure;exact rfl;first|(apply Ok1.move;exact rfl)|(apply Ok1.fieldAddr;(iterate 5 exact rfl))|(apply Ok1.load;exact rfl;(apply Ld.blk1;exact rfl;exact rfl;assumption;(exact List.not_mem_nil);exact rfl))|(apply Ok1.assign;exact rfl)|(apply Ok1.nilCheck;exact rfl)))|apply R.nil|(apply T.is;first|apply T.seq|apply T.region|apply T.skip|apply T.ret|(apply T.cond_f;exact rfl)))
  (apply RetOk.t;exact rfl)
  rfl
def Rs.fin (s:Rs):Int:=if s.e≠0 then s.e else if 0 < s.xs.length then 3 else 0
theorem rend_ok (br:Nat) (s:Rs) (w:World) (hb:w.heap[br]? = some (.cells ⟨[.slice s.q s.xs.length s.cap,.int .i64 s.e]⟩ 205 (0,0))):CallW Tryz.prog 100 [.pointer (some ⟨br,0,none⟩)] w fun v _=>v = .int .i64 s.fin:=by
  have h1:=fun w1 (hc:Chg [] w w1)=>rerr_ok br s w1 (hc.heap hb List.not_mem_nil)
  have h2:=fun w1 (hc:Chg [] w w1)=>rleft_ok br s w1 (hc.heap hb List.not_mem_nil)
  refine enterW (tb:=tb) Tryz.func100 rfl Tryz.ntmps100 rfl ?_
  rw [Rs.fin]
  by_cases he:s.e=0
  · rw [if_neg (fun h=>h he)]
    rw [he] at h1
    by_cases hx:0 < s.xs.length
    · rw [if_pos hx]
      repeat' (first|(apply R.is1;first|(apply R.isBin;(apply R.pure;exact rfl;first|(apply Ok1.gtr_t;exact rfl;exact rfl;omega)|(apply Ok1.neq_f;exact rfl;exact rfl;omega)))|(apply R.isCall;(apply R.callV;(iterate 3 exact rfl);intro w1 hw1;first|exact h1 w1 hw1.chg|exact h2 w1 hw1.chg))|(apply R.pure;exact rfl;first|(apply Ok1.move;exact rfl)|(apply Ok1.assign;exact rfl)))|apply R.nil|(apply T.is;first|apply T.seq|apply T.region|apply T.skip|apply T.ret|(apply T.cond_t;exact rfl)|(apply T.cond_f;exact rfl)))
      (apply RetOk.t;exact rfl)
      rfl
    · rw [if_neg hx]
      repeat' (first|(apply R.is1;first|(apply R.isBin;(apply R.pure;exact rfl;first|(apply Ok1.gtr_f;exact rfl;exact rfl;omega)|(apply Ok1.neq_f;exact rfl;exact rfl;omega)))|(apply R.isCall;(apply R.callV;(iterate 3 exact rfl);intro w1 hw1;first|exact h1 w1 hw1.chg|exact h2 w1 hw1.chg))|(apply R.pure;exact rfl;first|(apply Ok1.move;exact rfl)|(apply Ok1.assign;exact rfl)))|apply R.nil|(apply T.is;first|apply T.seq|apply T.region|apply T.skip|apply T.ret|(apply T.cond_f;exact rfl)))
      (apply RetOk.t;exact rfl)
      rfl
  · rw [if_pos he]
    repeat' (first|(apply R.is1;first|(apply R.isBin;(apply R.pure;exact rfl;(apply Ok1.neq_t;exact rfl;exact rfl;omega)))|(apply R.isCall;(apply R.callV;(iterate 3 exact rfl);intro w1 hw1;exact h1 w1 hw1.chg))|(apply R.pure;exact rfl;first|(apply Ok1.move;exact rfl)|(apply Ok1.assign;exact rfl)))|apply R.nil|(apply T.is;first|apply T.seq|apply T.region|apply T.ret|(apply T.cond_t;exact rfl)))
    (apply RetOk.t;exact rfl)
    rfl
/-- A reader whose bytes lie in known blocks. -/
structure RsO (s:Rs) (M:Lst):Prop where
  rd:∀ (w0 w:World) (S:List Nat) (L':Lst),Hp w0 S L' w→(∀ z∈M,z∈L')→RdSl w s.q u8V s.xs
  adr:s.xs≠[]→∃ b o,s.q=some ⟨b,o,none⟩∧b∈blks M
  cap:s.xs.length≤s.cap
  byt:Byt s.xs
  big:s.xs.length≤1000000000
theorem RsO.ok {s:Rs} {M:Lst} (h:RsO s M) {br:Nat} {w0 w:World} {S:List Nat} {L Lr:Lst} (hw:Hp w0 S L w) (he:Ext L (s.L br) Lr) (hin:∀ z∈M,z∈Lr):s.ok br w:=by
  refine ⟨h.rd _ _ _ _ hw fun z hz=>he.perm.subset (List.mem_append_right _ (hin z hz)),h.cap,fun hne a ha=>?_,h.byt,h.big⟩
  obtain ⟨b,o,hp,hb⟩:=h.adr hne
  rw [hp] at ha
  cases ha
  obtain ⟨z,hz,hze⟩:=List.mem_map.1 hb
  obtain ⟨zb,zo⟩:=z
  simp only at hze
  subst hze
  exact RdSl.off hw he (hin _ hz)
theorem RsO.fail {s:Rs} {M:Lst} (h:RsO s M) (e:Int):RsO (s.fail e) M:=by
  unfold Rs.fail
  split
  · exact ⟨fun _ _ _ _ _ _=>.inl rfl,(fun h=>absurd rfl h),Nat.zero_le _,(fun y hy=>by cases hy),Nat.zero_le _⟩
  · exact h
theorem RsO.drop {s:Rs} {M:Lst} (h:RsO s M) {k:Nat} (hk:k≤s.xs.length):RsO (s.drop k) M:=by
  refine ⟨fun w0 w S L' hw hin=>(h.rd w0 w S L' hw hin).suf u8V_len hk h.cap,fun hne=>?_,?_,fun y hy=>h.byt y (List.mem_of_mem_drop hy),?_⟩
  · have h1:s.xs≠[]:=by intro h0;apply hne;simp [Rs.drop,h0]
    obtain ⟨b,o,hp,hb⟩:=h.adr h1
    by_cases hc:s.cap=k
    · exfalso;apply hne;simp only [Rs.drop];exact List.drop_of_length_le (by have:=h.cap;omega)
    · exact ⟨b,o+k * 1,by simp [Rs.drop,sufP,hc,hp,Addr.add_none],hb⟩
  · have:=h.cap;simp only [Rs.drop,List.length_drop];omega
  · have:=h.big;simp only [Rs.drop,List.length_drop];omega
theorem RsO.num {s:Rs} {M:Lst} (h:RsO s M) (k:Nat):RsO (s.num k).2.2 M:=by
  unfold Rs.num
  split
  · exact h.fail 4
  · rename_i hn
    have hk:k≤s.xs.length:=Nat.le_of_not_lt fun h1=>hn (.inr h1)
    split
    · exact h.drop hk
    · exact (h.drop hk).fail 3
theorem ovc_leR {n:Nat} {ov:Ov} {xs:List Value} (h:OvOk 1 ov n xs):n≤ovc ov n:=by
  unfold ovc
  cases ov with
  | none=>have:=h.2;simp only at this ⊢;omega
  | some q=>simp only;omega
theorem rnewr_ok (p:Option Addr) (n cap:Nat) (xs:List Int) (hn:n=xs.length) (hbig:n≤1000000000) (hb:Byt xs) (w:World) (hp:RdSl w p u8V xs) :
    CallM Tryz.prog 26 [.slice p n cap] [] w fun v L=>∃ br s M,v = .pointer (some ⟨br,0,none⟩)∧s.xs=(if n≤1024 then xs else [])∧s.e=(if n≤1024 then 0 else 2)∧RsO s M∧L=s.L br++M:=by
  have hcl:=fun w1 (hc:Chg [] w w1)=>clone_ok p n cap xs hn hbig w1 (hp.chg' hc (fun _=>Off.nil _))
  subst hn
  have hro:∀ ov,OvOk 1 ov xs.length (u8s xs)→RsO ⟨ovp ov,ovc ov xs.length,xs,0⟩ (blkL 5 ov (u8s xs)):=fun ov hov=>by
    rw [← fl_u8] at hov ⊢
    refine ⟨fun w0 w S L' hw hin=>RdSl.own' hw hin hov u8V_len,fun hne=>?_,?_,hb,hbig⟩
    · cases ov with
      | none=>exact absurd (List.eq_nil_of_length_eq_zero hov.2) hne
      | some q=>exact ⟨_,_,rfl,by simp [blks,blkL]⟩
    · exact ovc_leR hov
  refine enterK (tb:=tb) Tryz.func26 rfl Tryz.ntmps26 rfl ?_
  by_cases hl:xs.length≤1024
  · repeat' (first|(apply R.is1;first|(apply R.isBin;(apply R.pure;exact rfl;(apply Ok1.gtr_f;exact rfl;exact rfl;omega)))|(apply R.isCall;first|(apply R.callE;(iterate 3 exact rfl);exact Ext.none _;intro w1 hw1;exact hcl w1 hw1.chg;rintro v Lo ⟨ov,hov,hsome,rfl,rfl⟩;rw [slV_eq hov])|(apply R.pure;exact rfl;(apply Ok1.lenS;(iterate 3 exact rfl))))|(apply R.pure;exact rfl;first|(apply Ok1.move;exact rfl)|(apply Ok1.assign;exact rfl)|(apply Ok1.build;(iterate 5 exact rfl)))|(apply R.box;(iterate 3 exact rfl);intro))|apply R.nil|(apply T.is;first|apply T.seq|apply T.region|apply T.skip|apply T.ret|(apply T.cond_f;exact rfl)))
    (apply RetOk.t;exact rfl)
    refine ⟨_,?_,_,⟨ovp ov,ovc ov xs.length,xs,0⟩,_,rfl,by simp only [if_pos hl],by simp only [if_pos hl],hro ov hov,rfl⟩
    simp only [Rs.L,List.append_nil,List.cons_append,List.nil_append]
    (focus (repeat' first|exact Ext.one _ _|exact Ext.all _|apply Keep.cons|apply Keep.last);done)
  · repeat' (first|(apply R.is1;first|(apply R.isBin;(apply R.pure;exact rfl;(apply Ok1.gtr_t;exact rfl;exact rfl;omega)))|(apply R.isCall;first|(apply R.callE (vs:=[.slice p xs.length cap]);(iterate 3 exact rfl);exact Ext.none _;intro w1 hw1;exact hcl w1 hw1.chg;rintro v Lo ⟨ov,hov,hsome,rfl,rfl⟩;rw [slV_eq hov])|(apply R.callE (Li:=[(_,.cells ⟨[.slice (ovp ov) xs.length (ovc ov xs.length),.int .i64 0]⟩ 205 (0,0))]);(iterate 3 exact rfl);(focus ((repeat' (exact Ext.one _ _));done));intro w1 hw1;exact rfail_ok _ ⟨ovp ov,ovc ov xs.length,xs,0⟩ 2 w1;rintro v Lo ⟨rfl,rfl⟩)|(apply R.pure;exact rfl;(apply Ok1.lenS;(iterate 3 exact rfl))))|(apply R.pure;exact rfl;first|(apply Ok1.move;exact rfl)|(apply Ok1.fieldAddr;(iterate 5 exact rfl))|(apply Ok1.assign;exact rfl)|(apply Ok1.build;(iterate 5 exact rfl))|(apply Ok1.nilCheck;exact rfl))|(apply R.box;(iterate 3 exact rfl);intro))|apply R.nil|(apply T.is;first|apply T.seq|apply T.region|apply T.ret|(apply T.cond_t;exact rfl)))
    (apply RetOk.t;exact rfl)
    refine ⟨_,?_,_,(⟨ovp ov,ovc ov xs.length,xs,0⟩:Rs).fail 2,_,rfl,by simp only [if_neg hl,Rs.fail,if_pos],by simp only [if_neg hl,Rs.fail,if_pos],(hro ov hov).fail 2,rfl⟩
    simp only [Rs.L,List.append_nil,List.cons_append,List.nil_append]
    (focus (repeat' first|exact Ext.one _ _|exact Ext.all _|apply Keep.cons|apply Keep.last);done)
theorem DlO.mono {d:Dl} {L L':Lst} (h:DlO d L) (hs:∀ z∈L,z∈L'):DlO d L' :=
  ⟨h.cap,fun x hx hne=>by obtain ⟨b,o,h1,h2⟩:=h.adr x hx hne;obtain ⟨z,hz,e⟩:=List.mem_map.1 h2;exact ⟨b,o,h1,List.mem_map.2 ⟨z,hs z hz,e⟩⟩,fun w0 w S L' hw hin=>h.rd w0 w S L' hw fun z hz=>hin z (hs z hz)⟩
structure RAct where
  kind:Int
  n:Int
  l:Pi
  f0:Int
  f1:Int
  f2:Int
  f3:Int
  l0:Pi
  l1:Pi
  l2:Pi
  l3:Pi
deriving Inhabited
def Pi.w (z:Pi):Value:=.slice z.p z.xs.length z.cap
def RAct.v (a:RAct):List Value:=[.int .i64 a.kind,.int .i64 a.n,a.l.w,.int .i64 a.f0,.int .i64 a.f1,.int .i64 a.f2,.int .i64 a.f3,a.l0.w,a.l1.w,a.l2.w,a.l3.w]
def RAct.d (a:RAct):Dl:=[(a.f0,a.l0),(a.f1,a.l1),(a.f2,a.l2),(a.f3,a.l3)]
structure RAct.ok (w:World) (a:RAct):Prop where
  rd:RdSl w a.l.p iV a.l.xs
  cap:a.l.xs.length≤a.l.cap
  drd:∀ x∈a.d,RdSl w x.2.p iV x.2.xs
  dcap:∀ x∈a.d,x.2.xs.length≤x.2.cap
theorem ovoff {ov:Ov} {xs:List Value} {e:Nat} {w0 w:World} {S:List Nat} {L Li Lr:Lst} (hw:Hp w0 S L w) (he:Ext L Li Lr) (hin:∀ z∈blkL e ov xs,z∈Lr):Off (ovp ov) (blks Li):=by
  intro a ha
  cases ov with
  | none=>cases ha
  | some q =>
    obtain ⟨b,j,junk⟩:=q
    cases ha
    exact RdSl.off hw he (hin _ List.mem_cons_self)
def val:List Nat→Nat
  | []=>0
  | d::r=>d+65536 * val r
def pl (p:Nat):Nat→Nat→Bool→Bool
  | 0,_,b=>b
  | f+1,q,b=>if q * q≤p then pl p f (q+1) (b && !decide (p % q=0)) else b
theorem Rs.ok.fail {s:Rs} {br:Nat} {w:World} (h:s.ok br w) (e:Int):(s.fail e).ok br w:=by
  unfold Rs.fail
  split
  · exact ⟨.inl rfl,Nat.le_refl _,(fun h=>absurd rfl h),(fun y hy=>by cases hy),Nat.zero_le _⟩
  · exact h
theorem Rs.ok.drop {s:Rs} {br:Nat} {w:World} (h:s.ok br w) {k:Nat} (hk:k≤s.xs.length):(s.drop k).ok br w:=by
  refine ⟨h.rd.suf u8V_len hk h.cap,?_,fun hne=>?_,fun y hy=>h.byt y (List.mem_of_mem_drop hy),?_⟩
  · have:=h.cap;simp only [Rs.drop,List.length_drop];omega
  · exact (h.off (by intro h0;apply hne;simp [Rs.drop,h0])).suf _ _ _
  · have:=h.big;simp only [Rs.drop,List.length_drop];omega
theorem Rs.ok.num {s:Rs} {br:Nat} {w:World} (h:s.ok br w) (k:Nat):(s.num k).2.2.ok br w:=by
  unfold Rs.num
  split
  · exact h.fail 4
  · rename_i hn
    have hk:k≤s.xs.length:=Nat.le_of_not_lt fun h1=>hn (.inr h1)
    split
    · exact h.drop hk
    · exact (h.drop hk).fail 3
theorem Rs.ok.chg {s:Rs} {br:Nat} {w w1:World} (h:s.ok br w) {S:List Nat} (hc:Chg S w w1) (hS:S=[br]):s.ok br w1:=⟨h.rd.chg' hc (fun h9=>hS ▸ h.off h9),h.cap,h.off,h.byt,h.big⟩
theorem rL_blk (s:Rs) (br:Nat):blks (s.L br)=[br]:=rfl
theorem Ext.memI9 {L s L1:Lst} {x:Nat × Obj} (hm:x∈s) (h:Ext L s L1):x∈L:=h.mem x hm
def sTok:ByteArray:=⟨#[116,111,107,101,110]⟩
def secretI (k:List Int) (c:Cl):List Int:=deriveI k sTok [clI c]
def clC (c:Cl):List Value:=[.int .i64 c.id,.int .i64 c.roles,.int .i64 c.exp,.int .i64 c.ser]
def tkC (c:Cl) (s:List Int):List Value:=clC c++u8s s
def zI (n:Nat):List Int:=List.replicate n 0
theorem list32 {α:Type}:∀ (l:List α),l.length=32→∃ x0 x1 x2 x3 x4 x5 x6 x7 x8 x9 x10 x11 x12 x13 x14 x15 x16 x17 x18 x19 x20 x21 x22 x23 x24 x25 x26 x27 x28 x29 x30 x31,l=[x0,x1,x2,x3,x4,x5,x6,x7,x8,x9,x10,x11,x12,x13,x14,x15,x16,x17,x18,x19,x20,x21,x22,x23,x24,x25,x26,x27,x28,x29,x30,x31]:=by
  intro l h
  match l,h with
  | [x0,x1,x2,x3,x4,x5,x6,x7,x8,x9,x10,x11,x12,x13,x14,x15,x16,x17,x18,x19,x20,x21,x22,x23,x24,x25,x26,x27,x28,x29,x30,x31],_=>exact ⟨x0,x1,x2,x3,x4,x5,x6,x7,x8,x9,x10,x11,x12,x13,x14,x15,x16,x17,x18,x19,x20,x21,x22,x23,x24,x25,x26,x27,x28,x29,x30,x31,rfl⟩
theorem fill_tk (a b:Nat) (c:Cl) (d:List Int) (hd:d.length=32):fillE (fldPl [(a,0,4),(b,4,32)]) (tkC ⟨0,0,0,0⟩ (zI 32)) [(0,.agg ⟨clC c⟩),(1,.agg ⟨u8s d⟩)]=some (tkC c d):=by
  obtain ⟨x0,x1,x2,x3,x4,x5,x6,x7,x8,x9,x10,x11,x12,x13,x14,x15,x16,x17,x18,x19,x20,x21,x22,x23,x24,x25,x26,x27,x28,x29,x30,x31,rfl⟩:=list32 d hd
  rfl
theorem secret_len (k:List Int) (c:Cl):(secretI k c).length=32:=derive_len _ _ _
theorem secret_byt (k:List Int) (c:Cl):Byt (secretI k c):=derive_byt _ _ _
theorem make_ok (c:Cl) (hr:c.right) (bk:Nat) (k:List Int) (hkl:k.length≤999999000) (hkb:Byt k) (w:World) (hk:KeyR w bk k):CallW Tryz.prog 35 [.pointer (some ⟨bk,0,none⟩),kvC c] w fun v _=>v = .tuple #[.agg ⟨tkC c (secretI k c)⟩,.int .i64 0]:=by
  have hcb:=clBytes_ok c hr
  have hdl:=secret_len k c
  have hdd:secretI k c=deriveI k sTok [clI c]:=rfl
  have hcl:=clI_len c
  have hcy:=clI_byt c
  have hfl:(frameI [strI sTok,clI c]).length=22:=rfl
  have hst:sTok.size=5:=rfl
  generalize hsec:secretI k c=d at *
  generalize clI c=cb at *
  have hls:(u8s d).length=32:=by rw [u8s_len,hdl]
  have htl:(tkC c d).length=36:=by simp [tkC,clC,hls]
  have hto:(tkC c d).all Value.oneCell'=true:=by simp only [tkC,List.all_append,u8s_one,Bool.and_true];rfl
  have hfill:=fun a b=>fill_tk a b c d hdl
  refine enterW (tb:=tb) Tryz.func35 rfl Tryz.ntmps35 rfl ?_
  simp only [kvC]
  repeat' (first|(apply R.is1;first|(apply R.isBin;(apply R.pure;exact rfl;first|(apply Ok1.neq_f;exact rfl;exact rfl;omega)|(apply Ok1.eqlP;(iterate 5 exact rfl))))|(apply R.isCall;(apply R.callE (vs:=[.agg ⟨[.int .i64 c.id,.int .i64 c.roles,.int .i64 c.exp,.int .i64 c.ser]⟩]);(iterate 3 exact rfl);exact Ext.none _;intro w1 hw1;exact hcb w1;rintro v Lo ⟨ov,hov,rfl,rfl⟩;rw [slV_eq hov];obtain ⟨b9,j9,k9,rfl⟩:=ovsome hov (by decide);simp only [blkL,List.cons_append,List.nil_append]))|(apply R.pure;exact rfl;first|(apply Ok1.move;exact rfl)|(apply Ok1.load;exact rfl;(apply Ld.ownk;exact rfl;exact rfl;(focus (repeat' first|exact At.head|apply At.tail);done);exact rfl))|(apply Ok1.assign;exact rfl)|(apply Ok1.extract;exact rfl;exact rfl))|(apply R.box;(iterate 3 exact rfl);intro)|(apply R.alloc;(iterate 3 exact rfl);intro))|apply R.nil|(apply T.is;first|apply T.seq|apply T.region|apply T.skip|(apply T.cond_f;exact rfl)))
  simp only [ovp,ovc]
  apply T.drawC (id:=6) [2] (by decide)
  (apply A.tk 0;exact rfl;kernel_rfl;(apply Ok1.load;exact rfl;(apply Ld.ownk;exact rfl;exact rfl;exact At.head;exact rfl)))
    <;> (apply A.tk 1;exact rfl;kernel_rfl;(apply Ok1.move;exact rfl))
    <;> (apply A.tk 2;exact rfl;kernel_rfl;(apply Ok1.move;exact rfl))
    <;> (apply A.one 3;kernel_rfl;exact rfl;(((apply R.buildSlice;(iterate 12 exact rfl);intro)));apply R.nil;refine ⟨?_,?_⟩;(focus (repeat' first|exact trivial|exact At.head|apply At.tail|refine ⟨?_,?_⟩)))
    <;> (apply A.one 4;kernel_rfl;exact rfl;(((apply R.callE (vs:=[.pointer (some ⟨bk,0,none⟩),.string sTok,.slice (some ⟨_,0,none⟩) 1 1]);(iterate 3 exact rfl);exact Ext.none _;intro w1 hw1;exact derive_ok bk k hkl hkb sTok (by rw [hst];decide) _ 1 1 [⟨some ⟨b9,0,none⟩,9+j9,cb⟩] rfl (by decide) (by intro x hx;cases List.mem_singleton.1 hx;exact hcy) (by rw [List.map_cons,List.map_nil,hfl];decide) (by intro x hx;cases List.mem_singleton.1 hx;rw [hcl];decide) w1 (hk.chg hw1.chg) (RdSl.of (junk:=[]) hw1 (by exact At.head) (by simp [fl,Pt.v,hcl])) (by intro x hx;cases List.mem_singleton.1 hx;exact RdSl.of (junk:=k9) hw1 (by (focus (repeat' first|exact At.head|apply At.tail);done)) (by rw [fl_u8]));rw [List.map_cons,List.map_nil,← hdd];rintro v Lo ⟨bk2,ov2,rfl,hov2,rfl⟩)));apply R.nil;refine ⟨?_,?_⟩;(focus (repeat' first|exact trivial|exact At.head|apply At.tail|apply At.right|refine ⟨?_,?_⟩)))
    <;> (apply A.one 5;kernel_rfl;exact rfl;(((apply R.callE (vs:=[.pointer (some ⟨bk2,0,none⟩)]);(iterate 3 exact rfl);exact Ext.none _;intro w1 hw1;exact bytes_ok bk2 d (by rw [hdl];decide) w1 (KeyR.of (by rw [hdl];exact hov2) hw1 (Ext.mem (by (focus ((repeat' (exact Ext.here _ _));done)))));rw [hdl];rintro v Lo ⟨ov3,hov3,rfl,rfl⟩;rw [slV_eq hov3];obtain ⟨b3,j3,k3,rfl⟩:=ovsome hov3 (by decide);simp only [ovp,ovc,blkL,List.cons_append,List.nil_append])));apply R.nil;refine ⟨?_,?_⟩;(focus (repeat' first|exact trivial|exact At.head|apply At.tail|apply At.right|refine ⟨?_,?_⟩)))
    <;> (apply A.tk 6;exact rfl;kernel_rfl;(apply Ok1.arrPtr;(iterate 3 exact rfl);omega))
    <;> (apply A.one 7;kernel_rfl;exact rfl;(((apply R.pure;exact rfl;(apply Ok1.load;exact rfl;apply Ld.ownk;exact rfl;exact rfl;exact At.head;exact subE_app _ _ hls))));apply R.nil;refine ⟨?_,?_⟩;(focus (repeat' first|exact trivial|exact At.head|apply At.tail|apply At.right|refine ⟨?_,?_⟩)))
    <;> (apply A.tk 8;exact rfl;kernel_rfl;(apply Ok1.build;(iterate 4 exact rfl);exact hfill _ _))
    <;> (apply A.one 9;kernel_rfl;exact rfl;(((apply R.store;(iterate 4 exact rfl);exact htl;exact hto;(focus (repeat' first|exact Upd.head|apply Upd.tail|apply Upd.right);done);exact setE_all htl)));apply R.nil;refine ⟨?_,?_⟩;(focus (repeat' first|exact trivial|exact At.head|apply At.tail|apply At.right|refine ⟨?_,?_⟩)))
    <;> (apply A.tk 10;exact rfl;kernel_rfl;(apply Ok1.assign;exact rfl))
    <;> (apply A.done;kernel_rfl)
  repeat' ((apply T.is;apply T.ret))
  all_goals apply RetOk.ct
  all_goals first|exact rfl|skip
  all_goals (apply Ld.ownk;exact rfl;exact rfl;(focus (repeat' first|exact At.head|apply At.tail|apply At.right);done);exact subE_all htl)
theorem RdSl.mid {w0 w:World} {S:List Nat} {L:Lst} {b:Nat} {e:TypeId} {fz:Nat × Nat} {pre junk:List Value} {xs:List Int} (hw:Hp w0 S L w) (hat:At L b (.cells ⟨pre++u8s xs++junk⟩ e fz)) {o:Nat} (ho:o=pre.length):RdSl w (some ⟨b,o,none⟩) u8V xs:=by
  subst ho
  right
  refine ⟨b,pre.length,rfl,fun k hk=>?_⟩
  have h1:=hw.get b _ hat.mem
  rw [fl_u8] at hk ⊢
  simp only [World.cell?,h1]
  simp only [List.append_assoc,List.getElem?_toArray]
  rw [List.getElem?_append_right (by omega),List.getElem?_append_left (by omega),Nat.add_sub_cancel_left]
  rfl
theorem key_ok (c:Cl) (s:List Int) (hs:s.length=32):∀ w,CallM Tryz.prog 118 [.agg ⟨tkC c s⟩] [] w fun v L=>∃ bk ov,v = .pointer (some ⟨bk,0,none⟩)∧OvOk 1 ov 32 (u8s s)∧L=KL bk ov s:=by
  intro w
  refine enterK (tb:=tb) Tryz.func118 rfl Tryz.ntmps118 rfl ?_
  have hls:(u8s s).length=32:=by rw [u8s_len,hs]
  have htl:(tkC c s).length=36:=by simp [tkC,clC,hls]
  repeat' (first|(apply R.is1;first|(apply R.isCall;(apply R.callE;(iterate 3 exact rfl);exact Ext.none _;intro w1 hw1;exact new_ok (some ⟨_,4,none⟩) 32 32 s hs.symm (by decide) w1 (RdSl.mid (pre:=clC c) (junk:=[]) hw1 (by rw [List.append_nil];exact At.head) rfl);rintro v Lo ⟨bk2,ov2,rfl,hov2,_,rfl⟩))|(apply R.pure;exact rfl;first|(apply Ok1.sliceArr;(iterate 4 exact rfl))|(apply Ok1.fieldAddr;(iterate 5 exact rfl))|(apply Ok1.assign;exact rfl))|(apply R.box;(iterate 3 exact rfl);intro))|apply R.nil|(apply T.is;first|apply T.seq|apply T.region|apply T.ret))
  (apply RetOk.t;exact rfl)
  rw [hs] at hov2
  refine ⟨_,?_,bk2,ov2,rfl,hov2,rfl⟩
  (focus (repeat' first|exact Ext.one _ _|exact Ext.here _ _|apply Keep.cons|apply Keep.last);done)
end Go.Proofs.YtolnagbahceebaaGreat
