/- Texts of the proof: Eng36, Cm10, Lcm. -/
import Derived.Test.YtolnagbahceebaaGreatL16mb5
set_option linter.unusedSimpArgs false
set_option linter.unusedVariables false
namespace Go.Proofs.YtolnagbahceebaaGreat
open Go.RowKit Go.Shelf
section
variable {X:Cx} {σ:Env} {L Lr:Lst} {d:Option Nat} {dd:Nat} {ty:TypeId} {pos:String} {af:Array Edge} {g:Option (Nat × Bool)} {x y:Operand} {t t2 e:TypeId} {r r2 re:TRow}
variable {all:Array Oper} {rest:List Oper} {K:Env→Lst→Prop} {p:Option Addr} {n cap i:Nat}
theorem growF_run {P:Program} (tb:Tb P) (ht:tb.row t=some r) (hk:r.k = .slice e) (he:tb.row e=some re) {zc:List Value} (hz:cellsE re.zero=some zc) (hzl:zc.length=re.size) (ht2:tb.row t2=some r2) {e2:Nat} (hk2:r2.k = .slice e2)
    {w0 w:World} {S:List Nat} {base:Option Addr} {s2:Value} {n m:Nat} {old news:List Value} (hw:Hp w0 S L w) (hold:Holds w (.slice base n n) old) (hlo:old.length=n * re.size) (hs2:Builtin.lenOf s2=Pure.pure m) (hn2:Holds w s2 news) (hlen:news.length=m * re.size) (hm:1≤m)
    (hbig:(2 * (n+m)+768) * re.bytes≤281474976710656) (hb1:1≤re.bytes) :
    ∃ b' j' junk' w',junk'.length=j' * re.size∧(Builtin.append_ #[t,t2] ty #[.slice base n n,s2]).run P w = .ok (.slice (some ⟨b',0,none⟩) (n+m) (n+m+j')) w' ∧ Hp w0 S ((b',.cells ⟨old++news++junk'⟩ e (0,0))::L) w':=by
  have hu:P.underlying t=some (.slice e):=by have:=(tb.get ht).is;rw [hk] at this;exact this
  have hu2:P.underlying t2=some (.slice e2):=by have:=(tb.get ht2).is;rw [hk2] at this;exact this
  have hbytes:∃ i,P.info? e=some i∧i.bytes=re.bytes:=by
    have:=(tb.get he).bytes
    cases h:P.info? e with
    | none=>rw [h] at this;cases this
    | some i=>rw [h] at this;exact ⟨i,rfl,by simpa using this⟩
  obtain ⟨i,hi,hib⟩:=hbytes
  have hti:∀ w,(typeInfo e).run P w = .ok i w:=fun w=>by simp [typeInfo,hi]
  have hzc:=cellsE_eq hz
  have hnx:=nextcap_le (n+m) n (by omega)
  have hnb:¬ Builtin.nextslicecap (n+m) n * re.bytes > 2 ^ 48:=by
    have:=Nat.mul_le_mul_right re.bytes hnx
    have:(2:Nat) ^ 48=281474976710656:=by decide
    omega
  have hold':Holds w.drew (.slice base n n) old:=hold
  have hnew':Holds w.drew s2 news:=hn2
  obtain ⟨q,hq⟩:∃ q,(Question.appendCap (n+m) n e).cut (w.tape w.drawn (.appendCap (n+m) n e))=n+m+q:=⟨_,rfl⟩
  refine ⟨w.heap.size,q,(Builtin.zeroCells (zeroCellsOf re) q).toList,w.drew.alloc (.cells ⟨old++news++(Builtin.zeroCells (zeroCellsOf re) q).toList⟩ e (0,0)),?_,?_,?_⟩
  · simp [zeroCells_size,zeroCellsOf,hzc,hzl]
  · have harr:(Array.mk old++Array.mk news++Builtin.zeroCells re.zero.cells (n+m+q - (n+m)):Array Value)=⟨old++news++(Builtin.zeroCells (zeroCellsOf re) q).toList⟩:=by
      apply Array.toList_inj.1
      simp [zeroCellsOf]
    have hf1:=first_run (P:=P) hold' hlo
    have hf2:=first_run (P:=P) hnew' hlen
    unfold Builtin.append_
    simp only [List.getElem?_toArray,List.getElem?_cons_zero,List.getElem?_cons_succ,Sem.run_bind,run_underlying hu,run_underlying hu2,Result.andThen_ok,(tb.get he).size,Sem.run_pure,Bool.false_eq_true,if_false,hs2,Bool.not_false,if_true,
      show ¬ n+m≤n by omega,hti,hib,Sem.run_ite,show ¬ re.bytes=0 by omega,or_false,and_false,false_or,hnb,run_choose,Question.forced,hq,run_askRoom,World.drew_eq,hf1,hf2,(tb.get he).zero,newRow,run_newObj,harr]
    rfl
  · exact (hw.step (Chg.drew [] w)).alloc _
theorem R.appendFull {α:Type} {v:α→List Value} {xs ys:List α} {sz:Nat} {base p:Option Addr} {n m cap2 e2:Nat} {zc:List Value} (hn:Nat.blt dd X.n=true) (ht:X.tb.row t=some r) (hk:r.k = .slice e) (he:X.tb.row e=some re) (hz:cellsE re.zero=some zc) (hzl:zc.length=re.size) (ht2:X.tb.row t2=some r2) (hk2:r2.k = .slice e2) (hb1:Nat.ble 1 re.bytes=true) (hb2:Nat.ble re.bytes 65536=true)
    (hx:ev σ x=some (.slice base n n)) (hy:ev σ y=some (.slice p m cap2)) (hxs:n=xs.length) (hm:m=ys.length) (hx0:xs≠[]) (hy0:ys≠[]) (hv:∀ a,(v a).length=sz) (hs:re.size=sz) (hho:∀ w,Hp X.w0 X.S L w→RdSl w base v xs) (hh:∀ w,Hp X.w0 X.S L w→RdSl w p v ys) (hbig:n+m≤1073741824)
    (h:∀ ov',OvOk re.size ov' (n+m) (fl v xs++fl v ys)→R X all rest K ((dd,slV ov' (n+m))::σ) (blkL e ov' (fl v xs++fl v ys)++L)) :
    R X all (⟨some dd,.call { callee:=.builtin .append,args:=#[x,y],argTypes:=#[t,t2] },ty,pos,af,none⟩::rest) K σ L:=by
  refine R.value rfl rfl hn fun a w ha hw=>?_
  have h3:=Nat.le_of_ble_eq_true hb2
  have hbig':(2 * (n+m)+768) * re.bytes≤281474976710656:=by
    have:=Nat.mul_le_mul (show 2 * (n+m)+768≤2147484416 by omega) h3
    omega
  have hlo:(fl v xs).length=n * re.size:=by rw [fl_len hv,hs,hxs]
  have hlen:(fl v ys).length=m * re.size:=by rw [fl_len hv,hs,hm]
  have hm1:1≤m:=by rw [hm];exact List.length_pos_iff.2 hy0
  obtain ⟨b',j',junk',w',g1,g2,g3⟩:=growF_run (base:=base) (n:=n) X.tb (ty:=ty) ht hk he hz hzl ht2 hk2 hw ((hho w hw).holds hx0) hlo (s2:=.slice p m cap2) rfl ((hh w hw).holds hy0) hlen hm1 hbig' (Nat.le_of_ble_eq_true hb1)
  refine ⟨slV (some (b',j',junk')) (n+m),w',_,?_,?_,h (some (b',j',junk')) ⟨by rw [List.length_append,hlo,hlen,Nat.add_mul],g1⟩⟩
  · simp only [execOp,resolve,ha.ev hx,ha.ev hy,invoke,builtin]
    simp [ha.ev hx,ha.ev hy,g2,slV]
  · exact g3
theorem Ok1.preRF {hi:Operand} {p:Option Addr} {n cap i:Nat} {m:Int} {d:Option Nat} {g:Option (Nat × Bool)} (ht:X.tb.row t=some r) (hk:r.k = .slice e) (he:X.tb.row e=some re) (hx:ev σ x=some (.slice p n cap)) (hh:ev σ hi=some (.int .i64 m)) (hm:m=(i:Int)) (h1:i≤cap) :
    Ok1 X ⟨d,.slice t x none (some hi) none,ty,pos,af,g⟩ σ L (.slice p i cap):=by
  subst hm;exact Ok1.preR ht hk he hx hh h1
end
set_option maxRecDepth 100000
/-- A channel's places. -/
structure Cn where
  bc:Nat
  bn:Nat
  br:Nat
  bb:Nat
  bd:Nat
  bm:Nat
  m1:Nat
  m2:Nat
  sd:List Value
def Cn.L (x:Cn) (K:List Int) (i:Nat):Lst:=ChL x.bc x.bn x.br x.bb x.bd x.bm x.m1 x.m2 (cli i) (secretI K (cli i)) 1 x.sd (drpC (List.replicate 16 0))
def CnsL (K:List Int):Nat→List Cn→Lst
  | _,[]=>[]
  | i,x::r=>x.L K i++CnsL K (i+1) r
theorem CnsL_snoc (K:List Int) (x:Cn):∀ (l:List Cn) (i:Nat),CnsL K i (l++[x])=CnsL K i l++x.L K (i+l.length)
  | [],i=>by simp [CnsL]
  | y::r,i=>by simp only [List.cons_append,CnsL,CnsL_snoc K x r,List.length_cons,List.append_assoc,show i+1+r.length=i+(r.length+1) by omega]
def chA (l:List Cn):List Value:=l.map (fun x=>.pointer (some ⟨x.bc,0,none⟩))++List.replicate (3 - l.length) (.pointer none)
theorem chA_len {l:List Cn} (h:l.length≤3):(chA l).length=3:=by rw [chA,List.length_append,List.length_map,List.length_replicate];omega
theorem chA_set {l:List Cn} (h:l.length < 3) (x:Cn):setE (chA l) (0+l.length * 1) [.pointer (some ⟨x.bc,0,none⟩)]=some (chA (l++[x])):=by
  rw [setE_one (by rw [chA_len (by omega)];omega),Nat.zero_add,Nat.mul_one,chA,chA]
  rw [List.set_append_right _ _ (by rw [List.length_map];exact Nat.le_refl _),List.length_map,Nat.sub_self,show 3 - l.length=(3 - (l++[x]).length)+1 by rw [List.length_append];simp;omega,List.replicate_succ,List.set_cons_zero,List.map_append,List.append_assoc]
  rfl
theorem chMeets_ok (pm:Option Addr) (cm:Nat) (ms:List Int) (pl:Option Addr) (cl:Nat) (ls:List LT) (po:Option Addr) (co:Nat) (os:List Int) (w:World) (hm:RdSl w pm u8V ms) (hmb:Byt ms) (hmc:ms.length≤cm) (hl:RdSl w pl LT.v ls) (hlo:∀ x∈ls,x.okR w) (ho:RdSl w po iV os) :
    CallW Tryz.prog 6 [.slice pm ms.length cm,.slice pl ls.length cl,.slice po os.length co] w fun v _=>v = .bool true:=by
  have hkb:Byt kch:=by intro x hx;simp only [kch,List.mem_cons,List.not_mem_nil,or_false] at hx;omega
  have hkl:kch.length=16:=rfl
  have hcell:u8s kch++[]=[.int .u8 48,.int .u8 49,.int .u8 50,.int .u8 51,.int .u8 52,.int .u8 53,.int .u8 54,.int .u8 55,.int .u8 56,.int .u8 57,.int .u8 97,.int .u8 98,.int .u8 99,.int .u8 100,.int .u8 101,.int .u8 102]:=rfl
  obtain ⟨ys,hys⟩:∃ y,y=ms.take 40:=⟨_,rfl⟩
  have hyl:ys.length=min ms.length 40:=by rw [hys,List.length_take];omega
  have hyr:RdSl w pm u8V ys:=by rw [hys];exact hm.pre u8V_len 40
  have hyb:Byt ys:=by rw [hys];exact hmb.take 40
  have hmin:(min (ms.length:Int) 40)=((ys.length:Nat):Int):=by omega
  clear hys
  obtain ⟨K,hK⟩:∃ K,K=kch++ys:=⟨_,rfl⟩
  have hKl:K.length=16+ys.length:=by rw [hK,List.length_append,hkl]
  have hKb:Byt K:=by rw [hK];exact hkb.app hyb
  refine enterW (tb:=tb) Tryz.func6 rfl Tryz.ntmps6 rfl ?_
  repeat' (first|(apply R.is1;(apply R.pure;exact rfl;(apply Ok1.assign;exact rfl)))|apply R.nil|(apply T.is;first|(apply T.stop1 1)|apply T.seq|apply T.region))
  refine ⟨?_⟩
  refine T.meetK (α:=Nat × Ov) (I:=fun y=>OvOk 1 y.2 K.length (u8s K)) (σi:=fun y=>[(0,.slice pm ms.length cm),(1,.slice pl ls.length cl),(2,.slice po os.length co),(7,.pointer (some ⟨y.1,0,none⟩))]) (Li:=fun y=>KL y.1 y.2 K) ?_ ?_
  · by_cases hy0:ys=[]
    · have hK0:K=kch:=by rw [hK,hy0,List.append_nil]
      have hy00:ys.length=0:=by rw [hy0];rfl
      have hmin0:min (ms.length:Int) 40=((0:Nat):Int):=by omega
      repeat' (first|(apply R.is1;first|(apply R.convSame;(iterate 6 exact rfl);exact Upd.head)|(apply R.isCall;first|(apply R.append0 (ov:=some (_,0,[])) (n:=16);(iterate 8 exact rfl);(intro h;cases h))|(apply R.callE (vs:=[.slice (some ⟨_,0,none⟩) 16 16]);(iterate 3 exact rfl);exact Ext.none _;intro w1 hw1;exact new_ok (some ⟨_,0,none⟩) 16 16 kch hkl.symm (by decide) w1 (RdSl.of (junk:=[]) hw1 (by exact At.head) (by rw [fl_u8];exact hcell.symm));rintro v Lo ⟨bk,ov,rfl,hov,_,rfl⟩)|(apply R.pure;exact rfl;first|(apply Ok1.lenS;(iterate 3 exact rfl))|(apply Ok1.min2;exact rfl;exact rfl)))|(apply R.pure;exact rfl;first|(apply Ok1.preRF (i:=0);(iterate 5 exact rfl);exact hmin0;exact Nat.zero_le _)|(apply Ok1.move;exact rfl)|(apply Ok1.assign;exact rfl))|(apply R.buildSlice;(iterate 12 exact rfl);intro))|apply R.nil|(apply T.is;apply T.region))
      rw [← hK0] at hov
      refine ⟨(bk,ov),hov,⟨rfl,rfl,rfl,rfl,trivial⟩,?_⟩
      rw [← hK0]
      simp only
      generalize KL bk ov K=KK
      (focus (repeat' first|exact Ext.here _ _|apply Keep.last);done)
    · repeat' (first|(apply R.is1;first|(apply R.convSame;(iterate 6 exact rfl);exact Upd.head)|(apply R.isCall;first|(apply R.appendFull (v:=u8V) (xs:=kch) (ys:=ys);(iterate 12 exact rfl);exact hkl.symm;exact rfl;exact (by decide);exact hy0;exact u8V_len;exact rfl;(intro w1 hw1;exact RdSl.of (junk:=[]) hw1 (by exact At.head) (by rw [fl_u8];exact hcell.symm));(intro w1 hw1;exact hyr.chg hw1.chg (Off.nil _));omega;intro ovk hovk;(have hfk:fl u8V kch++fl u8V ys=u8s K:=by rw [fl_u8,fl_u8,hK,u8s,u8s,u8s,List.map_append]);rw [hfk,← hKl] at hovk;rw [hfk,← hKl,slV_eq hovk])|(apply R.callE (vs:=[.slice (ovp ovk) K.length (ovc ovk K.length)]);(iterate 3 exact rfl);exact Ext.none _;intro w1 hw1;exact new_ok (ovp ovk) K.length (ovc ovk K.length) K rfl (by omega) w1 (rdown hovk hw1 (Ext.mem (by (focus ((repeat' (exact Ext.here _ _));done)))));rintro v Lo ⟨bk,ov,rfl,hov,_,rfl⟩)|(apply R.pure;exact rfl;first|(apply Ok1.lenS;(iterate 3 exact rfl))|(apply Ok1.min2;exact rfl;exact rfl)))|(apply R.pure;exact rfl;first|(apply Ok1.preRF (i:=ys.length);(iterate 5 exact rfl);exact hmin;omega)|(apply Ok1.move;exact rfl)|(apply Ok1.assign;exact rfl))|(apply R.buildSlice;(iterate 12 exact rfl);intro))|apply R.nil|(apply T.is;apply T.region))
      refine ⟨(bk,ov),hov,⟨rfl,rfl,rfl,rfl,trivial⟩,?_⟩
      simp only
      generalize KL bk ov K=KK
      (focus (repeat' first|exact Ext.here _ _|apply Keep.last);done)
  · rintro ⟨bk,ovk⟩ hovk
    simp only at hovk ⊢
    have hkr:∀ {w0 w:World} {S:List Nat} {L:Lst},Hp w0 S L w→(∀ z∈KL bk ovk K,z∈L)→KeyR w bk K:=fun h1 h2=>KeyR.of hovk h1 h2
    generalize KL bk ovk K=KK at hkr ⊢
    repeat' (first|(apply R.is1;first|(apply R.pure;exact rfl;(apply Ok1.assign;exact rfl))|(apply R.alloc;(iterate 3 exact rfl);intro))|apply R.nil|(apply T.is;first|apply T.seq|apply T.region|apply T.block))
    rename_i b8
    apply T.loopK (α:=List Cn) (I:=fun l=>l.length≤3) (σi:=fun l=>[(0,.slice pm ms.length cm),(1,.slice pl ls.length cl),(2,.slice po os.length co),(7,.pointer (some ⟨bk,0,none⟩)),(8,.pointer (some ⟨b8,0,none⟩)),(9,.int .i64 l.length)]) (Li:=fun l=>(b8,.cells ⟨chA l⟩ 95 (0,0))::(KK++CnsL K 0 l)) (μ:=fun l=>3 - l.length) (i0:=[])
    · exact Nat.zero_le _
    · exact ⟨rfl,rfl,rfl,rfl,rfl,rfl,trivial⟩
    · simp only [CnsL,List.append_nil]
      (focus (repeat' first|exact Ext.one _ _|exact Ext.all _|apply Keep.cons|apply Keep.last);done)
    · intro l hl3
      by_cases hlt:l.length < 3
      · have hr:=cli_right hlt
        have hmk:=fun w1 h=>make_ok (cli l.length) hr bk K (by omega) hKb w1 h
        have hsl:=secret_len K (cli l.length)
        have hnw:=fun w1=>chnew2_ok (cli l.length) hr (secretI K (cli l.length)) hsl 1 (by unfold NR;omega) w1
        have htl:=tk_len (c:=cli l.length) hsl
        have hto:=tk_one (cli l.length) (secretI K (cli l.length))
        have hst:=fun x=>chA_set hlt x
        have hcl:=chA_len hl3
        have hsn:=fun x=>CnsL_snoc K x l 0
        simp only [Cn.L,Nat.zero_add] at hsn
        have hkv:kvC (cli l.length) = .agg ⟨[.int .i64 (5+(l.length:Int)),.int .i64 0,.int .i64 100,.int .i64 (1+(l.length:Int))]⟩:=rfl
        rw [hkv] at hmk
        generalize CnsL K 0 l=CC at *
        generalize secretI K (cli l.length)=D at *
        repeat' (first|(apply R.is1;first|(apply R.isBin;(apply R.pure;exact rfl;first|(apply Ok1.add64;exact rfl;exact rfl;omega;omega)|(apply Ok1.lss_t;exact rfl;exact rfl;omega)|(apply Ok1.neq_f;exact rfl;exact rfl;omega)))|(apply R.isCall;first|(apply R.callV (vs:=[.pointer (some ⟨bk,0,none⟩),.agg _]);(iterate 3 exact rfl);intro w1 hw1;exact hmk w1 (hkr hw1 (Ext.mem (by (focus (repeat' first|exact Ext.here _ _|apply Ext.cons);done)))))|(apply R.callE (vs:=[.agg ⟨tkC (cli l.length) D⟩,.int .i64 1]);(iterate 3 exact rfl);exact Ext.none _;intro w1 hw1;exact hnw w1;rintro v Lo ⟨bc,bn,br,bb,bd,bm,m1,m2,sd,rfl,rfl⟩;generalize hC9:ChL bc bn br bb bd bm m1 m2 (cli l.length) D 1 sd (drpC (List.replicate 16 0))=C9))|(apply R.pure;exact rfl;first|(apply Ok1.indexAddrA;(iterate 5 exact rfl);omega;omega)|(apply Ok1.load;exact rfl;(apply Ld.ownk;exact rfl;exact rfl;exact At.head;exact subE_all htl))|(apply Ok1.move;exact rfl)|(apply Ok1.assign;exact rfl)|(apply Ok1.build;(iterate 5 exact rfl))|(apply Ok1.extract;exact rfl;exact rfl)|(apply Ok1.pick_f;exact rfl;exact rfl))|(apply R.alloc;(iterate 3 exact rfl);intro))|(apply R.is0;first|(apply R.store;(iterate 4 exact rfl);exact htl;exact hto;exact Upd.head;exact setE_all htl)|(apply R.store;(iterate 6 exact rfl);(focus (repeat' first|exact Upd.head|apply Upd.tail|apply Upd.right);done);exact hst ⟨bc,bn,br,bb,bd,bm,m1,m2,sd⟩))|(apply R.isG;(apply R.guard_run;exact rfl;exact rfl))|apply R.nil|(apply T.is;first|apply T.seq|apply T.region|apply T.block|apply T.skip|(apply T.cond_t;exact rfl)|(apply T.cond_f;exact rfl)))
        all_goals skip
        refine ⟨l++[⟨bc,bn,br,bb,bd,bm,m1,m2,sd⟩],by rw [List.length_append];exact hlt,by rw [List.length_append];simp only [List.length_singleton];omega,?_,?_⟩
        · simp only [List.length_append]
          exact ⟨rfl,rfl,rfl,rfl,rfl,rfl,trivial⟩
        · rw [hsn,hC9]
          (focus (repeat' first|exact Ext.one _ _|exact Ext.here _ _|exact Ext.all _|apply Keep.cons|apply Keep.app|apply Keep.last|apply Ext.cons|apply Ext.app);done)
      · have hl9:l.length=3:=by omega
        match l,hl9 with
        | [x0,x1,x2],_ =>
        obtain ⟨bc0,bn0,br0,bb0,bd0,bm0,p0,q0,sd0⟩:=x0
        obtain ⟨bc1,bn1,br1,bb1,bd1,bm1,p1,q1,sd1⟩:=x1
        obtain ⟨bc2,bn2,br2,bb2,bd2,bm2,p2,q2,sd2⟩:=x2
        have h0l:=secret_len K (cli 0)
        have h1l:=secret_len K (cli 1)
        have h2l:=secret_len K (cli 2)
        have hz9:drpC (List.replicate 16 0)=drpC (List.replicate 16 0):=rfl
        simp only [CnsL,Cn.L,List.append_nil,ChL,RL0,List.cons_append,List.nil_append]
        have hri:=fun w1 h=>chring_ok bc0 bn0 br0 bb0 bd0 sd0 232 (0,0) w1 h
        have hrw:=fun w1 h=>rown_ok br0 (cli 0) (secretI K (cli 0)) h0l p0 q0 236 w1 h
        have htc:=tk_cl (cli 0) (secretI K (cli 0))
        refine T.weakK (σ':=[(0,.slice pm ms.length cm),(1,.slice pl ls.length cl),(2,.slice po os.length co),(7,.pointer (some ⟨bk,0,none⟩)),(8,.pointer (some ⟨b8,0,none⟩)),(9,.int .i64 3)]) (L':=(b8,.cells ⟨[.pointer (some ⟨bc0,0,none⟩),.pointer (some ⟨bc1,0,none⟩),.pointer (some ⟨bc2,0,none⟩)]⟩ 95 (0,0))::(bc0,.cells ⟨chC bn0 br0 bb0 bd0 sd0⟩ 232 (0,0))::(bc1,.cells ⟨chC bn1 br1 bb1 bd1 sd1⟩ 232 (0,0))::(bc2,.cells ⟨chC bn2 br2 bb2 bd2 sd2⟩ 232 (0,0))::(br0,.cells ⟨ringC (cli 0) (secretI K (cli 0)) p0 q0⟩ 236 (0,0))::(br1,.cells ⟨ringC (cli 1) (secretI K (cli 1)) p1 q1⟩ 236 (0,0))::(br2,.cells ⟨ringC (cli 2) (secretI K (cli 2)) p2 q2⟩ 236 (0,0))::(bn0,.cells ⟨[.int .i64 1,.int .i64 0]⟩ 324 (0,0))::(DrpL bd0 (List.replicate 16 0)++(DrpL bd1 (List.replicate 16 0)++(DrpL bd2 (List.replicate 16 0)++(BL bb1 bm1 [] 0++(BL bb2 bm2 [] 0++KK)))))) ?_ ?_ ⟨rfl,rfl,rfl,rfl,rfl,rfl,trivial⟩
        rotate_left 1
        · simp only [DrpL,List.cons_append,List.nil_append,chA,List.map_cons,List.map_nil]
          generalize BL bb0 bm0 [] 0=B0
          generalize BL bb1 bm1 [] 0=B1'
          generalize BL bb2 bm2 [] 0=B2
          (focus (repeat' first|exact Ext.one _ _|exact Ext.here _ _|exact Ext.all _|apply Keep.cons|apply Keep.app|apply Keep.last|apply Ext.cons|apply Ext.app);done)
        · have hdr:∀ b,DrpL b (List.replicate 16 0)=[(b,.cells ⟨drpC (List.replicate 16 0)⟩ 326 (0,0))]:=fun b=>rfl
          have hcz:clC (cli 0)=[.int .i64 5,.int .i64 0,.int .i64 100,.int .i64 1]:=rfl
          rw [hcz] at htc
          generalize hD0:DrpL bd0 (List.replicate 16 0)=D0
          generalize hD1:DrpL bd1 (List.replicate 16 0)=D1
          generalize hD2:DrpL bd2 (List.replicate 16 0)=D2
          generalize hB1:BL bb1 bm1 [] 0=B1E
          generalize hB2:BL bb2 bm2 [] 0=B2E
          repeat' (first|(apply R.is1;first|(apply R.isBin;(apply R.pure;exact rfl;(apply Ok1.lss_f;exact rfl;exact rfl;omega)))|(apply R.isCall;first|(apply R.callV (vs:=[.pointer (some ⟨bc0,0,none⟩)]);(iterate 3 exact rfl);intro w1 hw1;exact hri w1 (hw1.get _ _ (At.mem (by (focus (repeat' first|exact At.head|apply At.tail);done)))))|(apply R.callE (vs:=[.pointer (some ⟨br0,0,none⟩)]);(iterate 3 exact rfl);exact Ext.none _;intro w1 hw1;exact hrw w1 (hw1.get _ _ (At.mem (by (focus (repeat' first|exact At.head|apply At.tail);done))));rintro v Lo ⟨rfl,rfl⟩;rw [List.nil_append]))|(apply R.pure;exact rfl;first|(apply Ok1.indexAddrA;(iterate 5 exact rfl);omega;omega)|(apply Ok1.load;exact rfl;(apply Ld.own1;exact rfl;exact rfl;exact At.head;exact rfl))|(apply Ok1.fieldk;(iterate 6 exact rfl);exact htc)|(apply Ok1.move;exact rfl))|(apply R.alloc;(iterate 3 exact rfl);intro))|(apply R.is0;(apply R.store;(iterate 6 exact rfl);exact Upd.head;exact rfl))|apply R.nil|(apply T.is;first|(apply T.stop 12)|apply T.seq|apply T.region|apply T.exit|(apply T.cond_f;exact rfl)))
          refine ⟨?_⟩
          rename_i b14
          refine T.meetK (α:=Nat × Nat × Ov) (I:=fun y=>OvOk 1 y.2.2 (senderI (secretI K (cli 0)) 6).length (u8s (senderI (secretI K (cli 0)) 6))) (σi:=fun y=>[(0,.slice pm ms.length cm),(1,.slice pl ls.length cl),(2,.slice po os.length co),(8,.pointer (some ⟨b8,0,none⟩)),(14,.pointer (some ⟨b14,0,none⟩))]) (Li:=fun y=>(b8,.cells ⟨[.pointer (some ⟨bc0,0,none⟩),.pointer (some ⟨bc1,0,none⟩),.pointer (some ⟨bc2,0,none⟩)]⟩ 95 (0,0))::(b14,.cells ⟨[.int .i64 5,.int .i64 0,.int .i64 100,.int .i64 1]⟩ 97 (0,0))::(bc0,.cells ⟨chC bn0 br0 bb0 bd0 sd0⟩ 232 (0,0))::(bc1,.cells ⟨chC bn1 br1 bb1 bd1 sd1⟩ 232 (0,0))::(bc2,.cells ⟨chC bn2 br2 bb2 bd2 sd2⟩ 232 (0,0))::(br0,.cells ⟨ringC (cli 0) (secretI K (cli 0)) p0 q0⟩ 236 (0,0))::(br1,.cells ⟨ringC (cli 1) (secretI K (cli 1)) p1 q1⟩ 236 (0,0))::(br2,.cells ⟨ringC (cli 2) (secretI K (cli 2)) p2 q2⟩ 236 (0,0))::(bn0,.cells ⟨[.int .i64 1,.int .i64 0]⟩ 324 (0,0))::(D0++(D1++(D2++(B1 bb1 bm1 y.1 (cli 0) ⟨0,0,0,some ⟨y.2.1,0,none⟩,0⟩++KL y.2.1 y.2.2 (senderI (secretI K (cli 0)) 6)))))) ?_ ?_
          · have hg6:=fun w1 h=>grant_ok bk K (by omega) hKb (cli 0) (cli_right (by decide)) 6 (by decide) (by decide) w1 h
            have hgl:(senderI (secretI K (cli 0)) 6).length=32:=derive_len _ _ _
            have hw0:wante [] (cli 0)=0:=rfl
            have hwa:∀ b bm w1,CallM Tryz.prog 41 [.pointer (some ⟨b,0,none⟩),kvC (cli 0),.int .i64 0] (BL b bm [] 0) w1 fun v L=>v = .int .i64 0∧∃ blk,L=B1 b bm blk (cli 0) ⟨0,0,0,none,0⟩:=fun b bm w1=>(Want_ok b bm [] 0 (cli 0) 0 w1).imp (by
              rintro v L ⟨rfl,(⟨h,_⟩|⟨_,blk,rfl⟩)⟩
              · exact absurd hw0 h
              · exact ⟨by rw [hw0],blk,rfl⟩)
            have hw1':=fun w1=>hwa bb1 bm1 w1
            have hw2':=fun w1=>hwa bb2 bm2 w1
            rw [hB1] at hw1'
            rw [hB2] at hw2'
            have hbo1:=fun w1 h=>chbook_ok bc1 bn1 br1 bb1 bd1 sd1 232 (0,0) w1 h
            have hbo2:=fun w1 h=>chbook_ok bc2 bn2 br2 bb2 bd2 sd2 232 (0,0) w1 h
            obtain ⟨GS,hGS⟩:∃ GS,GS=senderI (secretI K (cli 0)) 6:=⟨_,rfl⟩
            have hpu:∀ b bm blk kb ovg,OvOk 1 ovg GS.length (u8s GS)→∀ w1 {S L Lr},Hp w S L w1→Ext L (B1 b bm blk (cli 0) ⟨0,0,0,none,0⟩) Lr→(∀ z∈KL kb ovg GS,z∈Lr)→CallM Tryz.prog 42 [.pointer (some ⟨b,0,none⟩),kvC (cli 0),.pointer (some ⟨kb,0,none⟩)] (B1 b bm blk (cli 0) ⟨0,0,0,none,0⟩) w1 fun v L=>v = .int .i64 0∧∃ bk2 ov2,OvOk 1 ov2 GS.length (u8s GS)∧L=KL bk2 ov2 GS++B1 b bm blk (cli 0) ⟨0,0,0,some ⟨bk2,0,none⟩,0⟩:=fun b bm blk kb ovg hov w1 S L Lr h1 h2 h3=>bput_ok b bm blk (cli 0) ⟨0,0,0,none,0⟩ rfl kb GS (by rw [hGS,hgl];decide) w1 (KeyR.stay hov h1 h2 h3)
            have hkv:kvC (cli 0) = .agg ⟨[.int .i64 5,.int .i64 0,.int .i64 100,.int .i64 1]⟩:=rfl
            rw [← hgl,← hGS] at hg6
            rw [← hGS]
            rw [hkv] at hg6 hw1' hw2' hpu
            refine T.weakK (σ':=[(0,.slice pm ms.length cm),(1,.slice pl ls.length cl),(2,.slice po os.length co),(7,.pointer (some ⟨bk,0,none⟩)),(8,.pointer (some ⟨b8,0,none⟩)),(14,.pointer (some ⟨b14,0,none⟩))]) (L':=(b8,.cells ⟨[.pointer (some ⟨bc0,0,none⟩),.pointer (some ⟨bc1,0,none⟩),.pointer (some ⟨bc2,0,none⟩)]⟩ 95 (0,0))::(b14,.cells ⟨[.int .i64 5,.int .i64 0,.int .i64 100,.int .i64 1]⟩ 97 (0,0))::(bc0,.cells ⟨chC bn0 br0 bb0 bd0 sd0⟩ 232 (0,0))::(bc1,.cells ⟨chC bn1 br1 bb1 bd1 sd1⟩ 232 (0,0))::(bc2,.cells ⟨chC bn2 br2 bb2 bd2 sd2⟩ 232 (0,0))::(br0,.cells ⟨ringC (cli 0) (secretI K (cli 0)) p0 q0⟩ 236 (0,0))::(br1,.cells ⟨ringC (cli 1) (secretI K (cli 1)) p1 q1⟩ 236 (0,0))::(br2,.cells ⟨ringC (cli 2) (secretI K (cli 2)) p2 q2⟩ 236 (0,0))::(bn0,.cells ⟨[.int .i64 1,.int .i64 0]⟩ 324 (0,0))::(D0++(D1++(D2++(B1E++(B2E++KK)))))) ?_ (by (focus (repeat' first|exact Ext.one _ _|exact Ext.here _ _|exact Ext.all _|apply Keep.cons|apply Keep.app|apply Keep.last|apply Ext.cons);done)) ⟨rfl,rfl,rfl,rfl,rfl,rfl,trivial⟩
            repeat' (first|(apply R.is1;first|(apply R.isBin;(apply R.pure;exact rfl;(apply Ok1.lss_t;exact rfl;exact rfl;omega)))|(apply R.isCall;(apply R.callE (vs:=[.pointer (some ⟨bk,0,none⟩),.agg ⟨_⟩,.int .i64 6]);(iterate 3 exact rfl);exact Ext.none _;intro w1 hw1;exact hg6 w1 (hkr hw1 (Ext.mem (by (focus (repeat' first|exact Ext.all _|apply Ext.cons|apply Ext.app);done))));rintro v Lo ⟨kb1,ovg1,rfl,hovg1,rfl⟩))|(apply R.pure;exact rfl;first|(apply Ok1.load;exact rfl;(apply Ld.ownk;exact rfl;exact rfl;(focus (repeat' first|exact At.head|apply At.tail);done);exact rfl))|(apply Ok1.move;exact rfl)|(apply Ok1.assign;exact rfl)|(apply Ok1.extract;exact rfl;exact rfl)))|apply R.nil|(apply T.is;first|apply T.rounds 3|(apply T.stop1 16)|apply T.seq|apply T.region|apply T.block|apply T.skip|(apply T.cond_t;exact rfl)))
            refine ⟨?_⟩
            obtain ⟨KG1,hKG1,hk1⟩:∃ KG1,KL kb1 ovg1 GS=KG1∧∀ z∈KL kb1 ovg1 GS,z∈KG1:=⟨_,rfl,fun z h=>h⟩
            rw [hKG1]
            refine T.weakK (σ':=[(0,.slice pm ms.length cm),(1,.slice pl ls.length cl),(2,.slice po os.length co),(7,.pointer (some ⟨bk,0,none⟩)),(8,.pointer (some ⟨b8,0,none⟩)),(14,.pointer (some ⟨b14,0,none⟩)),(15,.int .i64 1),(16,.pointer (some ⟨kb1,0,none⟩)),(17,.int .i64 0)]) (L':=(b8,.cells ⟨[.pointer (some ⟨bc0,0,none⟩),.pointer (some ⟨bc1,0,none⟩),.pointer (some ⟨bc2,0,none⟩)]⟩ 95 (0,0))::(b14,.cells ⟨[.int .i64 5,.int .i64 0,.int .i64 100,.int .i64 1]⟩ 97 (0,0))::(bc0,.cells ⟨chC bn0 br0 bb0 bd0 sd0⟩ 232 (0,0))::(bc1,.cells ⟨chC bn1 br1 bb1 bd1 sd1⟩ 232 (0,0))::(bc2,.cells ⟨chC bn2 br2 bb2 bd2 sd2⟩ 232 (0,0))::(br0,.cells ⟨ringC (cli 0) (secretI K (cli 0)) p0 q0⟩ 236 (0,0))::(br1,.cells ⟨ringC (cli 1) (secretI K (cli 1)) p1 q1⟩ 236 (0,0))::(br2,.cells ⟨ringC (cli 2) (secretI K (cli 2)) p2 q2⟩ 236 (0,0))::(bn0,.cells ⟨[.int .i64 1,.int .i64 0]⟩ 324 (0,0))::(D0++(D1++(D2++(B1E++(B2E++(KG1++KK))))))) ?_ (by (focus (repeat' first|exact Ext.one _ _|exact Ext.here _ _|exact Ext.all _|apply Keep.cons|apply Keep.app|apply Keep.last|apply Ext.app);done)) ⟨rfl,rfl,rfl,rfl,rfl,rfl,rfl,rfl,rfl,trivial⟩
            refine T.meetK (α:=Nat × Nat × Ov) (I:=fun y=>OvOk 1 y.2.2 GS.length (u8s GS)) (σi:=fun y=>[(0,.slice pm ms.length cm),(1,.slice pl ls.length cl),(2,.slice po os.length co),(7,.pointer (some ⟨bk,0,none⟩)),(8,.pointer (some ⟨b8,0,none⟩)),(14,.pointer (some ⟨b14,0,none⟩)),(15,.int .i64 1),(108,.bool false)]) (Li:=fun y=>(b8,.cells ⟨[.pointer (some ⟨bc0,0,none⟩),.pointer (some ⟨bc1,0,none⟩),.pointer (some ⟨bc2,0,none⟩)]⟩ 95 (0,0))::(b14,.cells ⟨[.int .i64 5,.int .i64 0,.int .i64 100,.int .i64 1]⟩ 97 (0,0))::(bc0,.cells ⟨chC bn0 br0 bb0 bd0 sd0⟩ 232 (0,0))::(bc1,.cells ⟨chC bn1 br1 bb1 bd1 sd1⟩ 232 (0,0))::(bc2,.cells ⟨chC bn2 br2 bb2 bd2 sd2⟩ 232 (0,0))::(br0,.cells ⟨ringC (cli 0) (secretI K (cli 0)) p0 q0⟩ 236 (0,0))::(br1,.cells ⟨ringC (cli 1) (secretI K (cli 1)) p1 q1⟩ 236 (0,0))::(br2,.cells ⟨ringC (cli 2) (secretI K (cli 2)) p2 q2⟩ 236 (0,0))::(bn0,.cells ⟨[.int .i64 1,.int .i64 0]⟩ 324 (0,0))::(D0++(D1++(D2++(B1 bb1 bm1 y.1 (cli 0) ⟨0,0,0,some ⟨y.2.1,0,none⟩,0⟩++(KL y.2.1 y.2.2 GS++(B2E++KK))))))) ?_ ?_
            · repeat' ((apply T.is;(apply T.drawC (id:=16) [0,1,3] (by decide);((apply A.tk 0;exact rfl;kernel_rfl;(apply Ok1.move;exact rfl))<;>((apply A.tk 1;exact rfl;kernel_rfl;(apply Ok1.neq_f;exact rfl;exact rfl;omega)))<;>(apply A.tk 2;exact rfl;kernel_rfl;(apply Ok1.move;exact rfl))<;>((apply A.tkG 3;(iterate 3 exact rfl);kernel_rfl;(apply Ok1.move;exact rfl)))<;>((apply A.tkG 4;(iterate 3 exact rfl);kernel_rfl;(apply Ok1.indexAddrA;(iterate 5 exact rfl);omega;omega)))<;>((apply A.tkG 5;(iterate 3 exact rfl);kernel_rfl;(apply Ok1.load;exact rfl;(apply Ld.own1;exact rfl;exact rfl;exact At.head;exact rfl))))<;>((apply A.callG 6;exact rfl;exact rfl;rotate_left 3;exact rfl;exact rfl;rotate_right 3;kernel_rfl;kernel_rfl;kernel_rfl;exact rfl;exact rfl;(exact fun w1 hw1=>hbo1 w1 (hw1.get _ _ (At.mem (by (focus (repeat' first|exact At.head|apply At.tail);done)))))))<;>((apply A.tkG 7;(iterate 3 exact rfl);kernel_rfl;(apply Ok1.load;exact rfl;(apply Ld.ownk;exact rfl;exact rfl;(focus (repeat' first|exact At.head|apply At.tail);done);exact rfl))))<;>(apply A.one 8;kernel_rfl;exact rfl;(((apply R.isG;apply R.guard_run;exact rfl;exact rfl;((apply R.callE (Li:=B1E) (vs:=[.pointer (some ⟨bb1,0,none⟩),.agg ⟨_⟩,.int .i64 0]);(iterate 3 exact rfl);(focus (repeat' first|exact Ext.here _ _|apply Ext.cons|apply Ext.app);done);intro w1 hw1;exact hw1' w1;rintro v Lo ⟨rfl,blk1,hq9⟩;rw [hq9];clear hq9)))));apply R.nil;refine ⟨?_,?_⟩;(focus (repeat' first|exact trivial|exact At.head|apply At.tail|refine ⟨?_,?_⟩)))<;>((apply A.tkG 9;(iterate 3 exact rfl);kernel_rfl;(apply Ok1.neq_f;exact rfl;exact rfl;omega)))<;>(apply A.tk 10;exact rfl;kernel_rfl;(apply Ok1.pick_f;exact rfl;exact rfl))<;>(apply A.tk 11;exact rfl;kernel_rfl;(apply Ok1.move;exact rfl))<;>((apply A.tkG 12;(iterate 3 exact rfl);kernel_rfl;(apply Ok1.move;exact rfl)))<;>((apply A.tkG 13;(iterate 3 exact rfl);kernel_rfl;(apply Ok1.indexAddrA;(iterate 5 exact rfl);omega;omega)))<;>((apply A.tkG 14;(iterate 3 exact rfl);kernel_rfl;(apply Ok1.load;exact rfl;(apply Ld.own1;exact rfl;exact rfl;exact At.head;exact rfl))))<;>((apply A.callG 15;exact rfl;exact rfl;rotate_left 3;exact rfl;exact rfl;rotate_right 3;kernel_rfl;kernel_rfl;kernel_rfl;exact rfl;exact rfl;(exact fun w1 hw1=>hbo1 w1 (hw1.get _ _ (At.mem (by (focus (repeat' first|exact At.head|apply At.tail);done)))))))<;>((apply A.tkG 16;(iterate 3 exact rfl);kernel_rfl;(apply Ok1.load;exact rfl;(apply Ld.ownk;exact rfl;exact rfl;(focus (repeat' first|exact At.head|apply At.tail);done);exact rfl))))<;>((apply A.tkG 17;(iterate 3 exact rfl);kernel_rfl;(apply Ok1.move;exact rfl)))<;>(apply A.one 18;kernel_rfl;exact rfl;(((apply R.isG;apply R.guard_run;exact rfl;exact rfl;((apply R.callE (Li:=B1 bb1 bm1 blk1 (cli 0) ⟨0,0,0,none,0⟩) (vs:=[.pointer (some ⟨bb1,0,none⟩),.agg ⟨_⟩,.pointer (some ⟨kb1,0,none⟩)]);(iterate 3 exact rfl);(focus ((repeat' (exact Ext.here _ _));done));intro w1 hw1;exact hpu bb1 bm1 blk1 kb1 ovg1 hovg1 w1 hw1 (by (focus ((repeat' (exact Ext.here _ _));done))) (fun z hz=>Ext.mem (by (focus (repeat' first|exact Ext.here _ _|apply Ext.cons|apply Ext.app);done)) z (hk1 z hz));rintro v Lo ⟨rfl,kb9,ov9,hov9,hq9⟩;rw [hq9];clear hq9)))));apply R.nil;refine ⟨?_,?_⟩;(focus (repeat' first|exact trivial|exact At.head|apply At.tail|apply At.right|refine ⟨?_,?_⟩)))<;>((apply A.tkG 19;(iterate 3 exact rfl);kernel_rfl;(apply Ok1.neq_f;exact rfl;exact rfl;omega)))<;>(apply A.tk 20;exact rfl;kernel_rfl;(apply Ok1.pick_f;exact rfl;exact rfl))<;>(apply A.done;kernel_rfl)))))
              all_goals exact ⟨(blk1,kb9,ov9),hov9,⟨rfl,rfl,rfl,rfl,rfl,rfl,rfl,rfl,trivial⟩,by simp only [List.append_assoc,List.cons_append];(focus (repeat' first|exact Ext.one _ _|exact Ext.here _ _|exact Ext.all _|apply Keep.cons|apply Keep.app|apply Keep.last|apply Ext.cons|apply Ext.app);done)⟩
            rintro ⟨blk1,kb9,ov9⟩ hov9
            simp only at hov9 ⊢
            generalize hBB1:B1 bb1 bm1 blk1 (cli 0) ⟨0,0,0,some ⟨kb9,0,none⟩,0⟩=BB1
            generalize hKG9:KL kb9 ov9 GS=KG9
            repeat' (first|(apply R.is1;first|(apply R.isBin;(apply R.pure;exact rfl;first|(apply Ok1.add64;exact rfl;exact rfl;omega;omega)|(apply Ok1.lss_t;exact rfl;exact rfl;omega)))|(apply R.isCall;(apply R.callE (vs:=[.pointer (some ⟨bk,0,none⟩),.agg ⟨_⟩,.int .i64 6]);(iterate 3 exact rfl);exact Ext.none _;intro w1 hw1;exact hg6 w1 (hkr hw1 (Ext.mem (by (focus (repeat' first|exact Ext.all _|apply Ext.cons|apply Ext.app);done))));rintro v Lo ⟨kb2,ovg2,rfl,hovg2,rfl⟩))|(apply R.pure;exact rfl;first|(apply Ok1.load;exact rfl;(apply Ld.ownk;exact rfl;exact rfl;(focus (repeat' first|exact At.head|apply At.tail);done);exact rfl))|(apply Ok1.move;exact rfl)|(apply Ok1.assign;exact rfl)|(apply Ok1.extract;exact rfl;exact rfl)))|apply R.nil|(apply T.is;first|(apply T.stop1 16)|apply T.seq|apply T.region|apply T.block|apply T.skip|(apply T.cond_t;exact rfl)|(apply T.cond_f;exact rfl)))
            refine ⟨?_⟩
            obtain ⟨KG2,hKG2,hk2⟩:∃ KG2,KL kb2 ovg2 GS=KG2∧∀ z∈KL kb2 ovg2 GS,z∈KG2:=⟨_,rfl,fun z h=>h⟩
            rw [hKG2]
            refine T.weakK (σ':=[(0,.slice pm ms.length cm),(1,.slice pl ls.length cl),(2,.slice po os.length co),(7,.pointer (some ⟨bk,0,none⟩)),(8,.pointer (some ⟨b8,0,none⟩)),(14,.pointer (some ⟨b14,0,none⟩)),(15,.int .i64 2),(16,.pointer (some ⟨kb2,0,none⟩)),(17,.int .i64 0)]) (L':=(b8,.cells ⟨[.pointer (some ⟨bc0,0,none⟩),.pointer (some ⟨bc1,0,none⟩),.pointer (some ⟨bc2,0,none⟩)]⟩ 95 (0,0))::(b14,.cells ⟨[.int .i64 5,.int .i64 0,.int .i64 100,.int .i64 1]⟩ 97 (0,0))::(bc0,.cells ⟨chC bn0 br0 bb0 bd0 sd0⟩ 232 (0,0))::(bc1,.cells ⟨chC bn1 br1 bb1 bd1 sd1⟩ 232 (0,0))::(bc2,.cells ⟨chC bn2 br2 bb2 bd2 sd2⟩ 232 (0,0))::(br0,.cells ⟨ringC (cli 0) (secretI K (cli 0)) p0 q0⟩ 236 (0,0))::(br1,.cells ⟨ringC (cli 1) (secretI K (cli 1)) p1 q1⟩ 236 (0,0))::(br2,.cells ⟨ringC (cli 2) (secretI K (cli 2)) p2 q2⟩ 236 (0,0))::(bn0,.cells ⟨[.int .i64 1,.int .i64 0]⟩ 324 (0,0))::(D0++(D1++(D2++(BB1++(KG9++(B2E++(KG2++KK)))))))) ?_ (by (focus (repeat' first|exact Ext.one _ _|exact Ext.here _ _|exact Ext.all _|apply Keep.cons|apply Keep.app|apply Keep.last|apply Ext.app);done)) ⟨rfl,rfl,rfl,rfl,rfl,rfl,rfl,rfl,rfl,trivial⟩
            refine T.meetK (α:=Unit) (I:=fun y=>True) (σi:=fun y=>[(0,.slice pm ms.length cm),(1,.slice pl ls.length cl),(2,.slice po os.length co),(7,.pointer (some ⟨bk,0,none⟩)),(8,.pointer (some ⟨b8,0,none⟩)),(14,.pointer (some ⟨b14,0,none⟩)),(15,.int .i64 2),(108,.bool false)]) (Li:=fun y=>(b8,.cells ⟨[.pointer (some ⟨bc0,0,none⟩),.pointer (some ⟨bc1,0,none⟩),.pointer (some ⟨bc2,0,none⟩)]⟩ 95 (0,0))::(b14,.cells ⟨[.int .i64 5,.int .i64 0,.int .i64 100,.int .i64 1]⟩ 97 (0,0))::(bc0,.cells ⟨chC bn0 br0 bb0 bd0 sd0⟩ 232 (0,0))::(bc1,.cells ⟨chC bn1 br1 bb1 bd1 sd1⟩ 232 (0,0))::(bc2,.cells ⟨chC bn2 br2 bb2 bd2 sd2⟩ 232 (0,0))::(br0,.cells ⟨ringC (cli 0) (secretI K (cli 0)) p0 q0⟩ 236 (0,0))::(br1,.cells ⟨ringC (cli 1) (secretI K (cli 1)) p1 q1⟩ 236 (0,0))::(br2,.cells ⟨ringC (cli 2) (secretI K (cli 2)) p2 q2⟩ 236 (0,0))::(bn0,.cells ⟨[.int .i64 1,.int .i64 0]⟩ 324 (0,0))::(D0++(D1++(D2++(BB1++(KG9++KK)))))) ?_ ?_
            · repeat' ((apply T.is;(apply T.drawC (id:=16) [0,1,4] (by decide);((apply A.tk 0;exact rfl;kernel_rfl;(apply Ok1.move;exact rfl))<;>((apply A.tk 1;exact rfl;kernel_rfl;(apply Ok1.neq_f;exact rfl;exact rfl;omega)))<;>(apply A.tk 2;exact rfl;kernel_rfl;(apply Ok1.move;exact rfl))<;>((apply A.tkG 3;(iterate 3 exact rfl);kernel_rfl;(apply Ok1.move;exact rfl)))<;>((apply A.tkG 4;(iterate 3 exact rfl);kernel_rfl;(apply Ok1.indexAddrA;(iterate 5 exact rfl);omega;omega)))<;>((apply A.tkG 5;(iterate 3 exact rfl);kernel_rfl;(apply Ok1.load;exact rfl;(apply Ld.own1;exact rfl;exact rfl;exact At.head;exact rfl))))<;>((apply A.callG 6;exact rfl;exact rfl;rotate_left 3;exact rfl;exact rfl;rotate_right 3;kernel_rfl;kernel_rfl;kernel_rfl;exact rfl;exact rfl;(exact fun w1 hw1=>hbo2 w1 (hw1.get _ _ (At.mem (by (focus (repeat' first|exact At.head|apply At.tail);done)))))))<;>((apply A.tkG 7;(iterate 3 exact rfl);kernel_rfl;(apply Ok1.load;exact rfl;(apply Ld.ownk;exact rfl;exact rfl;(focus (repeat' first|exact At.head|apply At.tail);done);exact rfl))))<;>(apply A.one 8;kernel_rfl;exact rfl;(((apply R.isG;apply R.guard_run;exact rfl;exact rfl;((apply R.callE (Li:=B2E) (vs:=[.pointer (some ⟨bb2,0,none⟩),.agg ⟨_⟩,.int .i64 0]);(iterate 3 exact rfl);(focus (repeat' first|exact Ext.here _ _|apply Ext.cons|apply Ext.app);done);intro w1 hw1;exact hw2' w1;rintro v Lo ⟨rfl,blk2,hq9⟩;rw [hq9];clear hq9)))));apply R.nil;refine ⟨?_,?_⟩;(focus (repeat' first|exact trivial|exact At.head|apply At.tail|refine ⟨?_,?_⟩)))<;>((apply A.tkG 9;(iterate 3 exact rfl);kernel_rfl;(apply Ok1.neq_f;exact rfl;exact rfl;omega)))<;>(apply A.tk 10;exact rfl;kernel_rfl;(apply Ok1.pick_f;exact rfl;exact rfl))<;>(apply A.tk 11;exact rfl;kernel_rfl;(apply Ok1.move;exact rfl))<;>((apply A.tkG 12;(iterate 3 exact rfl);kernel_rfl;(apply Ok1.move;exact rfl)))<;>((apply A.tkG 13;(iterate 3 exact rfl);kernel_rfl;(apply Ok1.indexAddrA;(iterate 5 exact rfl);omega;omega)))<;>((apply A.tkG 14;(iterate 3 exact rfl);kernel_rfl;(apply Ok1.load;exact rfl;(apply Ld.own1;exact rfl;exact rfl;exact At.head;exact rfl))))<;>((apply A.callG 15;exact rfl;exact rfl;rotate_left 3;exact rfl;exact rfl;rotate_right 3;kernel_rfl;kernel_rfl;kernel_rfl;exact rfl;exact rfl;(exact fun w1 hw1=>hbo2 w1 (hw1.get _ _ (At.mem (by (focus (repeat' first|exact At.head|apply At.tail);done)))))))<;>((apply A.tkG 16;(iterate 3 exact rfl);kernel_rfl;(apply Ok1.load;exact rfl;(apply Ld.ownk;exact rfl;exact rfl;(focus (repeat' first|exact At.head|apply At.tail);done);exact rfl))))<;>((apply A.tkG 17;(iterate 3 exact rfl);kernel_rfl;(apply Ok1.move;exact rfl)))<;>(apply A.one 18;kernel_rfl;exact rfl;(((apply R.isG;apply R.guard_run;exact rfl;exact rfl;((apply R.callE (Li:=B1 bb2 bm2 blk2 (cli 0) ⟨0,0,0,none,0⟩) (vs:=[.pointer (some ⟨bb2,0,none⟩),.agg ⟨_⟩,.pointer (some ⟨kb2,0,none⟩)]);(iterate 3 exact rfl);(focus ((repeat' (exact Ext.here _ _));done));intro w1 hw1;exact hpu bb2 bm2 blk2 kb2 ovg2 hovg2 w1 hw1 (by (focus ((repeat' (exact Ext.here _ _));done))) (fun z hz=>Ext.mem (by (focus (repeat' first|exact Ext.here _ _|apply Ext.cons|apply Ext.app);done)) z (hk2 z hz));rintro v Lo ⟨rfl,kb9,ov9,hov9,hq9⟩;rw [hq9];clear hq9)))));apply R.nil;refine ⟨?_,?_⟩;(focus (repeat' first|exact trivial|exact At.head|apply At.tail|apply At.right|refine ⟨?_,?_⟩)))<;>((apply A.tkG 19;(iterate 3 exact rfl);kernel_rfl;(apply Ok1.neq_f;exact rfl;exact rfl;omega)))<;>(apply A.tk 20;exact rfl;kernel_rfl;(apply Ok1.pick_f;exact rfl;exact rfl))<;>(apply A.done;kernel_rfl)))))
              all_goals exact ⟨(),trivial,⟨rfl,rfl,rfl,rfl,rfl,rfl,rfl,rfl,trivial⟩,by simp only [List.append_assoc,List.cons_append];(focus (repeat' first|exact Ext.one _ _|exact Ext.here _ _|exact Ext.all _|apply Keep.cons|apply Keep.app|apply Keep.last|apply Ext.cons|apply Ext.app);done)⟩
            rintro _ _
            simp only
            repeat' (first|(apply R.is1;first|(apply R.isBin;(apply R.pure;exact rfl;first|(apply Ok1.add64;exact rfl;exact rfl;omega;omega)|(apply Ok1.lss_f;exact rfl;exact rfl;omega)))|(apply R.pure;exact rfl;first|(apply Ok1.move;exact rfl)|(apply Ok1.assign;exact rfl)))|apply R.nil|(apply T.is;first|apply T.seq|apply T.region|apply T.skip|apply T.exit|(apply T.cond_f;exact rfl)))
            refine ⟨(blk1,kb9,ov9),hov9,⟨rfl,rfl,rfl,rfl,rfl,trivial⟩,?_⟩
            simp only [hBB1,hKG9]
            (focus (repeat' first|exact Ext.one _ _|exact Ext.here _ _|apply Keep.cons|apply Keep.app|apply Keep.last);done)
          · rintro ⟨blk,kb,ovg⟩ hovg
            simp only at hovg ⊢
            have ht:=meets_tail pl cl ls po co os w b8 b14 bc0 bc1 bc2 bn0 bn1 bn2 br0 br1 br2 bb0 bb1 bb2 bd0 bd1 bd2 sd0 sd1 sd2 p0 q0 p1 q1 p2 q2 bm1 blk kb ovg (secretI K (cli 0)) (secretI K (cli 1)) (secretI K (cli 2)) hl hlo ho h0l (secret_byt K (cli 0)) h1l h2l hovg
            rw [show dr0 0=List.replicate 16 0 from rfl,show dr1 0 0=List.replicate 16 0 from rfl,hD0,hD1,hD2,show stE 0 (some ⟨kb,0,none⟩) 0=⟨0,0,0,some ⟨kb,0,none⟩,0⟩ from rfl] at ht
            generalize B1 bb1 bm1 blk (cli 0) ⟨0,0,0,some ⟨kb,0,none⟩,0⟩=BE at ht ⊢
            generalize KL kb ovg (senderI (secretI K (cli 0)) 6)=KG at ht ⊢
            exact T.weakK ht (by (focus (repeat' first|exact Ext.one _ _|exact Ext.here _ _|exact Ext.all _|apply Keep.cons|apply Keep.app|apply Keep.last);done)) ⟨rfl,rfl,rfl,rfl,trivial⟩
end Go.Proofs.YtolnagbahceebaaGreat
set_option linter.unusedSimpArgs false
set_option linter.unusedVariables false
namespace Go.Proofs.YtolnagbahceebaaGreat
open Go.ChangeShapes Go.WideShapes Go.ChangeAt Go.RowKit
def iKsM:List TK:=[.int .i64]
theorem i_decM:∀ cs,allW iKsM cs→∃ x:Int,iV x=cs:=by
  intro cs h
  simp only [iKsM] at h
  match cs,h with
  | [.int k1 a],h =>
    obtain ⟨⟨rfl,_⟩,_⟩:=h
    exact ⟨a,rfl⟩
end Go.Proofs.YtolnagbahceebaaGreat
