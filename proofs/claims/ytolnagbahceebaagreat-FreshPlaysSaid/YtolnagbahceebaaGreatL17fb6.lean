/- Texts of the proof: Fr2, Fr3, Fr4, Da5, Fr5, Fr6, Fr7, Fr8, Fv1. -/
import Derived.Test.YtolnagbahceebaaGreatL17fb5
set_option linter.unusedSimpArgs false
set_option linter.unusedVariables false
namespace Go.Proofs.YtolnagbahceebaaGreat
open Go.RowKit Go.Shelf
set_option maxRecDepth 100000
def posI (xs:List Ak) (pr:Ak→Bool):Int:=if xs.findIdx pr < xs.length then (xs.findIdx pr:Int) else -1
theorem posI_at {xs:List Ak} {pr:Ak→Bool} {i:Nat} {x:Ak} (h:∀ y∈xs.take i,pr y=false) (hx:xs[i]? = some x) (hp:pr x=true):posI xs pr=i:=by
  obtain ⟨hi,rfl⟩:=List.getElem?_eq_some_iff.1 hx
  have:xs.findIdx pr=i:=by
    rw [List.findIdx_eq hi]
    refine ⟨hp,fun j hj=>?_⟩
    exact h _ (List.mem_of_getElem? (i:=j) (by rw [List.getElem?_take_of_lt hj,List.getElem?_eq_getElem (by omega)]))
  rw [posI,this,if_pos hi]
theorem posI_none {xs:List Ak} {pr:Ak→Bool} (h:∀ y∈xs,pr y=false):posI xs pr = -1:=by
  rw [posI,if_neg]
  rw [List.findIdx_lt_length]
  rintro ⟨y,hy,hp⟩
  rw [h y hy] at hp;cases hp
theorem aidx_ok (p:Option Addr) (cap:Nat) (xs:List Ak) (hbig:xs.length≤1000000) (g:Nat) (hgc:tb.fns.contains g=true) (cb:List Value) (pr:Ak→Bool) (w:World) (hg:∀ x w1,Chg [] w w1→CallW Tryz.prog g ([.agg ⟨Ak.v x⟩]++cb) w1 fun v _=>v = .bool (pr x)) (hp:RdSl w p Ak.v xs) :
    CallW Tryz.prog 143 [.slice p xs.length cap,.func (.func g) #[] cb.toArray] w fun v _=>v = .int .i64 (posI xs pr):=by
  refine enterW (tb:=tb) Tryz.func143 rfl Tryz.ntmps143 rfl ?_
  repeat' (first|(apply R.is1;first|(apply R.isCall;(apply R.pure;exact rfl;(apply Ok1.lenS;(iterate 3 exact rfl))))|(apply R.pure;exact rfl;first|(apply Ok1.move;exact rfl)|(apply Ok1.assign;exact rfl)))|apply R.nil|(apply T.is;first|apply T.seq|apply T.region|apply T.block))
  apply T.loopK (α:=Nat) (I:=fun i=>i≤xs.length∧∀ x∈xs.take i,pr x=false) (σi:=fun i=>[(0,.slice p xs.length cap),(1,.func (.func g) #[] cb.toArray),(7,.int .i64 xs.length),(8,.int .i64 i)]) (Li:=fun _=>[]) (μ:=fun i=>xs.length - i) (i0:=0)
  · exact ⟨Nat.zero_le _,by simp⟩
  · exact ⟨rfl,rfl,rfl,rfl,trivial⟩
  · (focus ((repeat' (exact Keep.nil _));done))
  · intro i ⟨hi,hall⟩
    rcases Nat.lt_or_ge i xs.length with hlt|hge
    · obtain ⟨x,hx⟩:∃ x,xs[i]? = some x:=⟨_,List.getElem?_eq_getElem (by omega)⟩
      obtain ⟨bb,o,hpe,H⟩:=hp.at hx
      replace H:=H 10 Ak.v_len
      have hgx:=hg x
      cases hxi:pr x with
      | true =>
        simp only [hxi] at hgx
        repeat' (first|(apply R.is1;first|(apply R.isBin;(apply R.pure;exact rfl;(apply Ok1.lss_t;exact rfl;exact rfl;omega)))|(apply R.isCall;(apply R.callFV (fa:=[]) (cb:=cb) (vs:=[.agg ⟨x.v⟩]);exact rfl;exact hgc;exact rfl;exact rfl;intro w1 hw1;exact hgx w1 hw1.chg))|(apply R.pure;exact rfl;first|(apply Ok1.indexAddrP;(iterate 4 exact rfl);exact hpe;exact rfl;omega;omega)|(apply Ok1.load;exact rfl;apply Ld.rowk0 H;exact rfl;exact List.not_mem_nil;(iterate 3 exact rfl))|(apply Ok1.move;exact rfl)|(apply Ok1.assign;exact rfl)))|apply R.nil|(apply T.is;first|apply T.seq|apply T.region|apply T.block|apply T.skip|apply T.ret|(apply T.cond_t;exact rfl)))
        (apply RetOk.t;exact rfl)
        rw [posI_at hall hx hxi]
      | false =>
        simp only [hxi] at hgx
        repeat' (first|(apply R.is1;first|(apply R.isBin;(apply R.pure;exact rfl;first|(apply Ok1.add64;exact rfl;exact rfl;omega;omega)|(apply Ok1.lss_t;exact rfl;exact rfl;omega)))|(apply R.isCall;(apply R.callFV (fa:=[]) (cb:=cb) (vs:=[.agg ⟨x.v⟩]);exact rfl;exact hgc;exact rfl;exact rfl;intro w1 hw1;exact hgx w1 hw1.chg))|(apply R.pure;exact rfl;first|(apply Ok1.indexAddrP;(iterate 4 exact rfl);exact hpe;exact rfl;omega;omega)|(apply Ok1.load;exact rfl;apply Ld.rowk0 H;exact rfl;exact List.not_mem_nil;(iterate 3 exact rfl))|(apply Ok1.move;exact rfl)|(apply Ok1.assign;exact rfl)))|apply R.nil|(apply T.is;first|apply T.seq|apply T.region|apply T.block|apply T.skip|(apply T.cond_t;exact rfl)|(apply T.cond_f;exact rfl)))
        refine ⟨i+1,⟨by omega,?_⟩,by omega,⟨rfl,rfl,rfl,rfl,trivial⟩,by (focus ((repeat' (exact Keep.nil _));done))⟩
        intro y hy
        rw [List.take_add_one,hx] at hy
        rcases List.mem_append.1 hy with h|h
        · exact hall y h
        · simp only [Option.toList,List.mem_singleton] at h
          rw [h];exact hxi
    · have him:i=xs.length:=by omega
      subst him
      rw [List.take_length] at hall
      repeat' (first|(apply R.is1;first|(apply R.isBin;(apply R.pure;exact rfl;(apply Ok1.lss_f;exact rfl;exact rfl;omega)))|(apply R.pure;exact rfl;(apply Ok1.assign;exact rfl)))|apply R.nil|(apply T.is;first|apply T.seq|apply T.region|apply T.exit|apply T.ret|(apply T.cond_f;exact rfl)))
      (apply RetOk.t;exact rfl)
      rw [posI_none hall]
def ak0:Ak:=⟨0,0,0,0,0,0,0,0,0,0⟩
theorem filt_none {xs:List Ak} {pr:Ak→Bool} (h:¬ xs.findIdx pr < xs.length):xs.filter (fun x=>!pr x)=xs:=by
  rw [List.filter_eq_self]
  intro x hx
  cases hp:pr x with
  | false=>rfl
  | true=>exact absurd (List.findIdx_lt_length.2 ⟨x,hx,hp⟩) h
theorem filt_pre {xs:List Ak} {pr:Ak→Bool}:(xs.take (xs.findIdx pr+1)).filter (fun x=>!pr x)=xs.take (xs.findIdx pr):=by
  rcases Nat.lt_or_ge (xs.findIdx pr) xs.length with h|h
  · rw [List.take_add_one,List.getElem?_eq_getElem h,List.filter_append]
    have h1:(xs.take (xs.findIdx pr)).filter (fun x=>!pr x)=xs.take (xs.findIdx pr):=by
      rw [List.filter_eq_self]
      intro x hx
      obtain ⟨i,hi,rfl⟩:=List.getElem_of_mem hx
      rw [List.getElem_take]
      rw [List.length_take] at hi
      have:=List.not_of_lt_findIdx (p:=pr) (xs:=xs) (i:=i) (by omega)
      simpa using this
    have h2:=List.findIdx_getElem (p:=pr) (xs:=xs) (w:=h)
    rw [h1]
    simp [h2]
  · rw [List.take_of_length_le (by omega),List.take_of_length_le h]
    exact filt_none (by omega)
theorem adel_ok (ov:Ov) (xs:List Ak) (hov:OvOk 10 ov xs.length (fl Ak.v xs)) (hbig:xs.length≤1000000) (g:Nat) (hgc:tb.fns.contains g=true) (cb:List Value) (pr:Ak→Bool) (w:World) (hg:∀ x w1,Chg (blks (blkL 164 ov (fl Ak.v xs))) w w1→CallW Tryz.prog g ([.agg ⟨Ak.v x⟩]++cb) w1 fun v _=>v = .bool (pr x)) :
    CallM Tryz.prog 66 [slV ov xs.length,.func (.func g) #[] cb.toArray] (blkL 164 ov (fl Ak.v xs)) w fun v L=>∃ ov',OvOk 10 ov' (xs.filter (fun x=>!pr x)).length (fl Ak.v (xs.filter (fun x=>!pr x)))∧v=slV ov' (xs.filter (fun x=>!pr x)).length∧L=blkL 164 ov' (fl Ak.v (xs.filter (fun x=>!pr x))):=by
  have hidx:=fun w1 (hw1:Hp w (blks (blkL 164 ov (fl Ak.v xs))) (blkL 164 ov (fl Ak.v xs)) w1)=>aidx_ok (ovp ov) (ovc ov xs.length) xs hbig g hgc cb pr w1 (fun x w2 hc=>hg x w2 (hw1.chg.trans (hc.mono (by simp)))) (RdSl.own' hw1 (fun _ h=>h) hov Ak.v_len)
  rw [← slV_eq hov] at hidx
  by_cases hf:xs.findIdx pr < xs.length
  · have hpi:posI xs pr=((xs.findIdx pr:Nat):Int):=by rw [posI,if_pos hf]
    rw [hpi] at hidx
    have hpre:=filt_pre (xs:=xs) (pr:=pr)
    generalize hi0:xs.findIdx pr=i0 at *
    match ov,hov with
    | none,hov=>exact absurd hov.2 (by omega)
    | some (b,j,junk),hov =>
    have hjl:junk.length=j * 10:=hov.2
    refine enterK (tb:=tb) Tryz.func66 rfl Tryz.ntmps66 rfl ?_
    repeat' (first|(apply R.is1;first|(apply R.isBin;(apply R.pure;exact rfl;first|(apply Ok1.add64;exact rfl;exact rfl;omega;omega)|(apply Ok1.eql_f;exact rfl;exact rfl;omega)))|(apply R.isCall;(apply R.callV (vs:=[slV (some (b,j,junk)) xs.length,.func (.func g) #[] cb.toArray]);(iterate 3 exact rfl);intro w1 hw1;exact hidx w1 hw1))|(apply R.pure;exact rfl;first|(apply Ok1.move;exact rfl)|(apply Ok1.assign;exact rfl)))|apply R.nil|(apply T.is;first|apply T.seq|apply T.region|apply T.block|apply T.skip|(apply T.cond_f;exact rfl)))
    apply T.loopK (α:=Nat × Nat × List Ak) (I:=fun y=>y.1 < y.2.1∧y.2.1≤xs.length∧y.2.2.length=xs.length∧y.2.2.take y.1=(xs.take y.2.1).filter (fun x=>!pr x)∧y.2.2.drop y.2.1=xs.drop y.2.1)
      (σi:=fun y=>[(0,.slice (some ⟨b,0,none⟩) xs.length (xs.length+j)),(1,.func (.func g) #[] cb.toArray),(5,.int .i64 y.1),(6,.int .i64 y.2.1)]) (Li:=fun y=>[(b,.cells ⟨fl Ak.v y.2.2++junk⟩ 164 (0,0))]) (μ:=fun y=>xs.length - y.2.1) (i0:=(i0,i0+1,xs))
    · exact ⟨by simp,by simp only;omega,rfl,hpre.symm,rfl⟩
    · exact ⟨rfl,rfl,rfl,rfl,trivial⟩
    · (focus (repeat' first|exact Keep.nil _|exact Ext.one _ _|apply Keep.cons);done)
    · rintro ⟨i,k,cur⟩ ⟨hik,hkn,hcl,htk,hdk⟩
      simp only at hik hkn hcl htk hdk ⊢
      rcases Nat.lt_or_ge k xs.length with hlt|hge
      · obtain ⟨x,hx⟩:∃ x,xs[k]? = some x:=⟨_,List.getElem?_eq_getElem (by omega)⟩
        have hxc:cur[k]? = some x:=by
          have h1:(cur.drop k)[0]? = (xs.drop k)[0]?:=by rw [hdk]
          simpa [hx] using h1
        have hset:=setE_row (v:=Ak.v) Ak.v_len (l:=cur) (i:=i) (by omega) x junk
        have hd2:cur.drop (k+1)=xs.drop (k+1):=by
          have:=congrArg (List.drop 1) hdk
          simpa [List.drop_drop] using this
        have htk2:(cur.set i x).take (i+1)=cur.take i++[x]:=by
          rw [List.take_add_one,List.take_set_of_le (Nat.le_refl _),List.getElem?_set_self (by omega)]
          rfl
        have hgx:=fun w1 (hc:Chg [b] w w1)=>hg x w1 hc
        cases hpx:pr x with
        | true =>
          simp only [hpx] at hgx
          have hft:(xs.take (k+1)).filter (fun x=>!pr x)=(xs.take k).filter (fun x=>!pr x):=by
            rw [List.take_add_one,hx,List.filter_append]
            simp [hpx]
          repeat' (first|(apply R.is1;first|(apply R.isBin;(apply R.pure;exact rfl;first|(apply Ok1.add64;exact rfl;exact rfl;omega;omega)|(apply Ok1.lss_t;exact rfl;exact rfl;omega)))|(apply R.isCall;first|(apply R.callFV (fa:=[]) (cb:=cb) (vs:=[.agg ⟨x.v⟩]);exact rfl;exact hgc;exact rfl;exact rfl;intro w1 hw1;exact hgx w1 hw1.chg)|(apply R.pure;exact rfl;(apply Ok1.lenS;(iterate 3 exact rfl))))|(apply R.pure;exact rfl;first|(apply Ok1.indexAddr;(iterate 5 exact rfl);omega;omega)|(apply Ok1.load;exact rfl;first|(apply Ld.ownrowk (f:=0);(focus (repeat' first|exact At.head|apply At.tail);done);exact Ak.v_len;exact hxc;(focus ((simp;done)));(iterate 3 exact rfl))|(apply Ld.ownk;exact rfl;exact rfl;exact At.head;exact rfl))|(apply Ok1.move;exact rfl)|(apply Ok1.assign;exact rfl)|(apply Ok1.not_t;exact rfl))|(apply R.alloc;(iterate 3 exact rfl);intro))|(apply R.is0;(apply R.store;(iterate 6 exact rfl);exact Upd.head;exact rfl))|apply R.nil|(apply T.is;first|apply T.seq|apply T.region|apply T.block|apply T.skip|(apply T.cond_t;exact rfl)|(apply T.cond_f;exact rfl)))
          exact ⟨(i,k+1,cur),⟨by simp only;omega,by simp only;omega,hcl,by simp only;rw [hft];exact htk,hd2⟩,by simp only;omega,⟨rfl,rfl,rfl,rfl,trivial⟩,by (focus (repeat' first|exact Keep.nil _|exact Ext.one _ _|apply Keep.cons|apply Ext.cons);done)⟩
        | false =>
          simp only [hpx] at hgx
          have hft:(xs.take (k+1)).filter (fun x=>!pr x)=(xs.take k).filter (fun x=>!pr x)++[x]:=by
            rw [List.take_add_one,hx,List.filter_append]
            simp [hpx]
          repeat' (first|(apply R.is1;first|(apply R.isBin;(apply R.pure;exact rfl;first|(apply Ok1.add64;exact rfl;exact rfl;omega;omega)|(apply Ok1.lss_t;exact rfl;exact rfl;omega)))|(apply R.isCall;first|(apply R.callFV (fa:=[]) (cb:=cb) (vs:=[.agg ⟨x.v⟩]);exact rfl;exact hgc;exact rfl;exact rfl;intro w1 hw1;exact hgx w1 hw1.chg)|(apply R.pure;exact rfl;(apply Ok1.lenS;(iterate 3 exact rfl))))|(apply R.pure;exact rfl;first|(apply Ok1.indexAddr;(iterate 5 exact rfl);omega;omega)|(apply Ok1.load;exact rfl;first|(apply Ld.ownrowk (f:=0);(focus (repeat' first|exact At.head|apply At.tail);done);exact Ak.v_len;exact hxc;(focus ((simp;done)));(iterate 3 exact rfl))|(apply Ld.ownk;exact rfl;exact rfl;exact At.head;exact rfl))|(apply Ok1.move;exact rfl)|(apply Ok1.assign;exact rfl)|(apply Ok1.not_f;exact rfl))|(apply R.alloc;(iterate 3 exact rfl);intro))|(apply R.is0;first|(apply R.store;(iterate 5 exact rfl);exact Ak.v_one x;(focus (repeat' first|exact Upd.head|apply Upd.tail);done);exact hset)|(apply R.store;(iterate 6 exact rfl);exact Upd.head;exact rfl))|apply R.nil|(apply T.is;first|apply T.seq|apply T.region|apply T.block|apply T.skip|(apply T.cond_t;exact rfl)))
          exact ⟨(i+1,k+1,cur.set i x),⟨by simp only;omega,by simp only;omega,by simp only;rw [List.length_set];exact hcl,by simp only;rw [hft,htk2,htk],by simp only;rw [List.drop_set_of_lt (by omega)];exact hd2⟩,by simp only;omega,⟨rfl,rfl,rfl,rfl,trivial⟩,by (focus (repeat' first|exact Keep.nil _|exact Ext.one _ _|apply Keep.cons|apply Ext.cons);done)⟩
      · have hkn':k=xs.length:=by omega
        subst hkn'
        rw [List.take_length] at htk
        have hfl:(xs.filter fun x=>!pr x).length=i:=by rw [← htk,List.length_take];omega
        have hflen:(fl Ak.v (cur.drop i)).length=(xs.length - i) * 10:=by rw [fl_len Ak.v_len,List.length_drop,hcl]
        have hcells:fl Ak.v cur++junk=fl Ak.v (cur.take i)++(fl Ak.v (cur.drop i)++junk):=by
          rw [← List.append_assoc,← fl_app,List.take_append_drop]
        have hzl:(List.replicate (xs.length - i) (Ak.v ak0)).flatten.length=(xs.length - i) * 10:=by simp [Ak.v_len]
        have hclr:setE (fl Ak.v cur++junk) (i * 10) (List.replicate (xs.length - i) (Ak.v ak0)).flatten=some (fl Ak.v (cur.take i)++((List.replicate (xs.length - i) (Ak.v ak0)).flatten++junk)):=by
          rw [hcells]
          have h1:=setE_mid (fl Ak.v (cur.take i)) (vs:=(List.replicate (xs.length - i) (Ak.v ak0)).flatten) (junk:=fl Ak.v (cur.drop i)++junk) (by rw [hzl,List.length_append,hflen];omega)
          rw [show (fl Ak.v (cur.take i)).length=i * 10 by rw [fl_len Ak.v_len,List.length_take];congr 1;omega] at h1
          rw [h1,hzl,← hflen,List.drop_left,List.append_assoc]
        repeat' (first|(apply R.is1;first|(apply R.isBin;(apply R.pure;exact rfl;(apply Ok1.lss_f;exact rfl;exact rfl;omega)))|(apply R.isCall;(apply R.pure;exact rfl;(apply Ok1.lenS;(iterate 3 exact rfl))))|(apply R.pure;exact rfl;first|(apply Ok1.sufB (sz:=10);(iterate 6 exact rfl);omega;omega;omega)|(apply Ok1.preB;(iterate 5 exact rfl);omega)|(apply Ok1.move;exact rfl)|(apply Ok1.assign;exact rfl)))|(apply R.is0;(apply R.clearG (zc:=Ak.v ak0) (n:=xs.length - i);(iterate 4 exact rfl);exact (by decide);exact rfl;exact rfl;omega;exact Upd.head;exact hclr))|apply R.nil|(apply T.is;first|apply T.seq|apply T.region|apply T.exit|apply T.ret|(apply T.cond_f;exact rfl)))
        (apply RetOk.t;exact rfl)
        refine ⟨_,?_,some (b,j+(xs.length - i),(List.replicate (xs.length - i) (Ak.v ak0)).flatten++junk),⟨?_,?_⟩,?_,rfl⟩
        · rw [← htk]
          (focus (repeat' first|exact Keep.nil _|exact Ext.one _ _|apply Keep.cons);done)
        · rw [fl_len Ak.v_len]
        · show _=_
          rw [List.length_append,hzl,hjl,Nat.add_mul];omega
        · rw [hfl]
          show Value.slice _ _ _=Value.slice _ _ _
          rw [show i+(j+(xs.length - i))=xs.length+j by omega]
  · have hpi:posI xs pr = -1:=by rw [posI,if_neg hf]
    rw [hpi] at hidx
    rw [filt_none hf]
    have hbb:blks (blkL 164 ov (fl Ak.v xs))=blks (blkL 164 ov (fl Ak.v xs)):=rfl
    refine enterK (tb:=tb) Tryz.func66 rfl Tryz.ntmps66 rfl ?_
    repeat' (first|(apply R.is1;first|(apply R.isBin;(apply R.pure;exact rfl;(apply Ok1.eql_t;exact rfl;exact rfl;omega)))|(apply R.isCall;(apply R.callV (vs:=[slV ov xs.length,.func (.func g) #[] cb.toArray]);(iterate 3 exact rfl);intro w1 hw1;exact hidx w1 hw1))|(apply R.pure;exact rfl;first|(apply Ok1.move;exact rfl)|(apply Ok1.assign;exact rfl)))|apply R.nil|(apply T.is;first|apply T.seq|apply T.region|apply T.ret|(apply T.cond_t;exact rfl)))
    (apply RetOk.t;exact rfl)
    exact ⟨_,by (focus (repeat' first|exact Ext.all _|apply Keep.last);done),ov,hov,rfl,rfl⟩
theorem RdSl.ofOffF {α:Type} {v:α→List Value} {rs:List α} {w0 w:World} {S:List Nat} {L:Lst} {b o:Nat} {e:TypeId} {fz:Nat × Nat} {cs pre junk:List Value} (hw:Hp w0 S L w) (hat:At L b (.cells ⟨cs⟩ e fz)) (hc:cs=pre++(fl v rs++junk)) (ho:pre.length=o):RdSl w (some ⟨b,o,none⟩) v rs:=by
  subst hc
  right
  refine ⟨b,o,rfl,fun k hk=>?_⟩
  have:=hw.get b _ hat.mem
  simp only [World.cell?,this]
  subst ho
  show (Array.mk (pre++(fl v rs++junk)))[pre.length+k]? = _
  rw [List.getElem?_toArray,List.getElem?_append_right (by omega),Nat.add_sub_cancel_left,List.getElem?_append_left hk]
theorem beqs_ok (p1 p2:Option Addr) (n1 n2 c1 c2:Nat) (xs ys:List Int) (hn1:n1=xs.length) (hn2:n2=ys.length) (hbig:n1≤1000000000) (w:World) (h1:RdSl w p1 u8V xs) (h2:RdSl w p2 u8V ys):CallW Tryz.prog 145 [.slice p1 n1 c1,.slice p2 n2 c2] w fun v _=>v = .bool (decide (xs=ys)):=by
  subst hn1 hn2
  refine enterW (tb:=tb) Tryz.func145 rfl Tryz.ntmps145 rfl ?_
  by_cases hne:xs.length=ys.length
  · repeat' (first|(apply R.is1;first|(apply R.isBin;(apply R.pure;exact rfl;(apply Ok1.neq_f;exact rfl;exact rfl;omega)))|(apply R.isCall;(apply R.pure;exact rfl;(apply Ok1.lenS;(iterate 3 exact rfl))))|(apply R.pure;exact rfl;first|(apply Ok1.move;exact rfl)|(apply Ok1.assign;exact rfl)))|apply R.nil|(apply T.is;first|apply T.seq|apply T.region|apply T.block|apply T.skip|(apply T.cond_f;exact rfl)))
    apply T.loopK (α:=Nat) (I:=fun i=>i≤xs.length∧xs.take i=ys.take i) (σi:=fun i=>[(0,.slice p1 xs.length c1),(1,.slice p2 ys.length c2),(12,.int .i64 xs.length),(13,.int .i64 i)]) (Li:=fun _=>[]) (μ:=fun i=>xs.length - i) (i0:=0)
    · exact ⟨Nat.zero_le _,rfl⟩
    · exact ⟨rfl,rfl,rfl,rfl,trivial⟩
    · (focus ((repeat' (exact Keep.nil _));done))
    · intro i ⟨hi,htk⟩
      rcases Nat.lt_or_ge i xs.length with hlt|hge
      · obtain ⟨x,hx⟩:∃ x,xs[i]? = some x:=⟨_,List.getElem?_eq_getElem (by omega)⟩
        obtain ⟨y,hy⟩:∃ y,ys[i]? = some y:=⟨_,List.getElem?_eq_getElem (by omega)⟩
        obtain ⟨b1,o1,hpe1,H1⟩:=h1.at hx
        obtain ⟨b2,o2,hpe2,H2⟩:=h2.at hy
        replace H1:=H1 1 (fun _=>rfl)
        replace H2:=H2 1 (fun _=>rfl)
        by_cases hxy:x=y
        · repeat' (first|(apply R.is1;first|(apply R.isBin;(apply R.pure;exact rfl;first|(apply Ok1.add64;exact rfl;exact rfl;omega;omega)|(apply Ok1.lss_t;exact rfl;exact rfl;omega)))|(apply R.pure;exact rfl;first|(apply Ok1.move;exact rfl)|(apply Ok1.assign;exact rfl)))|apply R.nil|(apply T.is;first|(apply T.drawC (id:=6) [] (by decide);((apply A.tk 0;exact rfl;kernel_rfl;(apply Ok1.move;exact rfl))<;>(apply A.tk 1;exact rfl;kernel_rfl;(apply Ok1.move;exact rfl))<;>(apply A.tk 2;exact rfl;kernel_rfl;(apply Ok1.indexAddrP;(iterate 4 exact rfl);(exact hpe1);exact rfl;omega;omega))<;>(apply A.tk 3;exact rfl;kernel_rfl;(apply Ok1.load;exact rfl;(apply Ld.row0 H1;exact rfl;exact List.not_mem_nil;(iterate 3 exact rfl))))<;>(apply A.tk 4;exact rfl;kernel_rfl;(apply Ok1.move;exact rfl))<;>(apply A.tk 5;exact rfl;kernel_rfl;(apply Ok1.move;exact rfl))<;>(apply A.tk 6;exact rfl;kernel_rfl;(apply Ok1.indexAddrP;(iterate 4 exact rfl);(exact hpe2);exact rfl;omega;omega))<;>(apply A.tk 7;exact rfl;kernel_rfl;(apply Ok1.load;exact rfl;(apply Ld.row0 H2;exact rfl;exact List.not_mem_nil;(iterate 3 exact rfl))))<;>((apply A.tk 8;exact rfl;kernel_rfl;(apply Ok1.neq_f;exact rfl;exact rfl;omega)))<;>(apply A.done;kernel_rfl)))|apply T.seq|apply T.region|apply T.block|apply T.skip|(apply T.cond_t;exact rfl)|(apply T.cond_f;exact rfl)))
          refine ⟨i+1,⟨by omega,?_⟩,by omega,⟨rfl,rfl,rfl,rfl,trivial⟩,by (focus ((repeat' (exact Keep.nil _));done))⟩
          rw [List.take_add_one,List.take_add_one,htk,hx,hy,hxy]
        · repeat' (first|(apply R.is1;first|(apply R.isBin;(apply R.pure;exact rfl;(apply Ok1.lss_t;exact rfl;exact rfl;omega)))|(apply R.pure;exact rfl;first|(apply Ok1.move;exact rfl)|(apply Ok1.assign;exact rfl)))|apply R.nil|(apply T.is;first|(apply T.drawC (id:=6) [] (by decide);((apply A.tk 0;exact rfl;kernel_rfl;(apply Ok1.move;exact rfl))<;>(apply A.tk 1;exact rfl;kernel_rfl;(apply Ok1.move;exact rfl))<;>(apply A.tk 2;exact rfl;kernel_rfl;(apply Ok1.indexAddrP;(iterate 4 exact rfl);(exact hpe1);exact rfl;omega;omega))<;>(apply A.tk 3;exact rfl;kernel_rfl;(apply Ok1.load;exact rfl;(apply Ld.row0 H1;exact rfl;exact List.not_mem_nil;(iterate 3 exact rfl))))<;>(apply A.tk 4;exact rfl;kernel_rfl;(apply Ok1.move;exact rfl))<;>(apply A.tk 5;exact rfl;kernel_rfl;(apply Ok1.move;exact rfl))<;>(apply A.tk 6;exact rfl;kernel_rfl;(apply Ok1.indexAddrP;(iterate 4 exact rfl);(exact hpe2);exact rfl;omega;omega))<;>(apply A.tk 7;exact rfl;kernel_rfl;(apply Ok1.load;exact rfl;(apply Ld.row0 H2;exact rfl;exact List.not_mem_nil;(iterate 3 exact rfl))))<;>((apply A.tk 8;exact rfl;kernel_rfl;(apply Ok1.neq_t;exact rfl;exact rfl;omega)))<;>(apply A.done;kernel_rfl)))|apply T.seq|apply T.region|apply T.block|apply T.skip|apply T.ret|(apply T.cond_t;exact rfl)))
          all_goals (apply RetOk.t;exact rfl)
          all_goals rw [decide_eq_false]
          intro e
          rw [e,hy] at hx
          cases hx
          exact hxy rfl
      · repeat' (first|(apply R.is1;first|(apply R.isBin;(apply R.pure;exact rfl;(apply Ok1.lss_f;exact rfl;exact rfl;omega)))|(apply R.pure;exact rfl;(apply Ok1.assign;exact rfl)))|apply R.nil|(apply T.is;first|apply T.seq|apply T.region|apply T.exit|apply T.ret|(apply T.cond_f;exact rfl)))
        (apply RetOk.t;exact rfl)
        rw [List.take_of_length_le hge,List.take_of_length_le (by omega)] at htk
        rw [decide_eq_true htk]
  · repeat' (first|(apply R.is1;first|(apply R.isBin;(apply R.pure;exact rfl;(apply Ok1.neq_t;exact rfl;exact rfl;omega)))|(apply R.isCall;(apply R.pure;exact rfl;(apply Ok1.lenS;(iterate 3 exact rfl))))|(apply R.pure;exact rfl;first|(apply Ok1.move;exact rfl)|(apply Ok1.assign;exact rfl)))|apply R.nil|(apply T.is;first|apply T.seq|apply T.region|apply T.ret|(apply T.cond_t;exact rfl)))
    all_goals (apply RetOk.t;exact rfl)
    all_goals rw [decide_eq_false]
    exact fun e=>hne (by rw [e])
theorem aopen_ok (x:Ak) (tick:Int) (h0:0≤tick) (h1:tick≤1073741824):CallP Tryz.prog 68 [.agg ⟨x.v⟩,.int .i64 tick] (.bool (x.op tick)):=by
  refine enterP (tb:=tb) Tryz.func68 rfl Tryz.ntmps68 rfl fun w=>?_
  unfold Ak.op
  simp only [Ak.v]
  repeat' (first|(apply R.is1;first|(apply R.isBin;first|(apply R.pure;exact rfl;(apply Ok1.sub64;exact rfl;exact rfl;omega;omega))|(apply R.gtr rfl rfl rfl<;>intro))|(apply R.pure;exact rfl;first|(apply Ok1.move;exact rfl)|(apply Ok1.fieldAddr;(iterate 5 exact rfl))|(apply Ok1.load;exact rfl;(apply Ld.own1;exact rfl;exact rfl;exact At.head;exact rfl))|(apply Ok1.assign;exact rfl))|(apply R.box;(iterate 3 exact rfl);intro))|apply R.nil|(apply T.is;first|apply T.seq|apply T.region|apply T.ret))
  all_goals (apply RetOk.t;exact rfl)
  all_goals simp_all
theorem ask1_ok (b:Nat) (x:Ak) (tick:Int) (h0:0≤tick) (h1:tick≤1073741824) (w:World) (hb:w.heap[b]? = some (.cells ⟨[.int .i64 tick]⟩ 3 (0,0))):CallW Tryz.prog 67 [.agg ⟨x.v⟩,.pointer (some ⟨b,0,none⟩)] w fun v _=>v = .bool (!x.op tick):=by
  have h:=aopen_ok x tick h0 h1
  have hl:x.v.length=10:=rfl
  have ho:=x.v_one
  cases hx:x.op tick<;>rw [hx] at h
  all_goals
    refine enterW (tb:=tb) Tryz.func67 rfl Tryz.ntmps67 rfl ?_
    generalize x.v=xv at *
    repeat' (first|(apply R.is1;first|(apply R.box;(iterate 3 exact rfl);intro b9)|(apply R.isCall;apply R.callP rfl rfl rfl h)|(apply R.pure;exact rfl;first|(apply Ok1.load;exact rfl;first|(apply Ld.blk1;exact rfl;exact rfl;exact hb;exact List.not_mem_nil;exact rfl)|(apply Ld.ownk;exact rfl;exact rfl;exact At.head;exact subE_all hl))|(apply Ok1.assign;exact rfl)|(apply Ok1.not_t;exact rfl)|(apply Ok1.not_f;exact rfl)))|apply R.nil|(apply T.is;first|apply T.seq|apply T.region|apply T.ret))
    (apply RetOk.t;exact rfl)
    rfl
theorem Ak.v_dr (x:Ak):x.v=[.int .i64 x.seed,.int .i64 x.tick]++u8s x.dr:=rfl
theorem find1_ok (b1 b2 b3:Nat) (x:Ak) (seed tick:Int) (h0:0≤tick) (h1:tick≤1073741824) (p:Option Addr) (cap:Nat) (ds:List Int) (w:World) (e1:w.heap[b1]? = some (.cells ⟨[.int .i64 seed]⟩ 3 (0,0))) (e2:w.heap[b2]? = some (.cells ⟨[.int .i64 tick]⟩ 3 (0,0))) (e3:w.heap[b3]? = some (.cells ⟨[.slice p ds.length cap]⟩ 22 (0,0))) (hd:RdSl w p u8V ds) :
    CallW Tryz.prog 144 [.agg ⟨x.v⟩,.pointer (some ⟨b1,0,none⟩),.pointer (some ⟨b2,0,none⟩),.pointer (some ⟨b3,0,none⟩)] w fun v _=>v = .bool (Ak.is seed tick ds x):=by
  have h:=aopen_ok x tick h0 h1
  have hq:=fun q w1 h2 h3=>beqs_ok (some ⟨q,2,none⟩) p 8 ds.length 8 cap x.dr ds rfl rfl (by decide) w1 h2 h3
  have hl:x.v.length=10:=rfl
  have hfx:(x.v)[0]? = some (.int .i64 x.seed):=rfl
  have hvd:=x.v_dr
  have hfl:x.v=[.int .i64 x.seed,.int .i64 x.tick]++(fl u8V x.dr++[]):=by rw [List.append_nil];rfl
  unfold Ak.is
  generalize x.v=xv at *
  generalize x.dr=xd at *
  refine enterW (tb:=tb) Tryz.func144 rfl Tryz.ntmps144 rfl ?_
  by_cases c1:x.seed=seed
  · rw [decide_eq_true c1]
    cases hx:x.op tick<;>rw [hx] at h
    · repeat' (first|(apply R.is1;first|(apply R.box;(iterate 3 exact rfl);intro b9)|(apply R.pure;exact rfl;(apply Ok1.assign;exact rfl)))|apply R.nil|(apply T.is;first|(apply T.drawC (id:=1) [0] (by decide);((apply A.tk 0;exact rfl;kernel_rfl;(apply Ok1.fieldAddr;(iterate 5 exact rfl)))<;>(apply A.tk 1;exact rfl;kernel_rfl;(apply Ok1.load;exact rfl;(apply Ld.own1;exact rfl;exact rfl;exact At.head;exact hfx)))<;>(apply A.tk 2;exact rfl;kernel_rfl;(apply Ok1.load;exact rfl;(apply Ld.blk1;exact rfl;exact rfl;exact e1;exact List.not_mem_nil;exact rfl)))<;>((apply A.tk 3;exact rfl;kernel_rfl;(apply Ok1.eql_t;exact rfl;exact rfl;omega)))<;>(apply A.tk 4;exact rfl;kernel_rfl;(apply Ok1.move;exact rfl))<;>((apply A.tkG 5;(iterate 3 exact rfl);kernel_rfl;(apply Ok1.load;exact rfl;(apply Ld.ownk;exact rfl;exact rfl;exact At.head;exact subE_all hl))))<;>((apply A.tkG 6;(iterate 3 exact rfl);kernel_rfl;(apply Ok1.load;exact rfl;(apply Ld.blk1;exact rfl;exact rfl;exact e2;exact List.not_mem_nil;exact rfl))))<;>(apply A.one 7;kernel_rfl;exact rfl;(((apply R.isG;apply R.guard_run;exact rfl;exact rfl;(apply R.callP rfl rfl rfl h))));apply R.nil;refine ⟨?_,?_⟩;(focus ((repeat' (first|exact trivial|(refine ⟨?_,?_⟩;exact At.head))))))<;>(apply A.tk 8;exact rfl;kernel_rfl;(apply Ok1.pick_t;exact rfl;exact rfl))<;>(apply A.tk 9;exact rfl;kernel_rfl;(apply Ok1.move;exact rfl))<;>((apply A.skG 10;(iterate 3 exact rfl);kernel_rfl))<;>((apply A.skG 11;(iterate 3 exact rfl);kernel_rfl))<;>((apply A.skG 12;(iterate 3 exact rfl);kernel_rfl))<;>(apply A.one 13;kernel_rfl;exact rfl;(((apply R.isG;(apply R.guard_not;(iterate 3 exact rfl)))));apply R.nil;refine ⟨?_,?_⟩;(focus ((repeat' (first|exact trivial|(refine ⟨?_,?_⟩;exact At.head))))))<;>(apply A.tk 14;exact rfl;kernel_rfl;(apply Ok1.pick_f;exact rfl;exact rfl))<;>(apply A.tk 15;exact rfl;kernel_rfl;(apply Ok1.assign;exact rfl))<;>(apply A.done;kernel_rfl)))|apply T.seq|apply T.region|apply T.ret))
      all_goals (apply RetOk.t;exact rfl)
      all_goals rfl
    · cases hdd:decide (xd=ds)<;>simp only [hdd] at hq
      all_goals
        repeat' (first|(apply R.is1;first|(apply R.box;(iterate 3 exact rfl);intro b9)|(apply R.pure;exact rfl;(apply Ok1.assign;exact rfl)))|apply R.nil|(apply T.is;first|(apply T.drawC (id:=1) [0] (by decide);((apply A.tk 0;exact rfl;kernel_rfl;(apply Ok1.fieldAddr;(iterate 5 exact rfl)))<;>(apply A.tk 1;exact rfl;kernel_rfl;(apply Ok1.load;exact rfl;(apply Ld.own1;exact rfl;exact rfl;exact At.head;exact hfx)))<;>(apply A.tk 2;exact rfl;kernel_rfl;(apply Ok1.load;exact rfl;(apply Ld.blk1;exact rfl;exact rfl;exact e1;exact List.not_mem_nil;exact rfl)))<;>((apply A.tk 3;exact rfl;kernel_rfl;(apply Ok1.eql_t;exact rfl;exact rfl;omega)))<;>(apply A.tk 4;exact rfl;kernel_rfl;(apply Ok1.move;exact rfl))<;>((apply A.tkG 5;(iterate 3 exact rfl);kernel_rfl;(apply Ok1.load;exact rfl;(apply Ld.ownk;exact rfl;exact rfl;exact At.head;exact subE_all hl))))<;>((apply A.tkG 6;(iterate 3 exact rfl);kernel_rfl;(apply Ok1.load;exact rfl;(apply Ld.blk1;exact rfl;exact rfl;exact e2;exact List.not_mem_nil;exact rfl))))<;>(apply A.one 7;kernel_rfl;exact rfl;(((apply R.isG;apply R.guard_run;exact rfl;exact rfl;(apply R.callP rfl rfl rfl h))));apply R.nil;refine ⟨?_,?_⟩;(focus ((repeat' (first|exact trivial|(refine ⟨?_,?_⟩;exact At.head))))))<;>(apply A.tk 8;exact rfl;kernel_rfl;(apply Ok1.pick_t;exact rfl;exact rfl))<;>(apply A.tk 9;exact rfl;kernel_rfl;(apply Ok1.move;exact rfl))<;>((apply A.tkG 10;(iterate 3 exact rfl);kernel_rfl;(apply Ok1.fieldAddr;(iterate 5 exact rfl))))<;>((apply A.tkG 11;(iterate 3 exact rfl);kernel_rfl;(apply Ok1.sliceArr;(iterate 4 exact rfl))))<;>((apply A.tkG 12;(iterate 3 exact rfl);kernel_rfl;(apply Ok1.load;exact rfl;(apply Ld.blk1;exact rfl;exact rfl;exact e3;exact List.not_mem_nil;exact rfl))))<;>(apply A.one 13;kernel_rfl;exact rfl;(((apply R.isG;apply R.guard_run;exact rfl;exact rfl;((apply R.callV;(iterate 3 exact rfl);intro w1 hw1;exact hq _ w1 (RdSl.ofOffF hw1 (by exact At.head) hfl rfl) (hd.chg' hw1.chg (fun _=>Off.nil _)))))));apply R.nil;refine ⟨?_,?_⟩;(focus ((repeat' (first|exact trivial|(refine ⟨?_,?_⟩;exact At.head))))))<;>(apply A.tk 14;exact rfl;kernel_rfl;(apply Ok1.pick_t;exact rfl;exact rfl))<;>(apply A.tk 15;exact rfl;kernel_rfl;(apply Ok1.assign;exact rfl))<;>(apply A.done;kernel_rfl)))|apply T.seq|apply T.region|apply T.ret))
        all_goals (apply RetOk.t;exact rfl)
        all_goals rfl
  · rw [decide_eq_false c1]
    repeat' (first|(apply R.is1;first|(apply R.box;(iterate 3 exact rfl);intro b9)|(apply R.pure;exact rfl;(apply Ok1.assign;exact rfl)))|apply R.nil|(apply T.is;first|(apply T.drawC (id:=1) [0] (by decide);((apply A.tk 0;exact rfl;kernel_rfl;(apply Ok1.fieldAddr;(iterate 5 exact rfl)))<;>(apply A.tk 1;exact rfl;kernel_rfl;(apply Ok1.load;exact rfl;(apply Ld.own1;exact rfl;exact rfl;exact At.head;exact hfx)))<;>(apply A.tk 2;exact rfl;kernel_rfl;(apply Ok1.load;exact rfl;(apply Ld.blk1;exact rfl;exact rfl;exact e1;exact List.not_mem_nil;exact rfl)))<;>((apply A.tk 3;exact rfl;kernel_rfl;(apply Ok1.eql_f;exact rfl;exact rfl;omega)))<;>(apply A.tk 4;exact rfl;kernel_rfl;(apply Ok1.move;exact rfl))<;>((apply A.skG 5;(iterate 3 exact rfl);kernel_rfl))<;>((apply A.skG 6;(iterate 3 exact rfl);kernel_rfl))<;>(apply A.one 7;kernel_rfl;exact rfl;(((apply R.isG;(apply R.guard_not;(iterate 3 exact rfl)))));apply R.nil;refine ⟨?_,?_⟩;(focus ((repeat' (first|exact trivial|(refine ⟨?_,?_⟩;exact At.head))))))<;>(apply A.tk 8;exact rfl;kernel_rfl;(apply Ok1.pick_f;exact rfl;exact rfl))<;>(apply A.tk 9;exact rfl;kernel_rfl;(apply Ok1.move;exact rfl))<;>((apply A.skG 10;(iterate 3 exact rfl);kernel_rfl))<;>((apply A.skG 11;(iterate 3 exact rfl);kernel_rfl))<;>((apply A.skG 12;(iterate 3 exact rfl);kernel_rfl))<;>(apply A.one 13;kernel_rfl;exact rfl;(((apply R.isG;(apply R.guard_not;(iterate 3 exact rfl)))));apply R.nil;refine ⟨?_,?_⟩;(focus ((repeat' (first|exact trivial|(refine ⟨?_,?_⟩;exact At.head))))))<;>(apply A.tk 14;exact rfl;kernel_rfl;(apply Ok1.pick_f;exact rfl;exact rfl))<;>(apply A.tk 15;exact rfl;kernel_rfl;(apply Ok1.assign;exact rfl))<;>(apply A.done;kernel_rfl)))|apply T.seq|apply T.region|apply T.ret))
    all_goals (apply RetOk.t;exact rfl)
    all_goals rfl
theorem adelete_ok (b j:Nat) (junk:List Value) (xs:List Ak) (hov:OvOk 10 (some (b,j,junk)) xs.length (fl Ak.v xs)) (hbig:xs.length≤1000000) (i:Nat) (hi:i < xs.length) (w:World) :
    CallM Tryz.prog 74 [.slice (some ⟨b,0,none⟩) xs.length (xs.length+j),.int .i64 i,.int .i64 (i+1)] (blkL 164 (some (b,j,junk)) (fl Ak.v xs)) w fun v L=>∃ ov',OvOk 10 ov' (xs.eraseIdx i).length (fl Ak.v (xs.eraseIdx i))∧v=slV ov' (xs.eraseIdx i).length∧L=blkL 164 ov' (fl Ak.v (xs.eraseIdx i)):=by
  have hjl:junk.length=j * 10:=hov.2
  have hel:(xs.eraseIdx i).length=xs.length - 1:=by rw [List.length_eraseIdx,if_pos hi]
  have hee:fl Ak.v (xs.eraseIdx i)=fl Ak.v (xs.take i)++fl Ak.v (xs.drop (i+1)):=by rw [List.eraseIdx_eq_take_drop_succ,fl_app]
  have hO:(fl Ak.v (xs.take i)).length=i * 10:=by rw [fl_len Ak.v_len,List.length_take];congr 1;omega
  have hNl:(fl Ak.v (xs.drop (i+1))).length=(xs.length - (i+1)) * 10:=by rw [fl_len Ak.v_len,List.length_drop]
  have hDl:(fl Ak.v (xs.drop i)).length=(xs.length - i) * 10:=by rw [fl_len Ak.v_len,List.length_drop]
  have hcells:fl Ak.v xs++junk=fl Ak.v (xs.take i)++(fl Ak.v (xs.drop i)++junk):=by rw [← List.append_assoc,← fl_app,List.take_append_drop]
  have hon:(fl Ak.v (xs.drop (i+1))).all Value.oneCell'=true:=fl_oneG Ak.v_one _
  have hhold:∀ w1 S L1,Hp w S L1 w1→At L1 b (.cells ⟨fl Ak.v (xs.take i)++(fl Ak.v (xs.drop i)++junk)⟩ 164 (0,0))→Holds w1 (sufV (some (b,j,junk)) 10 xs.length (i+1)) (fl Ak.v (xs.drop (i+1))):=by
    intro w1 S L1 hw1 hat
    refine sufV_g (e2:=164) Ak.v_len hov (by omega) (fun x hx=>?_) hw1
    have:x=(b,.cells ⟨fl Ak.v xs++junk⟩ 164 (0,0)):=by simpa [blkL] using hx
    rw [this,hcells]
    exact hat.mem
  have hslen:=sufV_len hov (i:=i+1) (by omega)
  simp only [blkL]
  rw [hcells,hee,hel]
  have hJd:(fl Ak.v (xs.drop i)++junk).length=(xs.length - i+j) * 10:=by rw [List.length_append,hDl,hjl,Nat.add_mul]
  generalize fl Ak.v (xs.drop i)++junk=J at *
  generalize hNe:fl Ak.v (xs.drop (i+1))=N at *
  generalize hOe:fl Ak.v (xs.take i)=O at *
  have hON:(O++N).length=(xs.length - 1) * 10:=by rw [List.length_append,hO,hNl,← Nat.add_mul];congr 1;omega
  have hJ2:(J.drop N.length).length=(j+1) * 10:=by rw [List.length_drop,hJd,hNl,← Nat.sub_mul];congr 1;omega
  have hclr:setE (O++N++J.drop N.length) ((xs.length - 1) * 10) (List.replicate 1 (Ak.v ak0)).flatten=some (O++N++(Ak.v ak0++(J.drop N.length).drop 10)):=by
    have h1:=setE_mid (O++N) (vs:=Ak.v ak0) (junk:=J.drop N.length) (by rw [hJ2,Ak.v_len];omega)
    rw [hON] at h1
    rw [show (List.replicate 1 (Ak.v ak0)).flatten=Ak.v ak0 by simp]
    rw [h1,List.append_assoc (O++N),Ak.v_len]
  have hk1:xs.length - (xs.length - 1)=1:=by omega
  have hq1:i+(xs.length - (i+1))=xs.length - 1:=by omega
  have hclr2:setE (O++N++J.drop N.length) ((i+(xs.length - (i+1))) * 10) (List.replicate (xs.length - (i+(xs.length - (i+1)))) (Ak.v ak0)).flatten=some (O++N++(Ak.v ak0++(J.drop N.length).drop 10)):=by rw [hq1,hk1];exact hclr
  refine enterK (tb:=tb) Tryz.func74 rfl Tryz.ntmps74 rfl ?_
  repeat' (first|(apply R.is1;first|(apply R.isBin;(apply R.pure;exact rfl;(apply Ok1.eql_f;exact rfl;exact rfl;omega)))|(apply R.isCall;(apply R.pure;exact rfl;(apply Ok1.lenS;(iterate 3 exact rfl))))|(apply R.pure;exact rfl;first|(apply Ok1.mid3B (i:=i) (m:=i+1) (q:=xs.length) (sz:=10);(iterate 8 exact rfl);omega;omega;omega;omega)|(apply Ok1.midB (i:=i+(xs.length - (i+1))) (m:=xs.length) (sz:=10);(iterate 7 exact rfl);omega;omega;omega)|(apply Ok1.move;exact rfl)|(apply Ok1.assign;exact rfl)))|(apply R.is0;(apply R.clearG (zc:=Ak.v ak0);(iterate 4 exact rfl);exact (by decide);exact rfl;exact rfl;omega;exact Upd.head;exact hclr2))|apply R.nil|(apply T.is;first|(apply T.drawC (id:=5) [] (by decide);((apply A.tk 0;exact rfl;kernel_rfl;(apply Ok1.move;exact rfl))<;>(apply A.tk 1;exact rfl;kernel_rfl;(apply Ok1.move;exact rfl))<;>(apply A.tk 2;exact rfl;kernel_rfl;(apply Ok1.sliceTo;(iterate 6 exact rfl);omega;omega;omega;(exact Or.inl rfl)))<;>(apply A.tk 3;exact rfl;kernel_rfl;(apply Ok1.move;exact rfl))<;>(apply A.tk 4;exact rfl;kernel_rfl;(apply Ok1.move;exact rfl))<;>(apply A.tk 5;exact rfl;kernel_rfl;(apply Ok1.sliceSuf (ov:=some (b,j,junk)) (sz:=10) (n:=xs.length) (i:=i+1);(iterate 5 exact rfl);exact hov;exact rfl;omega))<;>(apply A.one 6;kernel_rfl;exact rfl;(((apply R.appendIn (n:=i) (m:=xs.length - (i+1)) (j:=xs.length+j - i) (old:=O) (news:=N) (junk:=J);(iterate 7 exact rfl);omega;exact rfl;exact hslen;exact hO;(rw [hJd];congr 1;omega);exact Upd.head;(intro w1 hw1;exact hhold _ _ _ hw1 (by exact At.head));exact hNl;exact hon;omega)));apply R.nil;refine ⟨?_,?_⟩;(focus ((repeat' (exact trivial)))))<;>(apply A.tk 7;exact rfl;kernel_rfl;(apply Ok1.assign;exact rfl))<;>(apply A.done;kernel_rfl)))|apply T.seq|apply T.region|apply T.skip|apply T.ret|(apply T.cond_f;exact rfl)))
  (apply RetOk.t;exact rfl)
  refine ⟨_,?_,some (b,j+1,Ak.v ak0++(J.drop N.length).drop 10),⟨?_,?_⟩,?_,rfl⟩
  · (focus (repeat' first|exact Keep.nil _|exact Ext.one _ _|apply Keep.cons);done)
  · exact hON
  · show _=_
    rw [List.length_append,List.length_drop,hJ2,Ak.v_len];omega
  · rw [hq1]
    show Value.slice _ _ _=Value.slice _ _ _
    congr 1
    omega
def FrC (bs:Nat) (ov:Ov) (n:Nat) (since:Int) (is:Bool):List Value:=[.pointer (some ⟨bs,0,none⟩),slV ov n,.int .i64 since,.bool is]
def FL (bf bs:Nat) (gs:List Lg) (ov:Ov) (al:List Ak) (since:Int) (is:Bool):Lst :=
  (bf,.cells ⟨FrC bs ov al.length since is⟩ 166 (0,0))::(blkL 164 ov (fl Ak.v al)++SetL bs gs)
structure FOk (gs:List Lg) (ov:Ov) (al:List Ak) (since:Int):Prop where
  g:GOk gs
  ov:OvOk 10 ov al.length (fl Ak.v al)
  le:al.length≤8
  tk:∀ a∈al,0≤a.tick∧a.tick≤1073741824
  si:0≤since∧since≤1073741824
structure FR (w:World) (bf bs:Nat) (gs:List Lg) (ov:Ov) (al:List Ak) (since:Int) (is:Bool):Prop where
  b:w.heap[bf]? = some (.cells ⟨FrC bs ov al.length since is⟩ 166 (0,0))
  rd:RdSl w (ovp ov) Ak.v al
  s:SetR w bs gs
theorem FR.of {bf bs:Nat} {gs:List Lg} {ov:Ov} {al:List Ak} {since:Int} {is:Bool} (h:FOk gs ov al since) {w0 w:World} {S:List Nat} {L:Lst} (hw:Hp w0 S L w) (hin:∀ x∈FL bf bs gs ov al since is,x∈L):FR w bf bs gs ov al since is :=
  ⟨hw.get _ _ (hin _ List.mem_cons_self),RdSl.own' hw (fun x hx=>hin x (List.mem_cons_of_mem _ (List.mem_append_left _ hx))) h.ov Ak.v_len,SetR.of h.g hw fun x hx=>hin x (List.mem_cons_of_mem _ (List.mem_append_right _ hx))⟩
theorem FR.chg {bf bs:Nat} {gs:List Lg} {ov:Ov} {al:List Ak} {since:Int} {is:Bool} {w w':World} (h:FR w bf bs gs ov al since is) (hc:Chg [] w w'):FR w' bf bs gs ov al since is :=
  ⟨hc.heap h.b List.not_mem_nil,h.rd.chg' hc (fun _=>Off.nil _),h.s.chg hc⟩
theorem fcheck_ok (p:Addr) (seed tick:Int):CallP Tryz.prog 65 [.pointer (some p),.int .i64 seed,.int .i64 tick] (.int .i64 (if Rgt seed tick then 0 else 10)):=by
  refine enterP (tb:=tb) Tryz.func65 rfl Tryz.ntmps65 rfl fun w=>?_
  by_cases h1:seed < 0
  · rw [if_neg (fun h=>by have:=h.1;omega)]
    repeat' (first|(apply R.is1;first|(apply R.isBin;(apply R.pure;exact rfl;first|(apply Ok1.lss_t;exact rfl;exact rfl;omega)|(apply Ok1.eqlP;(iterate 5 exact rfl))))|(apply R.pure;exact rfl;first|(apply Ok1.move;exact rfl)|(apply Ok1.assign;exact rfl)|(apply Ok1.pick_t;exact rfl;exact rfl)))|(apply R.isG;(apply R.guard_not;(iterate 3 exact rfl)))|apply R.nil|(apply T.is;first|apply T.seq|apply T.region|apply T.block|apply T.ret|(apply T.cond_t;exact rfl)|(apply T.cond_f;exact rfl)))
    all_goals (apply RetOk.t;exact rfl)
    all_goals rfl
  · by_cases h2:4≤seed
    · rw [if_neg (fun h=>by have:=h.2.1;omega)]
      repeat' (first|(apply R.is1;first|(apply R.isBin;(apply R.pure;exact rfl;first|(apply Ok1.lss_f;exact rfl;exact rfl;omega)|(apply Ok1.geq_t;exact rfl;exact rfl;omega)|(apply Ok1.eqlP;(iterate 5 exact rfl))))|(apply R.pure;exact rfl;first|(apply Ok1.move;exact rfl)|(apply Ok1.assign;exact rfl)|(apply Ok1.pick_t;exact rfl;exact rfl)|(apply Ok1.pick_f;exact rfl;exact rfl)))|(apply R.isG;first|(apply R.guard_run;exact rfl;exact rfl)|(apply R.guard_not;(iterate 3 exact rfl)))|apply R.nil|(apply T.is;first|apply T.seq|apply T.region|apply T.block|apply T.ret|(apply T.cond_t;exact rfl)|(apply T.cond_f;exact rfl)))
      all_goals (apply RetOk.t;exact rfl)
      all_goals rfl
    · by_cases h3:tick < 0
      · rw [if_neg (fun h=>by have:=h.2.2.1;omega)]
        repeat' (first|(apply R.is1;first|(apply R.isBin;(apply R.pure;exact rfl;first|(apply Ok1.lss_t;exact rfl;exact rfl;omega)|(apply Ok1.lss_f;exact rfl;exact rfl;omega)|(apply Ok1.geq_f;exact rfl;exact rfl;omega)|(apply Ok1.eqlP;(iterate 5 exact rfl))))|(apply R.pure;exact rfl;first|(apply Ok1.move;exact rfl)|(apply Ok1.assign;exact rfl)|(apply Ok1.pick_t;exact rfl;exact rfl)|(apply Ok1.pick_f;exact rfl;exact rfl)))|(apply R.isG;first|(apply R.guard_run;exact rfl;exact rfl)|(apply R.guard_not;(iterate 3 exact rfl)))|apply R.nil|(apply T.is;first|apply T.seq|apply T.region|apply T.block|apply T.ret|(apply T.cond_t;exact rfl)|(apply T.cond_f;exact rfl)))
        all_goals (apply RetOk.t;exact rfl)
        all_goals rfl
      · by_cases h4:1073741824 < tick
        · rw [if_neg (fun h=>by have:=h.2.2.2;omega)]
          repeat' (first|(apply R.is1;first|(apply R.isBin;(apply R.pure;exact rfl;first|(apply Ok1.lss_f;exact rfl;exact rfl;omega)|(apply Ok1.gtr_t;exact rfl;exact rfl;omega)|(apply Ok1.geq_f;exact rfl;exact rfl;omega)|(apply Ok1.eqlP;(iterate 5 exact rfl))))|(apply R.pure;exact rfl;first|(apply Ok1.move;exact rfl)|(apply Ok1.assign;exact rfl)|(apply Ok1.pick_f;exact rfl;exact rfl)))|(apply R.isG;(apply R.guard_run;exact rfl;exact rfl))|apply R.nil|(apply T.is;first|apply T.seq|apply T.region|apply T.block|apply T.ret|(apply T.cond_t;exact rfl)|(apply T.cond_f;exact rfl)))
          all_goals (apply RetOk.t;exact rfl)
          all_goals rfl
        · rw [if_pos ⟨by omega,by omega,by omega,by omega⟩]
          repeat' (first|(apply R.is1;first|(apply R.isBin;(apply R.pure;exact rfl;first|(apply Ok1.lss_f;exact rfl;exact rfl;omega)|(apply Ok1.gtr_f;exact rfl;exact rfl;omega)|(apply Ok1.geq_f;exact rfl;exact rfl;omega)|(apply Ok1.eqlP;(iterate 5 exact rfl))))|(apply R.pure;exact rfl;first|(apply Ok1.move;exact rfl)|(apply Ok1.assign;exact rfl)|(apply Ok1.pick_f;exact rfl;exact rfl)))|(apply R.isG;(apply R.guard_run;exact rfl;exact rfl))|apply R.nil|(apply T.is;first|apply T.seq|apply T.region|apply T.block|apply T.skip|apply T.ret|(apply T.cond_f;exact rfl)))
          all_goals (apply RetOk.t;exact rfl)
          all_goals rfl
theorem fsince_ok (bf bs:Nat) (ov:Ov) (n:Nat) (since:Int) (is:Bool) (w:World) (hb:w.heap[bf]? = some (.cells ⟨FrC bs ov n since is⟩ 166 (0,0))):CallW Tryz.prog 10 [.pointer (some ⟨bf,0,none⟩)] w fun v _=>v = .tuple #[.int .i64 since,.bool is]:=by
  refine enterW (tb:=tb) Tryz.func10 rfl Tryz.ntmps10 rfl ?_
  repeat' (first|(apply R.is1;first|(apply R.isBin;(apply R.pure;exact rfl;(apply Ok1.eqlP;(iterate 5 exact rfl))))|(apply R.pure;exact rfl;first|(apply Ok1.move;exact rfl)|(apply Ok1.assign;exact rfl)))|apply R.nil|(apply T.is;first|(apply T.drawC (id:=3) [] (by decide);((apply A.tk 0;exact rfl;kernel_rfl;(apply Ok1.move;exact rfl))<;>(apply A.tk 1;exact rfl;kernel_rfl;(apply Ok1.nilCheck;exact rfl))<;>(apply A.tk 2;exact rfl;kernel_rfl;(apply Ok1.fieldAddr;(iterate 5 exact rfl)))<;>(apply A.tk 3;exact rfl;kernel_rfl;(apply Ok1.load;exact rfl;apply Ld.blk1;exact rfl;exact rfl;exact hb;exact List.not_mem_nil;exact rfl))<;>(apply A.tk 4;exact rfl;kernel_rfl;(apply Ok1.move;exact rfl))<;>(apply A.tk 5;exact rfl;kernel_rfl;(apply Ok1.nilCheck;exact rfl))<;>(apply A.tk 6;exact rfl;kernel_rfl;(apply Ok1.fieldAddr;(iterate 5 exact rfl)))<;>(apply A.tk 7;exact rfl;kernel_rfl;(apply Ok1.load;exact rfl;apply Ld.blk1;exact rfl;exact rfl;exact hb;exact List.not_mem_nil;exact rfl))<;>(apply A.tk 8;exact rfl;kernel_rfl;(apply Ok1.assign;exact rfl))<;>(apply A.tk 9;exact rfl;kernel_rfl;(apply Ok1.assign;exact rfl))<;>(apply A.done;kernel_rfl)))|apply T.seq|apply T.region|apply T.skip|apply T.ret|(apply T.cond_f;exact rfl)))
  all_goals (apply RetOk.tt;exact rfl;exact rfl)
  all_goals rfl
theorem fis_ok (bf bs:Nat) (ov:Ov) (n:Nat) (since:Int) (is:Bool) (tick within:Int) (ht:0≤tick∧tick≤1073741824) (hi : -1073741824≤within∧within≤1073741824) (w:World) (hb:w.heap[bf]? = some (.cells ⟨FrC bs ov n since is⟩ 166 (0,0))) :
    CallW Tryz.prog 13 [.pointer (some ⟨bf,0,none⟩),.int .i64 tick,.int .i64 within] w fun v _=>v = .bool (is && decide (0≤within) && decide (tick - within≤since)):=by
  have h:=fun w1 (hc:Chg [] w w1)=>fsince_ok bf bs ov n since is w1 (hc.heap hb List.not_mem_nil)
  refine enterW (tb:=tb) Tryz.func13 rfl Tryz.ntmps13 rfl ?_
  cases is with
  | false =>
    repeat' (first|(apply R.is1;first|(apply R.isCall;(apply R.callV (vs:=[.pointer (some ⟨bf,0,none⟩)]);(iterate 3 exact rfl);intro w1 hw1;exact h w1 hw1.chg))|(apply R.pure;exact rfl;first|(apply Ok1.move;exact rfl)|(apply Ok1.assign;exact rfl)|(apply Ok1.extract;exact rfl;exact rfl)|(apply Ok1.pick_f;exact rfl;exact rfl)))|(apply R.isG;(apply R.guard_not;(iterate 3 exact rfl)))|apply R.nil|(apply T.is;first|apply T.seq|apply T.region|apply T.ret))
    all_goals (apply RetOk.t;exact rfl)
    all_goals rfl
  | true =>
    by_cases h1:0≤within
    · rw [decide_eq_true h1]
      repeat' (first|(apply R.is1;first|(apply R.isBin;first|(apply R.pure;exact rfl;first|(apply Ok1.sub64;exact rfl;exact rfl;omega;omega)|(apply Ok1.geq_t;exact rfl;exact rfl;omega))|(apply R.geq rfl rfl rfl<;>intro))|(apply R.isCall;(apply R.callV (vs:=[.pointer (some ⟨bf,0,none⟩)]);(iterate 3 exact rfl);intro w1 hw1;exact h w1 hw1.chg))|(apply R.pure;exact rfl;first|(apply Ok1.move;exact rfl)|(apply Ok1.assign;exact rfl)|(apply Ok1.extract;exact rfl;exact rfl)|(apply Ok1.pick_t;exact rfl;exact rfl)))|(apply R.isG;(apply R.guard_run;exact rfl;exact rfl))|apply R.nil|(apply T.is;first|apply T.seq|apply T.region|apply T.ret))
      all_goals (apply RetOk.t;exact rfl)
      all_goals simp_all
    · rw [decide_eq_false h1]
      repeat' (first|(apply R.is1;first|(apply R.isBin;(apply R.pure;exact rfl;(apply Ok1.geq_f;exact rfl;exact rfl;omega)))|(apply R.isCall;(apply R.callV (vs:=[.pointer (some ⟨bf,0,none⟩)]);(iterate 3 exact rfl);intro w1 hw1;exact h w1 hw1.chg))|(apply R.pure;exact rfl;first|(apply Ok1.move;exact rfl)|(apply Ok1.assign;exact rfl)|(apply Ok1.extract;exact rfl;exact rfl)|(apply Ok1.pick_t;exact rfl;exact rfl)|(apply Ok1.pick_f;exact rfl;exact rfl)))|(apply R.isG;first|(apply R.guard_run;exact rfl;exact rfl)|(apply R.guard_not;(iterate 3 exact rfl)))|apply R.nil|(apply T.is;first|apply T.seq|apply T.region|apply T.ret))
      all_goals (apply RetOk.t;exact rfl)
      all_goals simp_all
theorem fset_ok (bf bs:Nat) (gs:List Lg) (hg:GOk gs) (ov:Ov) (n:Nat) (since:Int) (is:Bool) (w:World) (hb:w.heap[bf]? = some (.cells ⟨FrC bs ov n since is⟩ 166 (0,0))) (hs:SetR w bs gs) :
    CallM Tryz.prog 14 [.pointer (some ⟨bf,0,none⟩)] [] w fun v L=>∃ bc gs',v = .pointer (some ⟨bc,0,none⟩)∧lgs gs'=lgs gs∧GOk gs' ∧ L=SetL bc gs':=by
  have h:=fun w1 (hc:Chg [] w w1)=>copy_ok bs gs hg w1 (hs.chg hc)
  refine enterK (tb:=tb) Tryz.func14 rfl Tryz.ntmps14 rfl ?_
  repeat' (first|(apply R.is1;first|(apply R.isBin;(apply R.pure;exact rfl;(apply Ok1.eqlP;(iterate 5 exact rfl))))|(apply R.isCall;(apply R.callE (vs:=[.pointer (some ⟨bs,0,none⟩)]);(iterate 3 exact rfl);exact Ext.none _;intro w1 hw1;exact h w1 hw1.chg;rintro v Lo ⟨bc,gs',rfl,hl,hg',rfl⟩))|(apply R.pure;exact rfl;first|(apply Ok1.load;exact rfl;apply Ld.blk1;exact rfl;exact rfl;exact hb;exact List.not_mem_nil;exact rfl)|(apply Ok1.move;exact rfl)|(apply Ok1.fieldAddr;(iterate 5 exact rfl))|(apply Ok1.assign;exact rfl)|(apply Ok1.nilCheck;exact rfl)))|apply R.nil|(apply T.is;first|apply T.seq|apply T.region|apply T.skip|apply T.ret|(apply T.cond_f;exact rfl)))
  (apply RetOk.t;exact rfl)
  exact ⟨_,by (focus (repeat' first|exact Ext.one _ _|exact Ext.here _ _|apply Keep.cons|apply Keep.last);done),bc,gs',rfl,hl,hg',rfl⟩
theorem opn_snoc {al:List Ak} {i:Nat} {x:Ak} (h:al[i]? = some x) (t:Int):opn (al.take (i+1)) t=opn (al.take i) t++(if x.op t=true then [x] else []):=by
  rw [opn,List.take_add_one,h,List.filter_append]
  cases hx:x.op t<;>simp [opn,hx]
theorem opn_le (al:List Ak) (t:Int):(opn al t).length≤al.length:=List.length_filter_le _ _
theorem fopen_ok (bf bs:Nat) (ov:Ov) (al:List Ak) (hov:OvOk 10 ov al.length (fl Ak.v al)) (hle:al.length≤8) (since:Int) (is:Bool) (tick:Int) (h0:0≤tick) (h1:tick≤1073741824) (w:World) (hb:w.heap[bf]? = some (.cells ⟨FrC bs ov al.length since is⟩ 166 (0,0))) (hr:RdSl w (ovp ov) Ak.v al) :
    CallW Tryz.prog 15 [.pointer (some ⟨bf,0,none⟩),.int .i64 tick] w fun v _=>v = .int .i64 (opn al tick).length:=by
  have hsl:=slV_eq hov
  refine enterW (tb:=tb) Tryz.func15 rfl Tryz.ntmps15 rfl ?_
  repeat' (first|(apply R.is1;first|(apply R.isBin;(apply R.pure;exact rfl;(apply Ok1.eqlP;(iterate 5 exact rfl))))|(apply R.isCall;(apply R.pure;exact rfl;(apply Ok1.lenS;(iterate 3 exact rfl))))|(apply R.pure;exact rfl;first|(apply Ok1.load;exact rfl;apply Ld.blk1;exact rfl;exact rfl;exact hb;exact List.not_mem_nil;(exact congrArg some hsl))|(apply Ok1.move;exact rfl)|(apply Ok1.fieldAddr;(iterate 5 exact rfl))|(apply Ok1.assign;exact rfl)|(apply Ok1.nilCheck;exact rfl)))|apply R.nil|(apply T.is;first|apply T.seq|apply T.region|apply T.block|apply T.skip|(apply T.cond_f;exact rfl)))
  apply T.loopK (α:=Nat) (I:=fun i=>i≤al.length) (σi:=fun i=>[(1,.int .i64 tick),(5,.int .i64 (opn (al.take i) tick).length),(13,.slice (ovp ov) al.length (ovc ov al.length)),(14,.int .i64 al.length),(15,.int .i64 i)]) (Li:=fun _=>[]) (μ:=fun i=>al.length - i) (i0:=0)
  · exact Nat.zero_le _
  · exact ⟨rfl,rfl,rfl,rfl,rfl,trivial⟩
  · (focus ((repeat' (exact Keep.nil _));done))
  · intro i hi
    have hol:=opn_le (al.take i) tick
    rw [List.length_take] at hol
    rcases Nat.lt_or_ge i al.length with hlt|hge
    · obtain ⟨x,hx⟩:∃ x,al[i]? = some x:=⟨_,List.getElem?_eq_getElem (by omega)⟩
      obtain ⟨bb,o,hpe,H⟩:=hr.at hx
      replace H:=H 10 Ak.v_len
      have hsn:=opn_snoc hx tick
      have ho:=aopen_ok x tick h0 h1
      have hl:x.v.length=10:=rfl
      cases hxo:x.op tick with
      | true =>
        rw [hxo] at ho hsn
        rw [if_pos rfl] at hsn
        repeat' (first|(apply R.is1;first|(apply R.isBin;(apply R.pure;exact rfl;first|(apply Ok1.add64;exact rfl;exact rfl;omega;omega)|(apply Ok1.lss_t;exact rfl;exact rfl;omega)))|(apply R.isCall;apply R.callP rfl rfl rfl ho)|(apply R.pure;exact rfl;first|(apply Ok1.indexAddrP;(iterate 4 exact rfl);exact hpe;exact rfl;omega;omega)|(apply Ok1.load;exact rfl;first|(apply Ld.rowk0 H;exact rfl;exact List.not_mem_nil;(iterate 3 exact rfl))|(apply Ld.ownk;exact rfl;exact rfl;exact At.head;exact subE_all hl))|(apply Ok1.move;exact rfl)|(apply Ok1.assign;exact rfl))|(apply R.alloc;(iterate 3 exact rfl);intro))|(apply R.is0;(apply R.store;(iterate 6 exact rfl);exact Upd.head;exact rfl))|apply R.nil|(apply T.is;first|apply T.seq|apply T.region|apply T.block|apply T.skip|(apply T.cond_t;exact rfl)))
        refine ⟨i+1,by omega,by omega,⟨rfl,?_,rfl,rfl,rfl,trivial⟩,by (focus ((repeat' (exact Keep.nil _));done))⟩
        rw [hsn,List.length_append]
        rfl
      | false =>
        rw [hxo] at ho hsn
        rw [if_neg (by decide),List.append_nil] at hsn
        repeat' (first|(apply R.is1;first|(apply R.isBin;(apply R.pure;exact rfl;first|(apply Ok1.add64;exact rfl;exact rfl;omega;omega)|(apply Ok1.lss_t;exact rfl;exact rfl;omega)))|(apply R.isCall;apply R.callP rfl rfl rfl ho)|(apply R.pure;exact rfl;first|(apply Ok1.indexAddrP;(iterate 4 exact rfl);exact hpe;exact rfl;omega;omega)|(apply Ok1.load;exact rfl;first|(apply Ld.rowk0 H;exact rfl;exact List.not_mem_nil;(iterate 3 exact rfl))|(apply Ld.ownk;exact rfl;exact rfl;exact At.head;exact subE_all hl))|(apply Ok1.move;exact rfl))|(apply R.alloc;(iterate 3 exact rfl);intro))|(apply R.is0;(apply R.store;(iterate 6 exact rfl);exact Upd.head;exact rfl))|apply R.nil|(apply T.is;first|apply T.seq|apply T.region|apply T.block|apply T.skip|(apply T.cond_t;exact rfl)|(apply T.cond_f;exact rfl)))
        refine ⟨i+1,by omega,by omega,⟨rfl,?_,rfl,rfl,rfl,trivial⟩,by (focus ((repeat' (exact Keep.nil _));done))⟩
        rw [hsn]
        rfl
    · have him:i=al.length:=by omega
      subst him
      rw [List.take_length] at *
      repeat' (first|(apply R.is1;first|(apply R.isBin;(apply R.pure;exact rfl;(apply Ok1.lss_f;exact rfl;exact rfl;omega)))|(apply R.pure;exact rfl;first|(apply Ok1.move;exact rfl)|(apply Ok1.assign;exact rfl)))|apply R.nil|(apply T.is;first|apply T.seq|apply T.region|apply T.exit|apply T.ret|(apply T.cond_f;exact rfl)))
      (apply RetOk.t;exact rfl)
      rfl
theorem ffind_ok (bf bs:Nat) (ov:Ov) (al:List Ak) (hov:OvOk 10 ov al.length (fl Ak.v al)) (hle:al.length≤8) (since:Int) (is:Bool) (seed tick:Int) (h0:0≤tick) (h1:tick≤1073741824) (p:Option Addr) (cap:Nat) (ds:List Int) (w:World) (hb:w.heap[bf]? = some (.cells ⟨FrC bs ov al.length since is⟩ 166 (0,0))) (hr:RdSl w (ovp ov) Ak.v al) (hd:RdSl w p u8V ds) :
    CallW Tryz.prog 69 [.pointer (some ⟨bf,0,none⟩),.int .i64 seed,.int .i64 tick,.slice p ds.length cap] w fun v _=>v = .int .i64 (posI al (Ak.is seed tick ds)):=by
  have hsl:=slV_eq hov
  have hgc:tb.fns.contains 144=true:=rfl
  have hidx:=fun b1 b2 b3 w1 (hc:Chg [] w w1) (e1:w1.heap[b1]? = some (.cells ⟨[.int .i64 seed]⟩ 3 (0,0))) (e2:w1.heap[b2]? = some (.cells ⟨[.int .i64 tick]⟩ 3 (0,0))) (e3:w1.heap[b3]? = some (.cells ⟨[.slice p ds.length cap]⟩ 22 (0,0)))=>aidx_ok (ovp ov) (ovc ov al.length) al (by omega) _ hgc [.pointer (some ⟨b1,0,none⟩),.pointer (some ⟨b2,0,none⟩),.pointer (some ⟨b3,0,none⟩)] (Ak.is seed tick ds) w1 (fun x w2 hc2=>find1_ok b1 b2 b3 x seed tick h0 h1 p cap ds w2 (hc2.heap e1 List.not_mem_nil) (hc2.heap e2 List.not_mem_nil) (hc2.heap e3 List.not_mem_nil) ((hd.chg' hc (fun _=>Off.nil _)).chg' hc2 (fun _=>Off.nil _))) (hr.chg' hc (fun _=>Off.nil _))
  refine enterW (tb:=tb) Tryz.func69 rfl Tryz.ntmps69 rfl ?_
  repeat' (first|(apply R.is1;first|(apply R.isCall;(apply R.callV;(iterate 3 exact rfl);intro w1 hw1;exact hidx _ _ _ w1 hw1.chg (hw1.get _ _ (At.mem (by (focus (repeat' first|exact At.head|apply At.tail);done)))) (hw1.get _ _ (At.mem (by (focus (repeat' first|exact At.head|apply At.tail);done)))) (hw1.get _ _ (At.mem (by exact At.head)))))|(apply R.pure;exact rfl;first|(apply Ok1.load;exact rfl;apply Ld.blk1;exact rfl;exact rfl;exact hb;exact List.not_mem_nil;(exact congrArg some hsl))|(apply Ok1.move;exact rfl)|(apply Ok1.fieldAddr;(iterate 5 exact rfl))|(apply Ok1.assign;exact rfl)|(apply Ok1.nilCheck;exact rfl)|(apply Ok1.makeFunc;exact rfl;exact rfl))|(apply R.box;(iterate 3 exact rfl);intro))|apply R.nil|(apply T.is;first|apply T.seq|apply T.region|apply T.ret))
  (apply RetOk.t;exact rfl)
  rfl
theorem cutD_mem:∀ {dd:List (Int × List Int)} {n:Nat} {x:Int × List Int},x∈cutD n dd→∃ y∈dd,∃ k,x=(y.1,y.2.take k)
  | [],_,_,h=>by cases h
  | y :: r,n,x,h=>by
    rcases List.mem_cons.1 h with h|h
    · exact ⟨y,List.mem_cons_self,n,h⟩
    · obtain ⟨z,hz,k,hk⟩:=cutD_mem h
      exact ⟨z,List.mem_cons_of_mem _ hz,k,hk⟩
theorem cutD_cnt:∀ (dd:List (Int × List Int)) (n:Nat),cntL (cutD n dd)≤n
  | [],_=>Nat.zero_le _
  | y::r,n=>by
    have:=cutD_cnt r (n - y.2.length)
    simp only [cutD,cntL,List.map_cons,List.sum_cons,List.length_take] at *
    omega
theorem encD_cnt:∀ (dd:List (Int × List Int)),(encD dd).length=4 * dd.length+2 * cntL dd
  | []=>rfl
  | y::r=>by
    have h1:=encD_cnt r
    have h2:=encL_len y
    simp only [encD,cntL,List.flatMap_cons,List.length_append,List.length_cons,List.map_cons,List.sum_cons] at *
    omega
theorem sin_mem {ls:List (List Int)} {vs:List Int} {x:Int × List Int} (h:x∈sinD ls (minV ls vs)) (hV:VR vs):0≤x.1∧x.1≤256∧∃ l∈ls,∃ k,x.2=l.drop k:=by
  obtain ⟨z,hz,rfl⟩:=List.mem_map.1 h
  have h1:=List.of_mem_zip hz
  obtain ⟨y,hy,h3⟩:=List.mem_map.1 h1.2
  have h4:=hV _ (List.of_mem_zip hy).2
  simp only
  refine ⟨by omega,by omega,z.1,h1.1,_,rfl⟩
theorem answer_all (bs:Nat) (gs:List Lg) (hg:GOk gs) (v0 v1 v2 v3:Int) (room:Int) (hr63:room≤9223372036854775807) (w:World) (hs:SetR w bs gs) :
    CallM Tryz.prog 77 [.pointer (some ⟨bs,0,none⟩),.agg ⟨iis [v0,v1,v2,v3]⟩,.int .i64 room] [] w fun v L=>∃ d E,d.length=4∧v = .tuple #[.agg ⟨dlV d⟩,.int .i64 E]∧DlO d L∧(¬ VR [v0,v1,v2,v3]→d=nod∧E=10)∧(VR [v0,v1,v2,v3]→room < 16→d=nod∧E=2)∧(VR [v0,v1,v2,v3]→16≤room→E=0∧pur d=cutD ((room - 16) / 2).toNat (sinD (lgs gs) (minV (lgs gs) [v0,v1,v2,v3]))):=by
  by_cases hV:VR [v0,v1,v2,v3]
  · by_cases hr:16≤room
    · refine (answer_ok bs gs hg v0 v1 v2 v3 hV room hr hr63 w hs).wk ?_
      rintro v L ⟨d,h1,h2,h3,h4⟩
      exact ⟨d,0,h1,h2,h4,fun h=>absurd hV h,fun _ h=>absurd hr (by omega),fun _ _=>⟨rfl,h3⟩⟩
    · have:=answer_bad bs [v0,v1,v2,v3] rfl room (.inr (by omega))
      rw [if_pos hV] at this
      refine ((this.w w).toM).wk ?_
      rintro v L ⟨rfl,rfl⟩
      exact ⟨nod,2,rfl,rfl,nod_o _,fun h=>absurd hV h,fun _ _=>⟨rfl,rfl⟩,fun _ h=>absurd h hr⟩
  · have:=answer_bad bs [v0,v1,v2,v3] rfl room (.inl hV)
    rw [if_neg hV] at this
    refine ((this.w w).toM).wk ?_
    rintro v L ⟨rfl,rfl⟩
    exact ⟨nod,10,rfl,rfl,nod_o _,fun _=>⟨rfl,rfl⟩,fun h=>absurd h hV,fun h=>absurd h hV⟩
theorem cov_snoc {us vs:List Int} {i:Nat} {u v:Int} (hu:us[i]? = some u) (hv:vs[i]? = some v):Cov (us.take (i+1)) (vs.take (i+1)) ↔ Cov (us.take i) (vs.take i)∧v≤u:=by
  unfold Cov
  have hz:(us.zip vs)[i]? = some (u,v):=by rw [List.getElem?_zip_eq_some];exact ⟨hu,hv⟩
  have e:∀ k,(us.take k).zip (vs.take k)=(us.zip vs).take k:=fun k=>List.take_zipWith.symm
  rw [e,e,List.take_add_one,hz]
  constructor
  · intro h
    exact ⟨fun x hx=>h x (List.mem_append_left _ hx),h (u,v) (List.mem_append_right _ (by simp))⟩
  · rintro ⟨h1,h2⟩ x hx
    rcases List.mem_append.1 hx with h|h
    · exact h1 x h
    · simp only [Option.toList_some,List.mem_singleton] at h
      rw [h];exact h2
theorem fnumbers_ok (p:Option Addr) (cap:Nat) (vs:List Int) (hV:VR vs) (hl:vs.length=4) (w:World) (hp:RdSl w p iV vs) :
    CallM Tryz.prog 72 [.slice p 4 cap] [] w fun v L=>∃ ov,OvOk 1 ov (numsI 1 vs).length (u8s (numsI 1 vs))∧v=slV ov (numsI 1 vs).length∧L=blkL 5 ov (u8s (numsI 1 vs)):=by
  have hn1:=fun bw w1 h1 h2=>numbers_ok bw none [] (OvOk.start 1) 1 p 4 cap vs hl.symm (vr_fits hV) (by rw [hl];decide) w1 h1 h2
  have hnl:=nums1_len vs
  have hwo:=fun bw ov hov w1 h1 h2=>wout_ok bw ov (numsI 1 vs) hov (by omega) w1 h1 h2
  rw [List.nil_append] at hn1
  refine enterK (tb:=tb) Tryz.func72 rfl Tryz.ntmps72 rfl ?_
  repeat' (first|(apply R.is1;first|(apply R.isCall;first|(apply R.callE (Li:=WL _ none []) (vs:=[.pointer (some ⟨_,0,none⟩),.int .i64 1,.slice p 4 cap]);(iterate 3 exact rfl);(focus ((repeat' (exact Ext.one _ _));done));intro w1 hw1;exact hn1 _ w1 (hp.chg' hw1.chg (fun _=>Off.nil _)) (RdSl.old iV_len (by decide) hp (fun _=>Off.nil _) hw1 (by (focus ((repeat' (exact Ext.one _ _));done))));rintro v Lo ⟨ov1,rfl,hov1,rfl⟩;simp only [WL,List.cons_append])|(apply R.callE (vs:=[.pointer (some ⟨_,0,none⟩)]);(iterate 3 exact rfl);exact Ext.none _;intro w1 hw1;exact hwo _ ov1 hov1 w1 (hw1.get _ _ (At.mem (by exact At.head))) (rdown hov1 hw1 (Ext.mem (by (focus (repeat' first|exact Ext.here _ _|apply Ext.cons);done))));rintro v Lo ⟨ov2,hov2,rfl,rfl⟩))|(apply R.pure;exact rfl;first|(apply Ok1.move;exact rfl)|(apply Ok1.assign;exact rfl)|(apply Ok1.extract;exact rfl;exact rfl))|(apply R.alloc;(iterate 3 exact rfl);intro))|apply R.nil|(apply T.is;first|apply T.seq|apply T.region|apply T.ret))
  (apply RetOk.t;exact rfl)
  exact ⟨_,by (focus (repeat' first|exact Ext.here _ _|apply Keep.last);done),ov2,hov2,rfl,rfl⟩
theorem fnew_ok (w:World):CallM Tryz.prog 17 [.pointer none] [] w fun v L=>∃ bf bs gs,v = .pointer (some ⟨bf,0,none⟩)∧lgs gs=[[],[],[],[]]∧FOk gs none [] 0∧L=FL bf bs gs none [] 0 false:=by
  have hn:=fun w1=>rnew_ok w1
  have hc:=fun bs w1 hs=>copy_ok bs [lg0,lg0,lg0,lg0] GOk.new w1 hs
  refine enterK (tb:=tb) Tryz.func17 rfl Tryz.ntmps17 rfl ?_
  repeat' (first|(apply R.is1;first|(apply R.isBin;(apply R.pure;exact rfl;(apply Ok1.eqlP;(iterate 5 exact rfl))))|(apply R.isCall;first|(apply R.callE (vs:=[]);(iterate 3 exact rfl);exact Ext.none _;intro w1 hw1;exact hn w1;rintro v Lo ⟨bs,rfl,rfl⟩)|(apply R.callE (vs:=[.pointer (some ⟨bs,0,none⟩)]);(iterate 3 exact rfl);exact Ext.none _;intro w1 hw1;exact hc bs w1 (SetR.of GOk.new hw1 (Ext.mem (by (focus ((repeat' (exact Ext.one _ _));done)))));rintro v Lo ⟨bc,gs',rfl,hl,hg',rfl⟩))|(apply R.pure;exact rfl;first|(apply Ok1.move;exact rfl)|(apply Ok1.assign;exact rfl)|(apply Ok1.build;(iterate 5 exact rfl)))|(apply R.box;(iterate 3 exact rfl);intro))|apply R.nil|(apply T.is;first|apply T.seq|apply T.region|apply T.ret|(apply T.cond_t;exact rfl)))
  (apply RetOk.t;exact rfl)
  refine ⟨_,?_,_,bc,gs',rfl,hl,⟨hg',⟨rfl,rfl⟩,by decide,by simp,by decide⟩,rfl⟩
  simp only [FL,blkL,List.nil_append]
  (focus (repeat' first|exact Ext.one _ _|exact Ext.here _ _|apply Keep.cons|apply Keep.last);done)
theorem ask1_hp {b:Nat} {tick:Int} (h0:0≤tick) (h1:tick≤1073741824) {w0 w:World} {S:List Nat} {L Li Lr:Lst} (hw:Hp w0 S L w) (he:Ext L Li Lr) (hat:At Lr b (.cells ⟨[.int .i64 tick]⟩ 3 (0,0))):∀ x w1,Chg (blks Li) w w1→CallW Tryz.prog 67 ([.agg ⟨Ak.v x⟩]++[.pointer (some ⟨b,0,none⟩)]) w1 fun v _=>v = .bool (!x.op tick):=fun x w1 hc =>
  ask1_ok b x tick h0 h1 w1 (hc.heap (hw.get _ _ (he.perm.subset (List.mem_append_right _ hat.mem))) ((Off.of (k:=0) hw he hat) _ rfl))
theorem opn_ff (al:List Ak) (t:Int):(al.filter fun x=>!(!x.op t))=opn al t:=by simp [opn]
theorem posI_neg (al:List Ak) (pr:Ak→Bool):(0≤posI al pr ↔ al.findIdx pr < al.length):=by
  unfold posI
  split
  · rename_i h;simp only [h,iff_true];omega
  · rename_i h;simp only [h,iff_false];omega
theorem ak_v {seed tick:Int} {dr:List Int} (h:dr.length=8):(ak seed tick dr).v=[.int .i64 seed,.int .i64 tick]++u8s dr:=by
  match dr,h with
  | [a,b,c,d,e,f,g,i],_=>rfl
theorem lens_I (gs:List Lg):lens gs=iis (lensI (lgs gs)):=by rw [lens_eq,lensI,lgs,List.map_map];rfl
theorem GOk.vr {gs:List Lg} (hg:GOk gs):VR (lensI (lgs gs)):=by
  intro x hx
  obtain ⟨l,hl,rfl⟩:=List.mem_map.1 hx
  obtain ⟨g,hgm,rfl⟩:=List.mem_map.1 hl
  have:=hg.le g hgm
  omega
theorem GOk.l4 {gs:List Lg} (hg:GOk gs):(lensI (lgs gs)).length=4:=by rw [lensI,lgs,List.length_map,List.length_map,hg.len]
theorem fask_ok (bf bs:Nat) (gs:List Lg) (ov:Ov) (al:List Ak) (since:Int) (is:Bool) (h:FOk gs ov al since) (seed tick:Int) (dr:List Int) (hdl:dr.length=8) (w:World) :
    CallM Tryz.prog 8 [.pointer (some ⟨bf,0,none⟩),.int .i64 seed,.int .i64 tick,.agg ⟨u8s dr⟩] (FL bf bs gs ov al since is) w fun v L=>∃ ov' ovb,v = .tuple #[slV ovb (FM.askB ⟨lgs gs,al,since,is⟩ seed tick dr).length,.int .i64 (FM.askE ⟨lgs gs,al,since,is⟩ seed tick dr)]∧OvOk 1 ovb (FM.askB ⟨lgs gs,al,since,is⟩ seed tick dr).length (u8s (FM.askB ⟨lgs gs,al,since,is⟩ seed tick dr))∧FOk gs ov' (FM.ask ⟨lgs gs,al,since,is⟩ seed tick dr).al since∧L=FL bf bs gs ov' (FM.ask ⟨lgs gs,al,since,is⟩ seed tick dr).al since is++blkL 5 ovb (u8s (FM.askB ⟨lgs gs,al,since,is⟩ seed tick dr)):=by
  have hck:=fcheck_ok ⟨bf,0,none⟩ seed tick
  by_cases hR:Rgt seed tick
  · rw [if_pos hR] at hck
    obtain ⟨_,_,h0,h1⟩:=hR
    have hR:Rgt seed tick:=⟨by assumption,by assumption,h0,h1⟩
    have hal:=h.le
    have hdel:=fun b6 w1 hg=>adel_ok ov al h.ov (by omega) 67 rfl [.pointer (some ⟨b6,0,none⟩)] (fun x=>!x.op tick) w1 hg
    simp only [opn_ff] at hdel
    have hle1:=opn_le al tick
    have hE:FM.askE ⟨lgs gs,al,since,is⟩ seed tick dr=if apos (opn al tick) seed tick dr < (opn al tick).length then 8 else if 8≤(opn al tick).length then 6 else 0:=if_neg (fun h=>h hR)
    have hA:FM.ask ⟨lgs gs,al,since,is⟩ seed tick dr=if FM.askE ⟨lgs gs,al,since,is⟩ seed tick dr=0 then ⟨lgs gs,opn al tick++[ak seed tick dr],since,is⟩ else ⟨lgs gs,opn al tick,since,is⟩:=if_neg (fun h=>h hR)
    have hB:FM.askB ⟨lgs gs,al,since,is⟩ seed tick dr=if FM.askE ⟨lgs gs,al,since,is⟩ seed tick dr=0 then dr++numsI 1 (lensI (lgs gs)) else []:=rfl
    rw [hA,hB,hE]
    have hfd:=fun ov1 hov1 d9 w1 e1 e2 e3=>ffind_ok bf bs ov1 (opn al tick) hov1 (by omega) since is seed tick h0 h1 (some ⟨d9,0,none⟩) 8 dr w1 e1 e2 e3
    rw [hdl] at hfd
    have hpn:=posI_neg (opn al tick) (Ak.is seed tick dr)
    have hap:apos (opn al tick) seed tick dr=(opn al tick).findIdx (Ak.is seed tick dr):=rfl
    rw [← hap] at hpn
    have htk1:∀ a∈opn al tick,0≤a.tick∧a.tick≤1073741824:=fun a ha=>h.tk a (opn_mem ha)
    have hakv:=ak_v (seed:=seed) (tick:=tick) hdl
    have hfo:∀ ov1,OvOk 10 ov1 (opn al tick).length (fl Ak.v (opn al tick))→FOk gs ov1 (opn al tick) since:=fun ov1 hov1=>⟨h.g,hov1,by omega,htk1,h.si⟩
    have hver:=fun w1 hs=>versions_ok bs gs h.g w1 hs
    rw [lens_I] at hver
    have hnum:=fun p w1 hp=>fnumbers_ok p 4 (lensI (lgs gs)) h.g.vr h.g.l4 w1 hp
    have hcat:cat [⟨some ⟨0,0,none⟩,8,dr⟩,⟨none,0,numsI 1 (lensI (lgs gs))⟩]=dr++numsI 1 (lensI (lgs gs)):=by simp [cat]
    have hnl:=nums1_len (lensI (lgs gs))
    rw [h.g.l4] at hnl
    have hcon:=fun q b7 pn cn w1 h1 (h2:RdSl w1 (some ⟨b7,0,none⟩) u8V dr) (h3:RdSl w1 pn u8V (numsI 1 (lensI (lgs gs))))=>concat_ok (some ⟨q,0,none⟩) 2 2 [⟨some ⟨b7,0,none⟩,8,dr⟩,⟨pn,cn,numsI 1 (lensI (lgs gs))⟩] rfl (by simp only [cat,List.flatMap_cons,List.flatMap_nil,List.append_nil,List.length_append];omega) (by decide) w1 h1 (by simp only [List.mem_cons,List.not_mem_nil,or_false,forall_eq_or_imp,forall_eq];exact ⟨h2,h3⟩)
    simp only [cat,List.flatMap_cons,List.flatMap_nil,List.append_nil] at hcon
    have hgg:=h.g
    obtain ⟨v0,v1,v2,v3,hvs⟩:∃ v0 v1 v2 v3,lensI (lgs gs)=[v0,v1,v2,v3]:=by
      have:=h.g.l4
      match lensI (lgs gs),this with
      | [a,b,c,d],_=>exact ⟨a,b,c,d,rfl⟩
    rw [hvs] at hver
    generalize hB0:numsI 1 (lensI (lgs gs))=NB at *
    rw [hvs] at hnum
    match dr,hdl with
    | [d0,d1,d2,d3,d4,d5,d6,d7],_ =>
    generalize hal1:opn al tick=al1 at *
    refine enterK (tb:=tb) Tryz.func8 rfl Tryz.ntmps8 rfl ?_
    simp only [FL,FrC,u8s,List.map_cons,List.map_nil]
    repeat' (first|(apply R.is1;first|(apply R.isBin;(apply R.pure;exact rfl;(apply Ok1.neq_f;exact rfl;exact rfl;omega)))|(apply R.isCall;first|apply R.callP rfl rfl rfl hck|(apply R.callE (Li:=blkL 164 ov (fl Ak.v al)) (vs:=[slV ov al.length,.func (.func 67) #[] #[.pointer (some ⟨_,0,none⟩)]]);(iterate 3 exact rfl);(focus (repeat' first|exact Ext.here _ _|apply Ext.cons);done);intro w1 hw1;exact hdel _ w1 (ask1_hp h0 h1 hw1 (by (focus (repeat' first|exact Ext.here _ _|apply Ext.cons);done)) (by (focus (repeat' first|exact At.head|apply At.tail);done)));rintro v Lo ⟨ov1,hov1,rfl,rfl⟩;rw [slV_eq hov1]))|(apply R.pure;exact rfl;first|(apply Ok1.move;exact rfl)|(apply Ok1.fieldAddr;(iterate 5 exact rfl))|(apply Ok1.load;exact rfl;(apply Ld.own1;exact rfl;exact rfl;(focus (repeat' first|exact At.head|apply At.tail);done);exact rfl))|(apply Ok1.assign;exact rfl)|(apply Ok1.nilCheck;exact rfl)|(apply Ok1.makeFunc;exact rfl;exact rfl))|(apply R.box;(iterate 3 exact rfl);intro))|(apply R.is0;(apply R.store;(iterate 6 exact rfl);(focus (repeat' first|exact Upd.head|apply Upd.tail|apply Upd.right);done);exact rfl))|apply R.nil|(apply T.is;first|apply T.seq|apply T.region|apply T.block|apply T.skip|(apply T.cond_f;exact rfl)))
    rename_i b6 b7
    have hsl1:=slV_eq hov1
    have hfi:=fun w1 e1 e2 e3=>hfd ov1 hov1 b7 w1 e1 e2 e3
    simp only [FrC,hsl1] at hfi
    have hfx:=hfo ov1 hov1
    refine T.weakK (σ':=[(0,.pointer (some ⟨bf,0,none⟩)),(1,.int .i64 seed),(6,.pointer (some ⟨b6,0,none⟩)),(7,.pointer (some ⟨b7,0,none⟩))]) (L':=(b6,.cells ⟨[.int .i64 tick]⟩ 3 (0,0))::(b7,.cells ⟨[.int .u8 d0,.int .u8 d1,.int .u8 d2,.int .u8 d3,.int .u8 d4,.int .u8 d5,.int .u8 d6,.int .u8 d7]⟩ 27 (0,0))::(bf,.cells ⟨[.pointer (some ⟨bs,0,none⟩),.slice (ovp ov1) al1.length (ovc ov1 al1.length),.int .i64 since,.bool is]⟩ 166 (0,0))::(blkL 164 ov1 (fl Ak.v al1)++SetL bs gs)) ?_ (by (focus (repeat' first|exact Ext.one _ _|exact Ext.here _ _|exact Ext.all _|apply Keep.cons|apply Keep.app|apply Keep.last|apply Ext.cons|apply Ext.app);done)) ⟨rfl,rfl,rfl,rfl,trivial⟩
    by_cases cf:apos al1 seed tick [d0,d1,d2,d3,d4,d5,d6,d7] < al1.length
    · have hp0:=hpn.2 cf
      rw [if_pos cf] at hE
      rw [if_pos cf]
      simp only [hE,if_neg (show ¬ (8:Int)=0 by decide)]
      generalize posI al1 (Ak.is seed tick [d0,d1,d2,d3,d4,d5,d6,d7])=pz at *
      repeat' (first|(apply R.is1;(apply R.pure;exact rfl;(apply Ok1.assign;exact rfl)))|apply R.nil|(apply T.is;first|(apply T.drawC (id:=5) [0,1,2] (by decide);((apply A.tk 0;exact rfl;kernel_rfl;(apply Ok1.move;exact rfl))<;>(apply A.tk 1;exact rfl;kernel_rfl;(apply Ok1.move;exact rfl))<;>(apply A.tk 2;exact rfl;kernel_rfl;(apply Ok1.load;exact rfl;(apply Ld.own1;exact rfl;exact rfl;exact At.head;exact rfl)))<;>(apply A.tk 3;exact rfl;kernel_rfl;(apply Ok1.sliceArr;(iterate 4 exact rfl)))<;>(apply A.one 4;kernel_rfl;exact rfl;(((apply R.callV (vs:=[.pointer (some ⟨bf,0,none⟩),.int .i64 seed,.int .i64 tick,.slice (some ⟨b7,0,none⟩) 8 8]);(iterate 3 exact rfl);intro w1 hw1;exact hfi w1 (hw1.get _ _ (At.mem (by (focus (repeat' first|exact At.head|apply At.tail);done)))) (RdSl.own' hw1 (Ext.mem (by (focus (repeat' first|exact Ext.here _ _|apply Ext.cons);done))) hov1 Ak.v_len) (RdSl.of (junk:=[]) hw1 (by (focus (repeat' first|exact At.head|apply At.tail);done)) rfl))));apply R.nil;refine ⟨?_,?_⟩;(focus (repeat' first|exact trivial|exact At.head|apply At.tail|refine ⟨?_,?_⟩)))<;>((apply A.tk 5;exact rfl;kernel_rfl;(apply Ok1.geq_t;exact rfl;exact rfl;omega)))<;>(apply A.tk 6;exact rfl;kernel_rfl;(apply Ok1.assign;exact rfl))<;>(apply A.done;kernel_rfl)))|apply T.seq|apply T.region|apply T.ret|(apply T.cond_t;exact rfl)))
      (apply RetOk.tt;exact rfl;exact rfl)
      refine ⟨_,?_,ov1,none,rfl,⟨rfl,rfl⟩,hfx,rfl⟩
      simp only [FL,FrC,hsl1,blkL]
      (focus (repeat' first|exact Keep.nil _|exact Ext.one _ _|exact Ext.all _|apply Keep.cons|apply Keep.app|apply Ext.cons);done)
    · have hp0:¬ 0≤posI al1 (Ak.is seed tick [d0,d1,d2,d3,d4,d5,d6,d7]):=fun h9=>cf (hpn.1 h9)
      rw [if_neg cf] at hE
      rw [if_neg cf]
      generalize posI al1 (Ak.is seed tick [d0,d1,d2,d3,d4,d5,d6,d7])=pz at *
      by_cases c8:8≤al1.length
      · simp only [if_pos c8,if_neg (show ¬ (6:Int)=0 by decide)]
        repeat' (first|(apply R.is1;first|(apply R.isBin;(apply R.pure;exact rfl;(apply Ok1.geq_t;exact rfl;exact rfl;omega)))|(apply R.isCall;(apply R.pure;exact rfl;(apply Ok1.lenS;(iterate 3 exact rfl))))|(apply R.pure;exact rfl;first|(apply Ok1.move;exact rfl)|(apply Ok1.fieldAddr;(iterate 5 exact rfl))|(apply Ok1.load;exact rfl;(apply Ld.own1;exact rfl;exact rfl;(focus (repeat' first|exact At.head|apply At.tail);done);exact rfl))|(apply Ok1.assign;exact rfl)|(apply Ok1.nilCheck;exact rfl)))|apply R.nil|(apply T.is;first|(apply T.drawC (id:=5) [0,1,2] (by decide);((apply A.tk 0;exact rfl;kernel_rfl;(apply Ok1.move;exact rfl))<;>(apply A.tk 1;exact rfl;kernel_rfl;(apply Ok1.move;exact rfl))<;>(apply A.tk 2;exact rfl;kernel_rfl;(apply Ok1.load;exact rfl;(apply Ld.own1;exact rfl;exact rfl;exact At.head;exact rfl)))<;>(apply A.tk 3;exact rfl;kernel_rfl;(apply Ok1.sliceArr;(iterate 4 exact rfl)))<;>(apply A.one 4;kernel_rfl;exact rfl;(((apply R.callV (vs:=[.pointer (some ⟨bf,0,none⟩),.int .i64 seed,.int .i64 tick,.slice (some ⟨b7,0,none⟩) 8 8]);(iterate 3 exact rfl);intro w1 hw1;exact hfi w1 (hw1.get _ _ (At.mem (by (focus (repeat' first|exact At.head|apply At.tail);done)))) (RdSl.own' hw1 (Ext.mem (by (focus (repeat' first|exact Ext.here _ _|apply Ext.cons);done))) hov1 Ak.v_len) (RdSl.of (junk:=[]) hw1 (by (focus (repeat' first|exact At.head|apply At.tail);done)) rfl))));apply R.nil;refine ⟨?_,?_⟩;(focus (repeat' first|exact trivial|exact At.head|apply At.tail|refine ⟨?_,?_⟩)))<;>((apply A.tk 5;exact rfl;kernel_rfl;(apply Ok1.geq_f;exact rfl;exact rfl;omega)))<;>(apply A.tk 6;exact rfl;kernel_rfl;(apply Ok1.assign;exact rfl))<;>(apply A.done;kernel_rfl)))|apply T.seq|apply T.region|apply T.ret|(apply T.cond_t;exact rfl)|(apply T.cond_f;exact rfl)))
        (apply RetOk.tt;exact rfl;exact rfl)
        refine ⟨_,?_,ov1,none,rfl,⟨rfl,rfl⟩,hfx,rfl⟩
        simp only [FL,FrC,hsl1,blkL]
        (focus (repeat' first|exact Keep.nil _|exact Ext.one _ _|exact Ext.all _|apply Keep.cons|apply Keep.app|apply Ext.cons);done)
      · simp only [if_neg c8,if_pos (show (0:Int)=0 by decide)]
        repeat' (first|(apply R.is1;first|(apply R.isBin;(apply R.pure;exact rfl;(apply Ok1.geq_f;exact rfl;exact rfl;omega)))|(apply R.isCall;(apply R.callV (vs:=[.pointer (some ⟨bs,0,none⟩)]);(iterate 3 exact rfl);intro w1 hw1;exact hver w1 (SetR.of hgg hw1 (Ext.mem (by (focus (repeat' first|exact Ext.all _|apply Ext.cons);done))))))|(apply R.pure;exact rfl;first|(apply Ok1.load;exact rfl;apply Ld.own1;exact rfl;exact rfl;(focus (repeat' first|exact At.head|apply At.tail);done);exact (congrArg some hsl1.symm))|(apply Ok1.lenOv;(iterate 3 exact rfl);exact hov1)|(apply Ok1.move;exact rfl)|(apply Ok1.fieldAddr;(iterate 5 exact rfl))|(apply Ok1.load;exact rfl;(apply Ld.own1;exact rfl;exact rfl;(focus (repeat' first|exact At.head|apply At.tail);done);exact rfl))|(apply Ok1.assign;exact rfl)|(apply Ok1.nilCheck;exact rfl))|(apply R.alloc;(iterate 3 exact rfl);intro))|(apply R.is0;(apply R.store;(iterate 6 exact rfl);exact Upd.head;exact rfl))|apply R.nil|(apply T.is;first|(apply T.drawC (id:=5) [0,1,2] (by decide);((apply A.tk 0;exact rfl;kernel_rfl;(apply Ok1.move;exact rfl))<;>(apply A.tk 1;exact rfl;kernel_rfl;(apply Ok1.move;exact rfl))<;>(apply A.tk 2;exact rfl;kernel_rfl;(apply Ok1.load;exact rfl;(apply Ld.own1;exact rfl;exact rfl;exact At.head;exact rfl)))<;>(apply A.tk 3;exact rfl;kernel_rfl;(apply Ok1.sliceArr;(iterate 4 exact rfl)))<;>(apply A.one 4;kernel_rfl;exact rfl;(((apply R.callV (vs:=[.pointer (some ⟨bf,0,none⟩),.int .i64 seed,.int .i64 tick,.slice (some ⟨b7,0,none⟩) 8 8]);(iterate 3 exact rfl);intro w1 hw1;exact hfi w1 (hw1.get _ _ (At.mem (by (focus (repeat' first|exact At.head|apply At.tail);done)))) (RdSl.own' hw1 (Ext.mem (by (focus (repeat' first|exact Ext.here _ _|apply Ext.cons);done))) hov1 Ak.v_len) (RdSl.of (junk:=[]) hw1 (by (focus (repeat' first|exact At.head|apply At.tail);done)) rfl))));apply R.nil;refine ⟨?_,?_⟩;(focus (repeat' first|exact trivial|exact At.head|apply At.tail|refine ⟨?_,?_⟩)))<;>((apply A.tk 5;exact rfl;kernel_rfl;(apply Ok1.geq_f;exact rfl;exact rfl;omega)))<;>(apply A.tk 6;exact rfl;kernel_rfl;(apply Ok1.assign;exact rfl))<;>(apply A.done;kernel_rfl)))|(apply T.drawC (id:=9) [0,1] (by decide);((apply A.tk 0;exact rfl;kernel_rfl;(apply Ok1.move;exact rfl))<;>(apply A.tk 1;exact rfl;kernel_rfl;(apply Ok1.move;exact rfl))<;>(apply A.tk 2;exact rfl;kernel_rfl;(apply Ok1.nilCheck;exact rfl))<;>(apply A.tk 3;exact rfl;kernel_rfl;(apply Ok1.fieldAddr;(iterate 5 exact rfl)))<;>(apply A.tk 5;exact rfl;kernel_rfl;(apply Ok1.move;exact rfl))<;>(apply A.tk 6;exact rfl;kernel_rfl;(apply Ok1.load;exact rfl;(apply Ld.own1;exact rfl;exact rfl;exact At.head;exact rfl)))<;>(apply A.tk 7;exact rfl;kernel_rfl;(apply Ok1.load;exact rfl;(apply Ld.ownk;exact rfl;exact rfl;(focus (repeat' first|exact At.head|apply At.tail);done);exact rfl)))<;>(apply A.tk 8;exact rfl;kernel_rfl;(apply Ok1.build;(iterate 5 exact rfl)))<;>(apply A.two 4 9;kernel_rfl;exact rfl;exact rfl;rotate_left 1;(focus (((((apply R.buildSlice;(iterate 12 exact rfl);intro)));apply R.nil;refine ⟨?_,?_⟩;(focus (repeat' first|exact trivial|exact At.head|apply At.tail|refine ⟨?_,?_⟩)))<;>(apply A.one 4;kernel_rfl;exact rfl;(((apply R.pure;exact rfl;(apply Ok1.load;exact rfl;apply Ld.own1;exact rfl;exact rfl;(focus (repeat' first|exact At.head|apply At.tail);done);exact (congrArg some hsl1.symm)))));apply R.nil;refine ⟨?_,?_⟩;(focus (repeat' first|exact trivial|exact At.head|apply At.tail|refine ⟨?_,?_⟩)))<;>(apply A.one 10;kernel_rfl;exact rfl;(((apply R.append1;(iterate 12 exact rfl);(focus (repeat' first|exact OwnAt.mid hov1|apply OwnAt.tail);done);exact At.head;exact rfl;exact rfl;omega;omega;intro b2 j2 k2 hj2)));apply R.nil;refine ⟨?_,?_⟩;(focus (repeat' first|exact trivial|exact At.head|apply At.tail|refine ⟨?_,?_⟩)))<;>(apply A.tk 11;exact rfl;kernel_rfl;(apply Ok1.nilCheck;exact rfl))<;>(apply A.tk 12;exact rfl;kernel_rfl;(apply Ok1.fieldAddr;(iterate 5 exact rfl)))<;>(apply A.one 13;kernel_rfl;exact rfl;(((apply R.store;(iterate 6 exact rfl);(focus (repeat' first|exact Upd.head|apply Upd.tail);done);exact rfl)));apply R.nil;refine ⟨?_,?_⟩;(focus (repeat' first|exact trivial|exact At.head|apply At.tail|refine ⟨?_,?_⟩)))<;>(apply A.done;kernel_rfl)));rotate_right 1;(focus (((((apply R.pure;exact rfl;(apply Ok1.load;exact rfl;apply Ld.own1;exact rfl;exact rfl;(focus (repeat' first|exact At.head|apply At.tail);done);exact (congrArg some hsl1.symm)))));apply R.nil;refine ⟨?_,?_⟩;(focus (repeat' first|exact trivial|exact At.head|apply At.tail|refine ⟨?_,?_⟩)))<;>(apply A.one 9;kernel_rfl;exact rfl;(((apply R.buildSlice;(iterate 12 exact rfl);intro)));apply R.nil;refine ⟨?_,?_⟩;(focus (repeat' first|exact trivial|exact At.head|apply At.tail|refine ⟨?_,?_⟩)))<;>(apply A.one 10;kernel_rfl;exact rfl;(((apply R.append1;(iterate 12 exact rfl);(focus (repeat' first|exact OwnAt.mid hov1|apply OwnAt.tail);done);exact At.head;exact rfl;exact rfl;omega;omega;intro b2 j2 k2 hj2)));apply R.nil;refine ⟨?_,?_⟩;(focus (repeat' first|exact trivial|exact At.head|apply At.tail|refine ⟨?_,?_⟩)))<;>(apply A.tk 11;exact rfl;kernel_rfl;(apply Ok1.nilCheck;exact rfl))<;>(apply A.tk 12;exact rfl;kernel_rfl;(apply Ok1.fieldAddr;(iterate 5 exact rfl)))<;>(apply A.one 13;kernel_rfl;exact rfl;(((apply R.store;(iterate 6 exact rfl);(focus (repeat' first|exact Upd.head|apply Upd.tail);done);exact rfl)));apply R.nil;refine ⟨?_,?_⟩;(focus (repeat' first|exact trivial|exact At.head|apply At.tail|refine ⟨?_,?_⟩)))<;>(apply A.done;kernel_rfl))))))|(apply T.drawC (id:=11) [] (by decide);((apply A.tk 0;exact rfl;kernel_rfl;(apply Ok1.sliceArr;(iterate 4 exact rfl)))<;>(apply A.tk 1;exact rfl;kernel_rfl;(apply Ok1.sliceArr;(iterate 4 exact rfl)))<;>(apply A.one 2;kernel_rfl;exact rfl;(((apply R.callE (vs:=[.slice (some ⟨_,0,none⟩) 4 4]);(iterate 3 exact rfl);exact Ext.none _;intro w1 hw1;exact hnum _ w1 (RdSl.of (junk:=[]) hw1 (by exact At.head) rfl);rintro v Lo ⟨ovn,hovn,rfl,rfl⟩;rw [slV_eq hovn])));apply R.nil;refine ⟨?_,?_⟩;(focus ((repeat' (exact trivial)))))<;>(apply A.one 3;kernel_rfl;exact rfl;(((apply R.buildSlice;(iterate 12 exact rfl);intro)));apply R.nil;refine ⟨?_,?_⟩;(focus ((repeat' (exact trivial)))))<;>(apply A.one 4;kernel_rfl;exact rfl;(((apply R.callE (vs:=[.slice (some ⟨_,0,none⟩) 2 2]);(iterate 3 exact rfl);exact Ext.none _;intro w1 hw1;exact hcon _ b7 (ovp ovn) (ovc ovn NB.length) w1 (RdSl.of (v:=Pt.v) (junk:=[]) hw1 (by exact At.head) rfl) (RdSl.of (junk:=[]) hw1 (by (focus (repeat' first|exact At.head|apply At.tail|apply At.right);done)) rfl) (rdown hovn hw1 (Ext.mem (by (focus (repeat' first|exact Ext.here _ _|apply Ext.cons);done))));rintro v Lo ⟨ovr,hovr,rfl,rfl⟩)));apply R.nil;refine ⟨?_,?_⟩;(focus ((repeat' (exact trivial)))))<;>(apply A.tk 5;exact rfl;kernel_rfl;(apply Ok1.assign;exact rfl))<;>(apply A.tk 6;exact rfl;kernel_rfl;(apply Ok1.assign;exact rfl))<;>(apply A.done;kernel_rfl)))|apply T.seq|apply T.region|apply T.skip|apply T.ret|(apply T.cond_f;exact rfl)))
        all_goals
          (apply RetOk.tt;exact rfl;exact rfl)
          have hov2:=hov1.some (b:=b2) (ys:=[.int .i64 seed,.int .i64 tick,.int .u8 d0,.int .u8 d1,.int .u8 d2,.int .u8 d3,.int .u8 d4,.int .u8 d5,.int .u8 d6,.int .u8 d7]) (m:=1) rfl hj2
          have hfl:fl Ak.v (al1++[ak seed tick [d0,d1,d2,d3,d4,d5,d6,d7]])=fl Ak.v al1++[.int .i64 seed,.int .i64 tick,.int .u8 d0,.int .u8 d1,.int .u8 d2,.int .u8 d3,.int .u8 d4,.int .u8 d5,.int .u8 d6,.int .u8 d7]:=by rw [fl_app];rfl
          have hal9:(al1++[ak seed tick [d0,d1,d2,d3,d4,d5,d6,d7]]).length=al1.length+1:=by simp
          refine ⟨_,?_,some (b2,j2,k2),ovr,rfl,hovr,⟨hgg,?_,?_,?_,hfx.si⟩,rfl⟩
          · show Keep _ (FL bf bs gs (some (b2,j2,k2)) (al1++[ak seed tick [d0,d1,d2,d3,d4,d5,d6,d7]]) since is++_)
            unfold FL FrC
            rw [hfl,hal9]
            (focus (repeat' first|exact Ext.one _ _|exact Ext.here _ _|exact Ext.all _|apply Keep.cons|apply Keep.app|apply Keep.last|apply Ext.cons|apply Ext.app);done)
          · show OvOk 10 _ (al1++[ak seed tick [d0,d1,d2,d3,d4,d5,d6,d7]]).length (fl Ak.v (al1++[ak seed tick [d0,d1,d2,d3,d4,d5,d6,d7]]))
            rw [hfl,hal9]
            exact hov2
          · show (al1++[ak seed tick [d0,d1,d2,d3,d4,d5,d6,d7]]).length≤8
            rw [hal9];omega
          · intro a ha
            rcases List.mem_append.1 ha with h9|h9
            · exact htk1 a h9
            · rw [List.mem_singleton.1 h9];exact ⟨h0,h1⟩
  · rw [if_neg hR] at hck
    have hE:FM.askE ⟨lgs gs,al,since,is⟩ seed tick dr=10:=if_pos hR
    have hA:FM.ask ⟨lgs gs,al,since,is⟩ seed tick dr=⟨lgs gs,al,since,is⟩:=if_pos hR
    have hB:FM.askB ⟨lgs gs,al,since,is⟩ seed tick dr=[]:=by rw [FM.askB,hE,if_neg (by decide)]
    rw [hE,hA,hB]
    have hul:(u8s dr).length=8:=by rw [u8s_len,hdl]
    generalize u8s dr=dv at *
    refine enterK (tb:=tb) Tryz.func8 rfl Tryz.ntmps8 rfl ?_
    repeat' (first|(apply R.is1;first|(apply R.isBin;(apply R.pure;exact rfl;(apply Ok1.neq_t;exact rfl;exact rfl;omega)))|(apply R.isCall;apply R.callP rfl rfl rfl hck)|(apply R.pure;exact rfl;first|(apply Ok1.move;exact rfl)|(apply Ok1.load;exact rfl;(apply Ld.own1;exact rfl;exact rfl;(focus (repeat' first|exact At.head|apply At.tail);done);exact rfl))|(apply Ok1.assign;exact rfl))|(apply R.box;(iterate 3 exact rfl);intro))|apply R.nil|(apply T.is;first|apply T.seq|apply T.region|apply T.ret|(apply T.cond_t;exact rfl)))
    (apply RetOk.tt;exact rfl;exact rfl)
    refine ⟨_,?_,ov,none,rfl,⟨rfl,rfl⟩,h,rfl⟩
    simp only [FL,blkL]
    (focus (repeat' first|exact Keep.nil _|exact Ext.one _ _|exact Ext.all _|apply Keep.cons|apply Keep.app|apply Ext.cons);done)
def attV (xs:List Int):List Int:=(List.range 4).map (pairN (xs.drop 8))
def attE (xs:List Int) (room:Int):Int:=if xs.length≠16 then 3 else if ¬ VR (attV xs) then 3 else if room < 40 then 2 else 0
def attD (ls:List (List Int)) (xs:List Int) (room:Int):List (Int × List Int):=cutD ((room - 40) / 2).toNat (sinD ls (minV ls (attV xs)))
def p8I (ls:List (List Int)):List Int:=(shaI (prI ls)).take 8
def attB (ls:List (List Int)) (xs:List Int) (room:Int):List Int:=if attE xs room=0 then xs.take 8++(encG (lensI ls) (p8I ls)++encD (attD ls xs room)) else []
theorem p8I_len (ls:List (List Int)):(p8I ls).length=8:=by rw [p8I,List.length_take,sha_len];rfl
theorem p8I_byt (ls:List (List Int)):Byt (p8I ls):=fun y hy=>sha_byt _ y (List.mem_of_mem_take hy)
theorem RsO.nx9 {s:Rs} {M:Lst} (h:RsO s M) (w:Nat):∀ n,RsO (s.nx w n) M
  | 0=>h
  | n+1=>(h.nx9 w n).num w
theorem fil_v {A:List Int} {i:Nat} (hA:A.length=i) (hi:i < 4) (x:Int):setE (iis (A++List.replicate (4 - i) 0)) (0+i * 1) [.int .i64 x]=some (iis ((A++[x])++List.replicate (4 - (i+1)) 0)):=by
  rw [setE_one (by rw [iis_len,List.length_append,List.length_replicate];omega),Nat.zero_add,Nat.mul_one]
  congr 1
  rw [iis,← List.map_set]
  congr 1
  subst hA
  rw [List.set_append_right _ _ (Nat.le_refl _),Nat.sub_self,show 4 - A.length=(4 - (A.length+1))+1 by omega,List.replicate_succ,List.set_cons_zero,List.append_assoc]
  rfl
theorem fil_at {A:List Int} {i:Nat} (hA:A.length=i) (x:Int) (B:List Int):(iis ((A++[x])++B))[0+i * 1]? = some (.int .i64 x):=by
  rw [Nat.zero_add,Nat.mul_one,iis,List.getElem?_map,List.append_assoc,List.getElem?_append_right (by omega),hA,Nat.sub_self]
  rfl
theorem vr_snoc {A:List Int} {x:Int} (h0:0≤x):VR A→x≤256→VR (A++[x]):=fun h h1 y hy=>by
  rcases List.mem_append.1 hy with h2|h2
  · exact h y h2
  · rw [List.mem_singleton.1 h2];exact ⟨h0,h1⟩
theorem cut_dr9 {ls:List (List Int)} {vs:List Int} (hlo:LOk ls) (hV:VR vs) (n:Nat):DR (cutD n (sinD ls (minV ls vs))):=by
  intro x hx
  obtain ⟨y,hy,k,rfl⟩:=cutD_mem hx
  obtain ⟨h1,h2,l,hl,j,h3⟩:=sin_mem hy hV
  obtain ⟨h4,h5,h6⟩:=hlo l hl
  refine ⟨h1,h2,?_,?_⟩
  · simp only [h3,List.length_take,List.length_drop];omega
  · intro z hz
    simp only [h3] at hz
    exact h4 z (List.mem_of_mem_drop (List.mem_of_mem_take hz))
theorem cntL_take:∀ (dd:List (Int × List Int)) (i:Nat),cntL (dd.take i)≤cntL dd
  | [],i=>by rw [List.take_nil];exact Nat.le_refl _
  | x::r,0=>by rw [List.take_zero];exact Nat.zero_le _
  | x::r,i+1=>by
    have h:=cntL_take r i
    simp only [cntL,List.take_succ_cons,List.map_cons,List.sum_cons] at h ⊢
    omega
theorem cntL_mem:∀ {dd:List (Int × List Int)} {x:Int × List Int},x∈dd→x.2.length≤cntL dd
  | y :: r,x,h=>by
    simp only [cntL,List.map_cons,List.sum_cons]
    rcases List.mem_cons.1 h with h1|h1
    · subst h1;omega
    · have h2:=cntL_mem h1
      simp only [cntL] at h2
      omega
theorem Pt3 {p p2 p3:Option Addr} {c2 c3:Nat} {A B C:List Int} (h:A.length=8):fl Pt.v [⟨p,8,A⟩,⟨p2,c2,B⟩,⟨p3,c3,C⟩]++[]=[.slice p 8 8,.slice p2 B.length c2,.slice p3 C.length c3]:=by
  rw [← h];rfl
theorem fattest_ok (bs:Nat) (gs:List Lg) (hg:GOk gs) (hlo:LOk (lgs gs)) (p:Option Addr) (n cap:Nat) (xs:List Int) (hn:n=xs.length) (hcap:n≤cap) (hbig:n≤1000000) (hb8:Byt (xs.drop 8)) (room:Int) (hr:0≤room∧room≤360) (w:World) (hs:SetR w bs gs) (hp:RdSl w p u8V xs) :
    CallM Tryz.prog 11 [.pointer (some ⟨bs,0,none⟩),.slice p n cap,.int .i64 room] [] w fun v L=>∃ ovb,OvOk 1 ovb (attB (lgs gs) xs room).length (u8s (attB (lgs gs) xs room))∧v = .tuple #[slV ovb (attB (lgs gs) xs room).length,.int .i64 (attE xs room)]∧L=blkL 5 ovb (u8s (attB (lgs gs) xs room)):=by
  subst hn
  by_cases h16:xs.length=16
  · have hx8:(xs.drop 8).length=8:=by rw [List.length_drop,h16]
    have hnew:=fun w1 (hc:Chg [] w w1)=>rnewr_ok (sufP p cap 8 1) (xs.length - 8) (cap - 8) (xs.drop 8) (by omega) (by omega) hb8 w1 ((hp.suf (sz:=1) (i:=8) (fun _=>rfl) (by omega) hcap).chg' hc (fun _=>Off.nil _))
    refine enterK (tb:=tb) Tryz.func11 rfl Tryz.ntmps11 rfl ?_
    repeat' (first|(apply R.is1;first|(apply R.isBin;(apply R.pure;exact rfl;first|(apply Ok1.neq_f;exact rfl;exact rfl;omega)|(apply Ok1.eqlP;(iterate 5 exact rfl))))|(apply R.isCall;first|(apply R.callE (vs:=[.slice (sufP p cap 8 1) (xs.length - 8) (cap - 8)]);(iterate 3 exact rfl);exact Ext.none _;intro w1 hw1;exact hnew w1 hw1.chg;rintro v Lo ⟨br,s,M,rfl,hsx,hse,hso,rfl⟩)|(apply R.pure;exact rfl;(apply Ok1.lenS;(iterate 3 exact rfl))))|(apply R.pure;exact rfl;first|(apply Ok1.sufR (sz:=1) (i:=8);(iterate 6 exact rfl);omega;omega)|(apply Ok1.move;exact rfl)|(apply Ok1.assign;exact rfl))|(apply R.alloc;(iterate 3 exact rfl);intro))|apply R.nil|(apply T.is;first|apply T.seq|apply T.region|apply T.block|apply T.skip|(apply T.cond_f;exact rfl)))
    rename_i bv
    rw [if_pos (by omega)] at hsx hse
    have his:s.is (xs.drop 8) 0:=⟨hsx,hse⟩
    have hnv:=fun k (hk:k≤4)=>(Rs.nv2_is his hb8 k (by omega)).2
    have hnv4:s.nv 2 4=attV xs:=hnv 4 (by decide)
    apply T.loopK (α:=Nat) (I:=fun i=>i≤4∧VR (s.nv 2 i)) (σi:=fun i=>[(0,.pointer (some ⟨bs,0,none⟩)),(1,.slice p xs.length cap),(2,.int .i64 room),(8,.pointer (some ⟨br,0,none⟩)),(9,.pointer (some ⟨bv,0,none⟩)),(25,.int .i64 i)]) (Li:=fun i=>(bv,.cells ⟨iis (s.nv 2 i++List.replicate (4 - i) 0)⟩ 68 (0,0))::((s.nx 2 i).L br++M)) (μ:=fun i=>4 - i) (i0:=0)
    · exact ⟨Nat.zero_le _,fun x hx=>by cases hx⟩
    · exact ⟨rfl,rfl,rfl,rfl,rfl,rfl,trivial⟩
    · show Keep _ ((bv,.cells ⟨iis [0,0,0,0]⟩ 68 (0,0))::(s.L br++M))
      simp only [iis,List.map_cons,List.map_nil]
      (focus (repeat' first|exact Ext.one _ _|exact Ext.here _ _|exact Ext.all _|apply Keep.cons|apply Keep.app|apply Keep.last|apply Ext.app);done)
    · rintro i ⟨hi,hVi⟩
      rcases Nat.lt_or_ge i 4 with hlt|hge
      · have hnn:=fun w1 h1=>rnum_ok br (s.nx 2 i) 1 2 (by decide) u2 w1 h1
        have hok:=hso.nx9 2 i
        have hst:=fil_v (s.nv_len 2 i) hlt ((s.nx 2 i).num 2).1
        have hat:=fil_at (s.nv_len 2 i) ((s.nx 2 i).num 2).1 (List.replicate (4 - (i+1)) 0)
        have hrg:=Rs.num_range (s.nx 2 i) 2 hok.byt rfl
        have hsn:s.nv 2 (i+1)=s.nv 2 i++[((s.nx 2 i).num 2).1]:=Rs.nv_snoc _ _ _
        rw [← hsn] at hst hat
        have hnx:s.nx 2 (i+1)=((s.nx 2 i).num 2).2.2:=rfl
        rw [← hnx] at hnn
        have hokw:∀ w0 w1 S L Lr,Hp w0 S L w1→Ext L ((s.nx 2 i).L br) Lr→(∀ z∈M,z∈Lr)→(s.nx 2 i).ok br w1:=fun _ _ _ _ _ a b c=>hok.ok a b c
        generalize hxe:((s.nx 2 i).num 2).1=x at *
        by_cases hx:256 < x
        · have hnV:¬ VR (attV xs):=by
            rw [← hnv4]
            intro hV
            have hin:x∈s.nv 2 4:=by
              unfold Rs.nv
              exact List.mem_map.2 ⟨i,List.mem_range.2 hlt,hxe⟩
            have:=(hV x hin).2
            omega
          have hE:attE xs room=3:=by rw [attE,if_neg (fun h=>h h16),if_pos hnV]
          have hB:attB (lgs gs) xs room=[]:=by rw [attB,hE,if_neg (by decide)]
          rw [hE,hB]
          clear hnv hnv4 his hxe hsn
          generalize s.nx 2 i=r at *
          generalize s.nx 2 (i+1)=r2 at *
          generalize r.L br=L0 at *
          generalize r2.L br=L1 at *
          generalize s.nv 2 i=A at *
          generalize s.nv 2 (i+1)=A2 at *
          repeat' (first|(apply R.is1;first|(apply R.isBin;(apply R.pure;exact rfl;first|(apply Ok1.lss_t;exact rfl;exact rfl;omega)|(apply Ok1.gtr_t;exact rfl;exact rfl;omega)))|(apply R.isCall;(apply R.callE (Li:=L0) (vs:=[.pointer (some ⟨br,0,none⟩),.int .i64 1]);(iterate 3 exact rfl);(focus (repeat' first|exact Ext.here _ _|apply Ext.cons);done);intro w1 hw1;(apply hnn w1;apply hokw;exact hw1;(focus (repeat' first|exact Ext.here _ _|apply Ext.cons);done);exact (Ext.mem (by (focus (repeat' first|exact Ext.all _|apply Ext.cons);done))));rintro v Lo ⟨rfl,hq⟩;rw [hq];clear hq))|(apply R.pure;exact rfl;first|(apply Ok1.load;exact rfl;apply Ld.own1;exact rfl;exact rfl;(focus (repeat' first|exact At.head|apply At.right);done);exact hat)|(apply Ok1.move;exact rfl)|(apply Ok1.assign;exact rfl)|(apply Ok1.indexAddrA;(iterate 5 exact rfl);omega;omega)))|(apply R.is0;(apply R.store;(iterate 6 exact rfl);(focus (repeat' first|exact Upd.head|apply Upd.right);done);exact hst))|apply R.nil|(apply T.is;first|apply T.seq|apply T.region|apply T.block|apply T.skip|apply T.ret|(apply T.cond_t;exact rfl)))
          (apply RetOk.tt;exact rfl;exact rfl)
          exact ⟨_,by simp only [blkL];(focus ((repeat' (exact Keep.nil _));done)),none,⟨rfl,rfl⟩,rfl,rfl⟩
        · have hV2:VR (s.nv 2 (i+1)):=by rw [hsn];exact vr_snoc hrg.1 hVi (by omega)
          clear hnv hnv4 his hxe hsn
          generalize s.nx 2 i=r at *
          generalize hr2:s.nx 2 (i+1)=r2 at *
          generalize r.L br=L0 at *
          generalize hL1:r2.L br=L1 at *
          generalize s.nv 2 i=A at *
          generalize hA2:s.nv 2 (i+1)=A2 at *
          repeat' (first|(apply R.is1;first|(apply R.isBin;(apply R.pure;exact rfl;first|(apply Ok1.add64;exact rfl;exact rfl;omega;omega)|(apply Ok1.lss_t;exact rfl;exact rfl;omega)|(apply Ok1.gtr_f;exact rfl;exact rfl;omega)))|(apply R.isCall;(apply R.callE (Li:=L0) (vs:=[.pointer (some ⟨br,0,none⟩),.int .i64 1]);(iterate 3 exact rfl);(focus (repeat' first|exact Ext.here _ _|apply Ext.cons);done);intro w1 hw1;(apply hnn w1;apply hokw;exact hw1;(focus (repeat' first|exact Ext.here _ _|apply Ext.cons);done);exact (Ext.mem (by (focus (repeat' first|exact Ext.all _|apply Ext.cons);done))));rintro v Lo ⟨rfl,hq⟩;rw [hq];clear hq))|(apply R.pure;exact rfl;first|(apply Ok1.load;exact rfl;apply Ld.own1;exact rfl;exact rfl;(focus (repeat' first|exact At.head|apply At.right);done);exact hat)|(apply Ok1.move;exact rfl)|(apply Ok1.assign;exact rfl)|(apply Ok1.indexAddrA;(iterate 5 exact rfl);omega;omega)))|(apply R.is0;(apply R.store;(iterate 6 exact rfl);(focus (repeat' first|exact Upd.head|apply Upd.right);done);exact hst))|apply R.nil|(apply T.is;first|apply T.seq|apply T.region|apply T.block|apply T.skip|(apply T.cond_t;exact rfl)|(apply T.cond_f;exact rfl)))
          refine ⟨i+1,⟨by omega,by rw [hA2];exact hV2⟩,by omega,⟨rfl,rfl,rfl,rfl,rfl,rfl,trivial⟩,?_⟩
          simp only [hA2,hr2,hL1]
          (focus (repeat' first|exact Ext.one _ _|exact Ext.here _ _|exact Ext.all _|apply Keep.cons|apply Keep.app|apply Keep.last|apply Ext.app);done)
      · have hi4:i=4:=by omega
        subst hi4
        have hVx:VR (attV xs):=by rw [← hnv4];exact hVi
        rw [hnv4,Nat.sub_self,List.replicate_zero,List.append_nil]
        obtain ⟨v0,v1,v2,v3,hvs⟩:∃ v0 v1 v2 v3,attV xs=[v0,v1,v2,v3]:=⟨_,_,_,_,rfl⟩
        have hans:=fun w1 (hc:Chg [] w w1)=>answer_all bs gs hg v0 v1 v2 v3 (room - 8 - 16) (by omega) w1 (hs.chg hc)
        have hdof:=fun w1 (hc:Chg [] w w1)=>dOf_ok bs gs hg w1 (hs.chg hc)
        have hdgb:=fun w1=>dbytes9_ok (lensI (lgs gs)) (p8I (lgs gs)) hg.l4 (p8I_len _) hg.vr (p8I_byt _) w1
        have hdof2:∀ w1,Chg [] w w1→CallW Tryz.prog 79 [.pointer (some ⟨bs,0,none⟩)] w1 fun v _=>v = .agg ⟨dgV (lensI (lgs gs)) (p8I (lgs gs))⟩:=hdof
        have hE2:attE xs room=if room < 40 then 2 else 0:=by rw [attE,if_neg (fun h=>h h16),if_neg (fun h=>h hVx)]
        have hB2:attB (lgs gs) xs room=if attE xs room=0 then xs.take 8++(encG (lensI (lgs gs)) (p8I (lgs gs))++encD (attD (lgs gs) xs room)) else []:=rfl
        have hD2:attD (lgs gs) xs room=cutD ((room - 8 - 16 - 16) / 2).toNat (sinD (lgs gs) (minV (lgs gs) (attV xs))):=by rw [attD,show room - 8 - 16 - 16=room - 40 by omega]
        rw [hB2,hE2]
        rw [hvs] at hVx hD2 ⊢
        clear hnv hnv4 his hB2 hE2 hdof
        by_cases c40:room < 40
        · simp only [if_pos c40,if_neg (show ¬ (2:Int)=0 by decide)]
          have hans2:=fun w1 hc=>(hans w1 hc).wk (R':=fun v L=>v = .tuple #[.agg ⟨dlV nod⟩,.int .i64 2]) fun v L h=>by
            obtain ⟨d,E,h1,h2,h3,h4,h5,h6⟩:=h
            obtain ⟨rfl,rfl⟩:=h5 hVx (by omega)
            exact h2
          repeat' (first|(apply R.is1;first|(apply R.isBin;(apply R.pure;exact rfl;first|(apply Ok1.sub64;exact rfl;exact rfl;omega;omega)|(apply Ok1.lss_f;exact rfl;exact rfl;omega)|(apply Ok1.neq_t;exact rfl;exact rfl;omega)))|(apply R.isCall;(apply R.callE (vs:=[.pointer (some ⟨bs,0,none⟩),.agg ⟨iis [v0,v1,v2,v3]⟩,.int .i64 (room - 8 - 16)]);(iterate 3 exact rfl);exact Ext.none _;intro w1 hw1;exact hans2 w1 hw1.chg;rintro v Lo rfl;simp only [nod_v,noD]))|(apply R.pure;exact rfl;first|(apply Ok1.load;exact rfl;apply Ld.ownk;exact rfl;exact rfl;exact At.head;exact rfl)|(apply Ok1.move;exact rfl)|(apply Ok1.assign;exact rfl)|(apply Ok1.extract;exact rfl;exact rfl))|(apply R.alloc;(iterate 3 exact rfl);intro))|(apply R.is0;(apply R.store;(iterate 6 exact rfl);exact Upd.head;exact rfl))|apply R.nil|(apply T.is;first|apply T.seq|apply T.region|apply T.exit|apply T.ret|(apply T.cond_t;exact rfl)|(apply T.cond_f;exact rfl)))
          (apply RetOk.tt;exact rfl;exact rfl)
          exact ⟨_,by simp only [blkL];(focus ((repeat' (exact Keep.nil _));done)),none,⟨rfl,rfl⟩,rfl,rfl⟩
        · simp only [if_neg c40,if_pos (show (0:Int)=0 by decide)]
          have hans3:=fun w1 hc=>(hans w1 hc).wk (R':=fun v L=>∃ d,v = .tuple #[.agg ⟨dlV d⟩,.int .i64 0]∧d.length=4∧DlO d L∧pur d=attD (lgs gs) xs room) fun v L h=>by
            obtain ⟨d,E,h1,h2,h3,h4,h5,h6⟩:=h
            obtain ⟨rfl,h7⟩:=h6 hVx (by omega)
            exact ⟨d,h2,h1,h3,h7.trans hD2.symm⟩
          have hDR:DR (attD (lgs gs) xs room):=by rw [hD2];exact cut_dr9 hlo hVx _
          have hcn:cntL (attD (lgs gs) xs room)≤160:=by
            rw [hD2]
            have:=cutD_cnt (sinD (lgs gs) (minV (lgs gs) [v0,v1,v2,v3])) ((room - 8 - 16 - 16) / 2).toNat
            omega
          have hwb:∀ d,d.length=4→pur d=attD (lgs gs) xs room→∀ w1,(∀ x∈d,RdSl w1 x.2.p iV x.2.xs)→CallM Tryz.prog 80 [.agg ⟨dlV d⟩] [] w1 (BRes (encD (attD (lgs gs) xs room))):=by
            intro d hd4 hpd w1 hrd
            rw [← hpd]
            refine wbytes_c d hd4 (fun x hx=>?_) (fun i=>?_) ((dok_dr d).2 (by rw [hpd];exact hDR)) w1 hrd
            · have h9:(x.1,x.2.xs)∈attD (lgs gs) xs room:=by rw [← hpd];exact List.mem_map.2 ⟨x,hx,rfl⟩
              have:=cntL_mem h9
              simp only at this
              omega
            · rw [encD_cnt,hpd]
              have h8:=cntL_take (attD (lgs gs) xs room) i
              have h7:((attD (lgs gs) xs room).take i).length≤4:=by rw [List.length_take,← hpd,pur,List.length_map,hd4];omega
              omega
          have hgl:=encG_len hg.l4 (p8I_len (lgs gs))
          have hdl:(encD (attD (lgs gs) xs room)).length≤1000+4 * (attD (lgs gs) xs room).length:=by rw [encD_cnt];omega
          have hdl4:(attD (lgs gs) xs room).length≤4:=by
            rw [hD2,cutD_len]
            simp [sinD,lgs,hg.len]
            omega
          have hp8:=fun w1 (hc:Chg [] w w1)=>RdSl.pre (v:=u8V) (sz:=1) (fun _=>rfl) (hp.chg' hc (fun _=>Off.nil _)) 8
          generalize attD (lgs gs) xs room=AD at *
          generalize hG:encG (lensI (lgs gs)) (p8I (lgs gs))=G at *
          generalize encD AD=ED at *
          have hcon:=fun q c1 c2 c3 p2 p3 w1 h1 (h2:RdSl w1 p u8V (xs.take 8)) (h3:RdSl w1 p2 u8V G) (h4:RdSl w1 p3 u8V ED)=>concat_ok (some ⟨q,0,none⟩) 3 3 [⟨p,c1,xs.take 8⟩,⟨p2,c2,G⟩,⟨p3,c3,ED⟩] rfl (by simp only [cat,List.flatMap_cons,List.flatMap_nil,List.append_nil,List.length_append,List.length_take];omega) (by decide) w1 h1 (by simp only [List.mem_cons,List.not_mem_nil,or_false,forall_eq_or_imp,forall_eq];exact ⟨h2,h3,h4⟩)
          simp only [cat,List.flatMap_cons,List.flatMap_nil,List.append_nil] at hcon
          have hx8l:(xs.take 8).length=8:=by rw [List.length_take];omega
          have hon:∀ d:Dl,(dlV d).all Value.oneCell'=true:=dl_oner
          have hl8:∀ d:Dl,d.length=4→(dlV d).length=8:=fun d h=>dl_len8r h
          repeat' (first|(apply R.is1;first|(apply R.isBin;(apply R.pure;exact rfl;first|(apply Ok1.sub64;exact rfl;exact rfl;omega;omega)|(apply Ok1.lss_f;exact rfl;exact rfl;omega)|(apply Ok1.neq_f;exact rfl;exact rfl;omega)))|(apply R.isCall;first|(apply R.callE (vs:=[.pointer (some ⟨bs,0,none⟩),.agg ⟨iis [v0,v1,v2,v3]⟩,.int .i64 (room - 8 - 16)]);(iterate 3 exact rfl);exact Ext.none _;intro w1 hw1;exact hans3 w1 hw1.chg;rintro v Lo ⟨d,rfl,hd4,hdo,hpd⟩)|(apply R.callV (vs:=[.pointer (some ⟨bs,0,none⟩)]);(iterate 3 exact rfl);intro w1 hw1;exact hdof2 w1 hw1.chg)|(apply R.callE (vs:=[.agg ⟨dgV (lensI (lgs gs)) (p8I (lgs gs))⟩]);(iterate 3 exact rfl);exact Ext.none _;intro w1 hw1;exact hdgb w1;rintro v Lo ⟨o1,ho1,rfl,rfl⟩;rw [slV_eq ho1])|(apply R.callE (vs:=[.agg ⟨dlV d⟩]);(iterate 3 exact rfl);exact Ext.none _;intro w1 hw1;exact hwb d hd4 hpd w1 (hdo.rd _ _ _ _ hw1 (Ext.mem (by (focus (repeat' first|exact Ext.here _ _|apply Ext.cons|apply Ext.app);done))));rintro v Lo ⟨o2,ho2,rfl,rfl⟩;rw [slV_eq ho2])|(apply R.callE (vs:=[.slice (some ⟨_,0,none⟩) 3 3]);(iterate 3 exact rfl);exact Ext.none _;intro w1 hw1;exact hcon _ 8 (ovc o1 G.length) (ovc o2 ED.length) (ovp o1) (ovp o2) w1 (RdSl.of (v:=Pt.v) (junk:=[]) hw1 (by exact At.head) (by rw [Pt3 hx8l])) (hp8 w1 hw1.chg) (rdown ho1 hw1 (Ext.mem (by (focus (repeat' first|exact Ext.here _ _|apply Ext.cons|apply Ext.app);done)))) (rdown ho2 hw1 (Ext.mem (by (focus (repeat' first|exact Ext.here _ _|apply Ext.cons);done))));rintro v Lo ⟨ovr,hovr,rfl,rfl⟩))|(apply R.pure;exact rfl;first|(apply Ok1.load;exact rfl;first|(apply Ld.ownk;exact rfl;exact rfl;(focus (repeat' first|exact At.head|apply At.right);done);exact rfl)|(apply Ld.ownk;exact rfl;exact rfl;(focus (repeat' first|exact At.head|apply At.right);done);exact subE_all (hl8 d hd4)))|(apply Ok1.preM (i:=8) (m:=8);(iterate 6 exact rfl);omega;omega)|(apply Ok1.move;exact rfl)|(apply Ok1.assign;exact rfl)|(apply Ok1.extract;exact rfl;exact rfl))|(apply R.alloc;(iterate 3 exact rfl);intro)|(apply R.buildSlice;(iterate 12 exact rfl);intro))|(apply R.is0;(apply R.store;(iterate 4 exact rfl);exact hl8 d hd4;exact hon d;exact Upd.head;exact setE_all (by rw [hl8 d hd4];rfl)))|apply R.nil|(apply T.is;first|apply T.seq|apply T.region|apply T.skip|apply T.exit|apply T.ret|(apply T.cond_f;exact rfl)))
          (apply RetOk.tt;exact rfl;exact rfl)
          exact ⟨_,by (focus (repeat' first|exact Ext.here _ _|apply Keep.last);done),ovr,hovr,rfl,rfl⟩
  · have hE:attE xs room=3:=if_pos h16
    have hB:attB (lgs gs) xs room=[]:=by rw [attB,hE,if_neg (by decide)]
    rw [hE,hB]
    refine enterK (tb:=tb) Tryz.func11 rfl Tryz.ntmps11 rfl ?_
    repeat' (first|(apply R.is1;first|(apply R.isBin;(apply R.pure;exact rfl;first|(apply Ok1.neq_t;exact rfl;exact rfl;omega)|(apply Ok1.eqlP;(iterate 5 exact rfl))))|(apply R.isCall;(apply R.pure;exact rfl;(apply Ok1.lenS;(iterate 3 exact rfl))))|(apply R.pure;exact rfl;first|(apply Ok1.move;exact rfl)|(apply Ok1.assign;exact rfl)))|apply R.nil|(apply T.is;first|apply T.seq|apply T.region|apply T.block|apply T.ret|(apply T.cond_t;exact rfl)|(apply T.cond_f;exact rfl)))
    (apply RetOk.tt;exact rfl;exact rfl)
    exact ⟨_,by simp only [blkL];(focus ((repeat' (exact Keep.nil _));done)),none,⟨rfl,rfl⟩,rfl,rfl⟩
def R00 (xs:List Int):Rs:=⟨none,0,xs,0⟩
def tprs (xs:List Int):List (Int × List Int) × Int:=prs (R00 (xs.drop 24))
def tkxC (seed tick:Int) (xs:List Int):Int:=if ¬ Rgt seed tick then 10 else if xs.length < 40 then 4 else if ¬ VR (attV xs) then 3 else (tprs xs).2
theorem pairN_take (xs:List Int):(List.range 4).map (pairN (xs.take 16))=(List.range 4).map (pairN xs):=by
  refine List.map_congr_left fun j hj=>?_
  have:=List.mem_range.1 hj
  unfold pairN
  rw [List.getD_eq_getElem?_getD,List.getD_eq_getElem?_getD,List.getD_eq_getElem?_getD,List.getD_eq_getElem?_getD,List.getElem?_take_of_lt (by omega),List.getElem?_take_of_lt (by omega)]
theorem byt24 {xs:List Int} (h:Byt (xs.drop 8)):Byt (xs.drop 24):=fun y hy=>h y (by rw [show 24=8+16 by decide,← List.drop_drop] at hy;exact List.mem_of_mem_drop hy)
theorem rd_att {s:Rs} {xs:List Int} (hl:40≤xs.length) (hb:Byt (xs.drop 8)) (h1:s.xs=(xs.drop 8).take 16) (h2:s.e=0):∃ p8,p8.length=8∧rdD s=if VR (attV xs) then (attV xs,p8,0) else ([0,0,0,0],[0,0,0,0,0,0,0,0],3):=by
  have hby:Byt ((xs.drop 8).take 16):=fun y hy=>hb y (List.mem_of_mem_take hy)
  obtain ⟨r1,r2,r3⟩:=rd_long (s:=s) ⟨h1,h2⟩ hby (by rw [List.length_take,List.length_drop];omega)
  rw [pairN_take] at r2
  refine ⟨(((xs.drop 8).take 16).drop 8).take 8,?_,?_⟩
  · rw [List.length_take,List.length_drop,List.length_take,List.length_drop];omega
  · rw [rdD,if_neg (by rw [r1.e];decide),r2,r3]
    rfl
theorem prs_att {s:Rs} {xs:List Int} (h1:s.xs=xs.drop 24) (h2:s.e=0):prs s=tprs xs:=Rs.eqv.prs ⟨h1,h2⟩
theorem attV_len (xs:List Int):(attV xs).length=4:=rfl
theorem ftake_bad (bf bs:Nat) (gs:List Lg) (ov:Ov) (al:List Ak) (since:Int) (is:Bool) (h:FOk gs ov al since) (seed tick:Int) (p:Option Addr) (cap:Nat) (xs:List Int) (hcap:xs.length≤cap) (hbig:xs.length≤1000) (hb:Byt (xs.drop 8)) (w:World) (hp:RdSl w p u8V xs) (hoff:xs≠[]→Off p (blks (FL bf bs gs ov al since is))) (hc:tkxC seed tick xs≠0) :
    CallM Tryz.prog 9 [.pointer (some ⟨bf,0,none⟩),.int .i64 seed,.int .i64 tick,.slice p xs.length cap] (FL bf bs gs ov al since is) w fun v L=>v = .tuple #[.bool false,.int .i64 (tkxC seed tick xs)]∧L=FL bf bs gs ov al since is:=by
  have hck:=fcheck_ok ⟨bf,0,none⟩ seed tick
  generalize hFL:FL bf bs gs ov al since is=F0 at *
  by_cases hR:Rgt seed tick
  · rw [if_pos hR] at hck
    by_cases h40:xs.length < 40
    · have hC:tkxC seed tick xs=4:=by rw [tkxC,if_neg (fun h=>h hR),if_pos h40]
      rw [hC]
      refine enterK (tb:=tb) Tryz.func9 rfl Tryz.ntmps9 rfl ?_
      repeat' (first|(apply R.is1;first|(apply R.isBin;(apply R.pure;exact rfl;first|(apply Ok1.lss_t;exact rfl;exact rfl;omega)|(apply Ok1.neq_f;exact rfl;exact rfl;omega)))|(apply R.isCall;first|apply R.callP rfl rfl rfl hck|(apply R.pure;exact rfl;(apply Ok1.lenS;(iterate 3 exact rfl))))|(apply R.pure;exact rfl;first|(apply Ok1.move;exact rfl)|(apply Ok1.assign;exact rfl)))|apply R.nil|(apply T.is;first|apply T.seq|apply T.region|apply T.skip|apply T.ret|(apply T.cond_t;exact rfl)|(apply T.cond_f;exact rfl)))
      (apply RetOk.tt;exact rfl;exact rfl)
      exact ⟨_,by (focus (repeat' first|exact Ext.all _|apply Keep.last);done),rfl,rfl⟩
    · have hnr:∀ w1,Chg (blks F0) w w1→CallM Tryz.prog 26 [.slice (sufP p cap 8 1) 16 (cap - 8)] [] w1 fun v L=>∃ br s M,v = .pointer (some ⟨br,0,none⟩)∧s.xs=(xs.drop 8).take 16∧s.e=0∧RsO s M∧L=s.L br++M:=fun w1 hc1=>by
        refine (rnewr_ok (sufP p cap 8 1) 16 (cap - 8) ((xs.drop 8).take 16) (by rw [List.length_take,List.length_drop];omega) (by decide) (fun y hy=>hb y (List.mem_of_mem_take hy)) w1 (RdSl.pre (v:=u8V) (sz:=1) (fun _=>rfl) (RdSl.suf (v:=u8V) (sz:=1) (fun _=>rfl) (hp.chg' hc1 hoff) (by omega) hcap) 16)).wk ?_
        rintro v L ⟨br,s,M,h1,h2,h3,h4,h5⟩
        exact ⟨br,s,M,h1,h2,h3,h4,h5⟩
      have hr9:=fun br s w1 h1=>read9_ok br s w1 h1
      by_cases hV:VR (attV xs)
      · have hC:tkxC seed tick xs=(tprs xs).2:=by rw [tkxC,if_neg (fun h=>h hR),if_neg h40,if_neg (fun h=>h hV)]
        have hpa:=fun w1 (hc1:Chg (blks F0) w w1)=>parse_ok (sufP p cap 24 1) (xs.length - 24) (cap - 24) (xs.drop 24) (by rw [List.length_drop]) (by omega) (byt24 hb) w1 (RdSl.suf (v:=u8V) (sz:=1) (fun _=>rfl) (hp.chg' hc1 hoff) (by omega) hcap)
        have hpa2:∀ w1,Chg (blks F0) w w1→CallM Tryz.prog 27 [.slice (sufP p cap 24 1) (xs.length - 24) (cap - 24)] [] w1 fun v L=>∃ d:Dl,d.length=4∧v = .tuple #[.agg ⟨dlV d⟩,.int .i64 (tprs xs).2]:=fun w1 hc1=>by
          refine (hpa w1 hc1).wk ?_
          rintro v L ⟨s,d,h1,h2,h3,h4,_,_⟩
          rw [if_pos (by omega)] at h1 h2
          exact ⟨d,h3,by rw [h4,prs_att h1 h2]⟩
        rw [hC] at hc ⊢
        generalize (tprs xs).2=pe at *
        have hDl:∀ p8,p8.length=8→(dgV (attV xs) p8).length=12:=fun p8 h=>dg_len (attV_len xs) h
        refine enterK (tb:=tb) Tryz.func9 rfl Tryz.ntmps9 rfl ?_
        repeat' (first|(apply R.is1;first|(apply R.isBin;(apply R.pure;exact rfl;first|(apply Ok1.lss_f;exact rfl;exact rfl;omega)|(apply Ok1.neq_t;exact rfl;exact rfl;omega)|(apply Ok1.neq_f;exact rfl;exact rfl;omega)))|(apply R.isCall;first|apply R.callP rfl rfl rfl hck|(apply R.callE (vs:=[.slice (sufP p cap 8 1) 16 (cap - 8)]);(iterate 3 exact rfl);exact Ext.none _;intro w1 hw1;exact hnr w1 hw1.chg;rintro v Lo ⟨br,s,M,rfl,hsx,hse,hso,rfl⟩;obtain ⟨p8,hp8,hrd⟩:=rd_att (by omega) hb hsx hse;rw [if_pos hV] at hrd)|(apply R.callE (Li:=s.L br) (vs:=[.pointer (some ⟨br,0,none⟩)]);(iterate 3 exact rfl);(focus ((repeat' (exact Ext.one _ _));done));intro w1 hw1;exact hr9 br s w1 (hso.ok hw1 (by (focus ((repeat' (exact Ext.one _ _));done))) (Ext.mem (by (focus ((repeat' (exact Ext.here _ _));done)))));rintro v Lo ⟨hv,rfl⟩;rw [hrd] at hv;simp only at hv;subst hv)|(apply R.callE (vs:=[.slice (sufP p cap 24 1) (xs.length - 24) (cap - 24)]);(iterate 3 exact rfl);exact Ext.none _;intro w1 hw1;exact hpa2 w1 hw1.chg;rintro v Lo ⟨d,hd4,rfl⟩)|(apply R.pure;exact rfl;(apply Ok1.lenS;(iterate 3 exact rfl))))|(apply R.pure;exact rfl;first|(apply Ok1.midR (i:=8) (j:=24) (sz:=1);(iterate 7 exact rfl);omega;omega)|(apply Ok1.sufR (sz:=1) (i:=24);(iterate 6 exact rfl);omega;omega)|(apply Ok1.move;exact rfl)|(apply Ok1.assign;exact rfl)|(apply Ok1.extract;exact rfl;exact rfl))|(apply R.alloc;(iterate 3 exact rfl);intro))|(apply R.is0;first|(apply R.store;(iterate 4 exact rfl);exact hDl p8 hp8;exact dg_one _ _;exact Upd.head;exact setE_all (by rw [hDl p8 hp8];rfl))|(apply R.store;(iterate 4 exact rfl);exact dl_len8r hd4;exact dl_oner d;exact Upd.head;exact setE_all (by rw [dl_len8r hd4];rfl)))|apply R.nil|(apply T.is;first|apply T.seq|apply T.region|apply T.skip|apply T.ret|(apply T.cond_t;exact rfl)|(apply T.cond_f;exact rfl)))
        (apply RetOk.tt;exact rfl;exact rfl)
        exact ⟨_,by (focus (repeat' first|exact Ext.all _|apply Keep.last|apply Ext.cons|apply Ext.app);done),rfl,rfl⟩
      · have hC:tkxC seed tick xs=3:=by rw [tkxC,if_neg (fun h=>h hR),if_neg h40,if_pos hV]
        rw [hC]
        refine enterK (tb:=tb) Tryz.func9 rfl Tryz.ntmps9 rfl ?_
        repeat' (first|(apply R.is1;first|(apply R.isBin;(apply R.pure;exact rfl;first|(apply Ok1.lss_f;exact rfl;exact rfl;omega)|(apply Ok1.neq_t;exact rfl;exact rfl;omega)|(apply Ok1.neq_f;exact rfl;exact rfl;omega)))|(apply R.isCall;first|apply R.callP rfl rfl rfl hck|(apply R.callE (vs:=[.slice (sufP p cap 8 1) 16 (cap - 8)]);(iterate 3 exact rfl);exact Ext.none _;intro w1 hw1;exact hnr w1 hw1.chg;rintro v Lo ⟨br,s,M,rfl,hsx,hse,hso,rfl⟩;obtain ⟨p8,hp8,hrd⟩:=rd_att (by omega) hb hsx hse;rw [if_neg hV] at hrd)|(apply R.callE (Li:=s.L br) (vs:=[.pointer (some ⟨br,0,none⟩)]);(iterate 3 exact rfl);(focus ((repeat' (exact Ext.one _ _));done));intro w1 hw1;exact hr9 br s w1 (hso.ok hw1 (by (focus ((repeat' (exact Ext.one _ _));done))) (Ext.mem (by (focus ((repeat' (exact Ext.here _ _));done)))));rintro v Lo ⟨hv,rfl⟩;rw [hrd] at hv;simp only at hv;subst hv)|(apply R.pure;exact rfl;(apply Ok1.lenS;(iterate 3 exact rfl))))|(apply R.pure;exact rfl;first|(apply Ok1.midR (i:=8) (j:=24) (sz:=1);(iterate 7 exact rfl);omega;omega)|(apply Ok1.move;exact rfl)|(apply Ok1.assign;exact rfl)|(apply Ok1.extract;exact rfl;exact rfl))|(apply R.alloc;(iterate 3 exact rfl);intro))|(apply R.is0;(apply R.store;(iterate 6 exact rfl);exact Upd.head;exact rfl))|apply R.nil|(apply T.is;first|apply T.seq|apply T.region|apply T.skip|apply T.ret|(apply T.cond_t;exact rfl)|(apply T.cond_f;exact rfl)))
        (apply RetOk.tt;exact rfl;exact rfl)
        exact ⟨_,by (focus (repeat' first|exact Ext.all _|apply Keep.last|apply Ext.cons|apply Ext.app);done),rfl,rfl⟩
  · rw [if_neg hR] at hck
    have hC:tkxC seed tick xs=10:=if_pos hR
    rw [hC]
    refine enterK (tb:=tb) Tryz.func9 rfl Tryz.ntmps9 rfl ?_
    repeat' (first|(apply R.is1;first|(apply R.isBin;(apply R.pure;exact rfl;(apply Ok1.neq_t;exact rfl;exact rfl;omega)))|(apply R.isCall;apply R.callP rfl rfl rfl hck)|(apply R.pure;exact rfl;first|(apply Ok1.move;exact rfl)|(apply Ok1.assign;exact rfl)))|apply R.nil|(apply T.is;first|apply T.seq|apply T.region|apply T.ret|(apply T.cond_t;exact rfl)))
    (apply RetOk.tt;exact rfl;exact rfl)
    exact ⟨_,by (focus (repeat' first|exact Ext.all _|apply Keep.last);done),rfl,rfl⟩
theorem covc_ok (us vs:List Int) (ha:us.length=4) (hb:vs.length=4):CallP Tryz.prog 75 [.agg ⟨iis us⟩,.agg ⟨iis vs⟩] (.bool (decide (Cov us vs))):=covers_list us vs ha hb
theorem tprs_dr {xs:List Int} (h:(tprs xs).2=0):DR (tprs xs).1:=by
  unfold tprs prs at h ⊢
  split at h
  · rename_i hf
    exact absurd h hf
  · split at h
    · rename_i hf hD
      rw [if_neg hf,if_pos hD]
      exact hD
    · exact absurd h (by decide)
theorem ftake_good (bf bs:Nat) (gs:List Lg) (ov:Ov) (al:List Ak) (since:Int) (is:Bool) (h:FOk gs ov al since) (seed tick:Int) (p:Option Addr) (cap:Nat) (xs:List Int) (hcap:xs.length≤cap) (hbig:xs.length≤1000) (hb:Byt (xs.drop 8)) (w:World) (hp:RdSl w p u8V xs) (hoff:xs≠[]→Off p (blks (FL bf bs gs ov al since is))) (hc:tkxC seed tick xs=0) :
    CallM Tryz.prog 9 [.pointer (some ⟨bf,0,none⟩),.int .i64 seed,.int .i64 tick,.slice p xs.length cap] (FL bf bs gs ov al since is) w fun v L=>∃ gs' ov',v = .tuple #[.bool (FM.takeY ⟨lgs gs,al,since,is⟩ seed tick (xs.take 8) (attV xs) (tprs xs).1),.int .i64 (FM.takeE ⟨lgs gs,al,since,is⟩ seed tick (xs.take 8) (tprs xs).1)]∧lgs gs'=(FM.take ⟨lgs gs,al,since,is⟩ seed tick (xs.take 8) (attV xs) (tprs xs).1).ls∧FOk gs' ov' (FM.take ⟨lgs gs,al,since,is⟩ seed tick (xs.take 8) (attV xs) (tprs xs).1).al (FM.take ⟨lgs gs,al,since,is⟩ seed tick (xs.take 8) (attV xs) (tprs xs).1).since∧L=FL bf bs gs' ov' (FM.take ⟨lgs gs,al,since,is⟩ seed tick (xs.take 8) (attV xs) (tprs xs).1).al (FM.take ⟨lgs gs,al,since,is⟩ seed tick (xs.take 8) (attV xs) (tprs xs).1).since (FM.take ⟨lgs gs,al,since,is⟩ seed tick (xs.take 8) (attV xs) (tprs xs).1).is:=by
  have hck:=fcheck_ok ⟨bf,0,none⟩ seed tick
  have hR:Rgt seed tick:=by
    by_cases hR:Rgt seed tick
    · exact hR
    · rw [tkxC,if_pos hR] at hc;omega
  have h40:¬ xs.length < 40:=fun h40=>by rw [tkxC,if_neg (fun h=>h hR),if_pos h40] at hc;omega
  have hV:VR (attV xs):=by
    by_cases hV:VR (attV xs)
    · exact hV
    · rw [tkxC,if_neg (fun h=>h hR),if_neg h40,if_pos hV] at hc;omega
  have hpe:(tprs xs).2=0:=by rw [tkxC,if_neg (fun h=>h hR),if_neg h40,if_neg (fun h=>h hV)] at hc;exact hc
  rw [if_pos hR] at hck
  obtain ⟨_,_,h0,h1⟩:=hR
  have hnr:∀ w1,Chg (blks (FL bf bs gs ov al since is)) w w1→CallM Tryz.prog 26 [.slice (sufP p cap 8 1) 16 (cap - 8)] [] w1 fun v L=>∃ br s M,v = .pointer (some ⟨br,0,none⟩)∧s.xs=(xs.drop 8).take 16∧s.e=0∧RsO s M∧L=s.L br++M:=fun w1 hc1=>by
    refine (rnewr_ok (sufP p cap 8 1) 16 (cap - 8) ((xs.drop 8).take 16) (by rw [List.length_take,List.length_drop];omega) (by decide) (fun y hy=>hb y (List.mem_of_mem_take hy)) w1 (RdSl.pre (v:=u8V) (sz:=1) (fun _=>rfl) (RdSl.suf (v:=u8V) (sz:=1) (fun _=>rfl) (hp.chg' hc1 hoff) (by omega) hcap) 16)).wk ?_
    rintro v L ⟨br,s,M,h1,h2,h3,h4,h5⟩
    exact ⟨br,s,M,h1,h2,h3,h4,h5⟩
  have hr9:=fun br s w1 h1=>read9_ok br s w1 h1
  have hpa:=fun w1 (hc1:Chg (blks (FL bf bs gs ov al since is)) w w1)=>parse_ok (sufP p cap 24 1) (xs.length - 24) (cap - 24) (xs.drop 24) (by rw [List.length_drop]) (by omega) (byt24 hb) w1 (RdSl.suf (v:=u8V) (sz:=1) (fun _=>rfl) (hp.chg' hc1 hoff) (by omega) hcap)
  have hpa2:∀ w1,Chg (blks (FL bf bs gs ov al since is)) w w1→CallM Tryz.prog 27 [.slice (sufP p cap 24 1) (xs.length - 24) (cap - 24)] [] w1 fun v L=>∃ d:Dl,d.length=4∧v = .tuple #[.agg ⟨dlV d⟩,.int .i64 0]∧pur d=(tprs xs).1∧DlO d L:=fun w1 hc1=>by
    refine (hpa w1 hc1).wk ?_
    rintro v L ⟨s,d,h1,h2,h3,h4,h5,h6⟩
    rw [if_pos (by omega)] at h1 h2
    rw [prs_att h1 h2,hpe] at h4
    rw [prs_att h1 h2] at h5
    exact ⟨d,h3,h4,h5,h6⟩
  have hDl:∀ p8,p8.length=8→(dgV (attV xs) p8).length=12:=fun p8 h=>dg_len (attV_len xs) h
  have hDs:∀ p8,subE (dgV (attV xs) p8) 0 4=some (iis (attV xs)):=fun p8=>subE_app _ _ (by rw [iis_len,attV_len])
  have hx8:(xs.take 8).length=8:=by rw [List.length_take];omega
  have hle:=h.le
  have hov:=h.ov
  have hgg:=h.g
  have hfd:=fun w1 e1 e2 (hc1:Chg (blks (FL bf bs gs ov al since is)) w w1)=>ffind_ok bf bs ov al h.ov h.le since is seed tick h0 h1 p cap (xs.take 8) w1 e1 e2 (RdSl.pre (v:=u8V) (sz:=1) (fun _=>rfl) (hp.chg' hc1 hoff) 8)
  rw [hx8] at hfd
  have hpn:=posI_neg al (Ak.is seed tick (xs.take 8))
  have hpv:posI al (Ak.is seed tick (xs.take 8))=if apos al seed tick (xs.take 8) < al.length then ((apos al seed tick (xs.take 8):Nat):Int) else -1:=rfl
  have hTE:FM.takeE ⟨lgs gs,al,since,is⟩ seed tick (xs.take 8) (tprs xs).1=if apos al seed tick (xs.take 8) < al.length then appX (lgs gs) (tprs xs).1 else 7:=rfl
  have hTY:FM.takeY ⟨lgs gs,al,since,is⟩ seed tick (xs.take 8) (attV xs) (tprs xs).1=(decide (FM.takeE ⟨lgs gs,al,since,is⟩ seed tick (xs.take 8) (tprs xs).1=0) && decide (Cov (lensI (appL (lgs gs) (tprs xs).1)) (attV xs))):=rfl
  have hTM:FM.take ⟨lgs gs,al,since,is⟩ seed tick (xs.take 8) (attV xs) (tprs xs).1=if FM.takeE ⟨lgs gs,al,since,is⟩ seed tick (xs.take 8) (tprs xs).1=0 then ⟨appL (lgs gs) (tprs xs).1,al.eraseIdx (apos al seed tick (xs.take 8)),if Cov (lensI (appL (lgs gs) (tprs xs).1)) (attV xs) then max since ((al[apos al seed tick (xs.take 8)]?.map Ak.tick).getD 0) else since,is || decide (Cov (lensI (appL (lgs gs) (tprs xs).1)) (attV xs))⟩ else ⟨lgs gs,al,since,is⟩:=rfl
  rw [hTM,hTY,hTE]
  clear hTM hTY hTE
  generalize hDD:(tprs xs).1=DD at *
  generalize hAP:apos al seed tick (xs.take 8)=ap at *
  have hx1000:=hbig
  rw [hpv] at hfd hpn
  by_cases hf:ap < al.length
  · simp only [if_pos hf] at hfd ⊢
    clear hpv hpn
    have hDR:DR DD:=by rw [← hDD];exact tprs_dr hpe
    obtain ⟨x,hx⟩:∃ x,al[ap]? = some x:=⟨_,List.getElem?_eq_getElem hf⟩
    have hxt:=h.tk x (List.mem_of_getElem? hx)
    have hsi:=h.si
    obtain ⟨b,j,junk,rfl⟩:∃ b j junk,ov=some (b,j,junk):=by
      cases ov with
      | none=>exact absurd hov.2 (by omega)
      | some q=>exact ⟨_,_,_,rfl⟩
    have hap:∀ d:Dl,d.length=4→pur d=DD→(∀ x∈d,x.2.xs.length≤x.2.cap)→∀ w1,(∀ x∈d,RdSl w1 x.2.p iV x.2.xs)→(∀ x∈d,x.2.xs≠[]→Off x.2.p (blks (SetL bs gs)))→CallM Tryz.prog 73 [.pointer (some ⟨bs,0,none⟩),.agg ⟨dlV d⟩] (SetL bs gs) w1 fun v L=>∃ gs',v = .tuple #[.int .i64 (appN (lgs gs) DD),.int .i64 (appX (lgs gs) DD)]∧lgs gs'=appL (lgs gs) DD∧GOk gs' ∧ L=SetL bs gs':=by
      intro d hd4 hpd hcp w1 e1 e2
      have h9:=apply_ok bs gs hgg d hd4 (fun x hx=>⟨by
        have hm:(x.1,x.2.xs)∈DD:=by rw [← hpd];exact List.mem_map.2 ⟨x,hx,rfl⟩
        have:=(hDR _ hm).2.2.1
        simp only at this
        omega,hcp x hx⟩) w1 e1 e2
      have hp:(d.map fun x=>(x.1,x.2.xs))=DD:=hpd
      rw [hp] at h9
      exact h9
    refine enterK (tb:=tb) Tryz.func9 rfl Tryz.ntmps9 rfl ?_
    simp only [FL] at *
    repeat' (first|(apply R.is1;first|(apply R.isBin;(apply R.pure;exact rfl;first|(apply Ok1.lss_f;exact rfl;exact rfl;omega)|(apply Ok1.neq_f;exact rfl;exact rfl;omega)))|(apply R.isCall;first|apply R.callP rfl rfl rfl hck|(apply R.callE (vs:=[.slice (sufP p cap 8 1) 16 (cap - 8)]);(iterate 3 exact rfl);exact Ext.none _;intro w1 hw1;exact hnr w1 hw1.chg;rintro v Lo ⟨br,s,M,rfl,hsx,hse,hso,rfl⟩;obtain ⟨p8,hp8,hrd⟩:=rd_att (by omega) hb hsx hse;rw [if_pos hV] at hrd)|(apply R.callE (Li:=s.L br) (vs:=[.pointer (some ⟨br,0,none⟩)]);(iterate 3 exact rfl);(focus ((repeat' (exact Ext.one _ _));done));intro w1 hw1;exact hr9 br s w1 (hso.ok hw1 (by (focus ((repeat' (exact Ext.one _ _));done))) (Ext.mem (by (focus ((repeat' (exact Ext.here _ _));done)))));rintro v Lo ⟨hv,rfl⟩;rw [hrd] at hv;simp only at hv;subst hv)|(apply R.callE (vs:=[.slice (sufP p cap 24 1) (xs.length - 24) (cap - 24)]);(iterate 3 exact rfl);exact Ext.none _;intro w1 hw1;exact hpa2 w1 hw1.chg;rintro v Lo ⟨d,hd4,rfl,hpd,hdo⟩)|(apply R.callV (vs:=[.pointer (some ⟨bf,0,none⟩),.int .i64 seed,.int .i64 tick,.slice p 8 cap]);(iterate 3 exact rfl);intro w1 hw1;exact hfd w1 (hw1.get _ _ (At.mem (by (focus (repeat' first|exact At.head|apply At.tail|apply At.right);done)))) (RdSl.own' hw1 (Ext.mem (by (focus (repeat' first|exact Ext.one _ _|apply Ext.cons|apply Ext.app);done))) hov Ak.v_len) hw1.chg)|(apply R.pure;exact rfl;(apply Ok1.lenS;(iterate 3 exact rfl))))|(apply R.pure;exact rfl;first|(apply Ok1.midR (i:=8) (j:=24) (sz:=1);(iterate 7 exact rfl);omega;omega)|(apply Ok1.sufR (sz:=1) (i:=24);(iterate 6 exact rfl);omega;omega)|(apply Ok1.preR (i:=8);(iterate 5 exact rfl);omega)|(apply Ok1.move;exact rfl)|(apply Ok1.assign;exact rfl)|(apply Ok1.extract;exact rfl;exact rfl))|(apply R.alloc;(iterate 3 exact rfl);intro))|(apply R.is0;first|(apply R.store;(iterate 4 exact rfl);exact hDl p8 hp8;exact dg_one _ _;exact Upd.head;exact setE_all (by rw [hDl p8 hp8];rfl))|(apply R.store;(iterate 4 exact rfl);exact dl_len8r hd4;exact dl_oner d;exact Upd.head;exact setE_all (by rw [dl_len8r hd4];rfl)))|apply R.nil|(apply T.is;first|apply T.seq|apply T.region|apply T.skip|(apply T.cond_f;exact rfl)))
    rename_i b11 b13
    refine T.weakK (σ':=[(0,.pointer (some ⟨bf,0,none⟩)),(11,.pointer (some ⟨b11,0,none⟩)),(13,.pointer (some ⟨b13,0,none⟩)),(14,.int .i64 ap)]) (L':=(b13,.cells ⟨dlV d⟩ 76 (0,0))::(bf,.cells ⟨FrC bs (some (b,j,junk)) al.length since is⟩ 166 (0,0))::(b11,.cells ⟨dgV (attV xs) p8⟩ 70 (0,0))::(b,.cells ⟨fl Ak.v al++junk⟩ 164 (0,0))::(SetL bs gs++Lo)) ?_ (by (focus (repeat' first|exact Ext.one _ _|exact Ext.here _ _|exact Ext.all _|apply Keep.cons|apply Keep.app|apply Keep.last|apply Ext.cons|apply Ext.app);done)) ⟨rfl,rfl,rfl,rfl,trivial⟩
    have hap2:=hap d hd4 hpd hdo.cap
    have hl8:=dl_len8r hd4
    simp only [FrC,slV]
    by_cases hX:appX (lgs gs) DD=0
    · simp only [hX,decide_eq_true (show (0:Int)=0 by decide),Bool.true_and,if_pos (show (0:Int)=0 by decide)]
      rw [hX] at hap2
      have hdel:∀ w1,CallM Tryz.prog 74 [.slice (some ⟨b,0,none⟩) al.length (al.length+j),.int .i64 ap,.int .i64 (ap+1)] [(b,.cells ⟨fl Ak.v al++junk⟩ 164 (0,0))] w1 fun v L=>∃ ov',OvOk 10 ov' (al.eraseIdx ap).length (fl Ak.v (al.eraseIdx ap))∧v=slV ov' (al.eraseIdx ap).length∧L=blkL 164 ov' (fl Ak.v (al.eraseIdx ap)):=fun w1=>adelete_ok b j junk al hov (by omega) ap hf w1
      have hel:(al.eraseIdx ap).length=al.length - 1:=by rw [List.length_eraseIdx,if_pos hf]
      have hem:∀ a∈al.eraseIdx ap,0≤a.tick∧a.tick≤1073741824:=fun a ha=>h.tk a ((List.eraseIdx_sublist _ _).subset ha)
      have hgx:(al[ap]?.map Ak.tick).getD 0=x.tick:=by rw [hx];rfl
      rw [hgx]
      have hl4:(appL (lgs gs) DD).length=4 ∨ True:=.inr trivial
      have hver:=fun gs' hg' w1 hs=>versions_ok bs gs' hg' w1 hs
      simp only [lens_I] at hver
      have hcv:=fun gs' (hg':GOk gs')=>covc_ok (lensI (lgs gs')) (attV xs) hg'.l4 (attV_len xs)
      generalize hal':al.eraseIdx ap=al' at *
      generalize appN (lgs gs) DD=N9 at *
      repeat' (first|(apply R.is1;first|(apply R.isBin;(apply R.pure;exact rfl;first|(apply Ok1.add64;exact rfl;exact rfl;omega;omega)|(apply Ok1.neq_f;exact rfl;exact rfl;omega)))|(apply R.isCall;(apply R.callE (Li:=[(b,.cells ⟨fl Ak.v al++junk⟩ 164 (0,0))]) (vs:=[.slice (some ⟨b,0,none⟩) al.length (al.length+j),.int .i64 ap,.int .i64 (ap+1)]);(iterate 3 exact rfl);(focus (repeat' first|exact Ext.one _ _|apply Ext.cons|apply Ext.app);done);intro w1 hw1;exact hdel w1;rintro v Lo3 ⟨ov2,hov2,rfl,rfl⟩;rw [slV_eq hov2]))|(apply R.pure;exact rfl;first|(apply Ok1.load;exact rfl;(apply Ld.ownrow1 (f:=1);(focus (repeat' first|exact At.head|apply At.tail|apply At.right);done);exact Ak.v_len;exact hx;(focus ((simp;done)));(iterate 3 exact rfl)))|(apply Ok1.move;exact rfl)|(apply Ok1.fieldAddr;(iterate 5 exact rfl))|(apply Ok1.load;exact rfl;(apply Ld.own1;exact rfl;exact rfl;(focus (repeat' first|exact At.head|apply At.tail|apply At.right);done);exact rfl))|(apply Ok1.assign;exact rfl)|(apply Ok1.indexAddr;(iterate 5 exact rfl);omega;omega)|(apply Ok1.nilCheck;exact rfl)))|(apply R.is0;(apply R.store;(iterate 6 exact rfl);(focus (repeat' first|exact Upd.head|apply Upd.tail|apply Upd.right);done);exact rfl))|apply R.nil|(apply T.is;first|(apply T.drawC (id:=15) [0,1] (by decide);((apply A.tk 0;exact rfl;kernel_rfl;(apply Ok1.move;exact rfl))<;>(apply A.tk 1;exact rfl;kernel_rfl;(apply Ok1.nilCheck;exact rfl))<;>(apply A.tk 2;exact rfl;kernel_rfl;(apply Ok1.fieldAddr;(iterate 5 exact rfl)))<;>(apply A.tk 3;exact rfl;kernel_rfl;(apply Ok1.load;exact rfl;(apply Ld.own1;exact rfl;exact rfl;(focus (repeat' first|exact At.head|apply At.tail);done);exact rfl)))<;>(apply A.tk 4;exact rfl;kernel_rfl;(apply Ok1.load;exact rfl;(apply Ld.ownk;exact rfl;exact rfl;exact At.head;exact subE_all hl8)))<;>(apply A.one 5;kernel_rfl;exact rfl;(((apply R.callE (Li:=SetL bs gs) (vs:=[.pointer (some ⟨bs,0,none⟩),.agg ⟨dlV d⟩]);(iterate 3 exact rfl);(focus (repeat' first|exact Ext.here _ _|apply Ext.cons);done);intro w1 hw1;exact hap2 w1 (hdo.rd _ _ _ _ hw1 (Ext.mem (by (focus (repeat' first|exact Ext.all _|apply Ext.cons|apply Ext.app);done)))) (hdo.off (Li:=SetL bs gs) hw1 (by (focus (repeat' first|exact Ext.here _ _|apply Ext.cons);done)) (Ext.mem (by (focus (repeat' first|exact Ext.all _|apply Ext.cons);done))));rintro v Lo2 ⟨gs',rfl,hl',hg',rfl⟩)));apply R.nil;refine ⟨?_,?_⟩;(focus (repeat' first|exact trivial|exact At.head|apply At.tail|apply At.right|refine ⟨?_,?_⟩)))<;>(apply A.tk 6;exact rfl;kernel_rfl;(apply Ok1.move;exact rfl))<;>(apply A.tk 7;exact rfl;kernel_rfl;(apply Ok1.extract;exact rfl;exact rfl))<;>(apply A.tk 8;exact rfl;kernel_rfl;(apply Ok1.extract;exact rfl;exact rfl))<;>(apply A.tk 9;exact rfl;kernel_rfl;(apply Ok1.assign;exact rfl))<;>(apply A.tk 10;exact rfl;kernel_rfl;(apply Ok1.assign;exact rfl))<;>(apply A.done;kernel_rfl)))|apply T.seq|apply T.region|apply T.skip|(apply T.cond_f;exact rfl)))
      have hsl2:=slV_eq hov2
      have hver2:=hver gs' hg'
      have hcv2:=hcv gs' hg'
      rw [hl'] at hver2 hcv2
      refine T.weakK (σ':=[(0,.pointer (some ⟨bf,0,none⟩)),(11,.pointer (some ⟨b11,0,none⟩)),(17,.int .i64 x.tick)]) (L':=(bf,.cells ⟨[.pointer (some ⟨bs,0,none⟩),.slice (ovp ov2) al'.length (ovc ov2 al'.length),.int .i64 since,.bool is]⟩ 166 (0,0))::(b11,.cells ⟨dgV (attV xs) p8⟩ 70 (0,0))::(SetL bs gs'++blkL 164 ov2 (fl Ak.v al'))) ?_ (by (focus (repeat' first|exact Ext.one _ _|exact Ext.here _ _|apply Keep.cons|apply Keep.app|apply Keep.last|apply Ext.cons|apply Ext.app);done)) ⟨rfl,rfl,rfl,trivial⟩
      have hds:=hDs p8
      generalize attV xs=AV at *
      generalize dgV AV p8=DG at *
      generalize lensI (appL (lgs gs) DD)=LN at *
      by_cases hC:Cov LN AV
      · simp only [decide_eq_true hC,if_pos hC,Bool.or_true] at hcv2 ⊢
        repeat' (first|(apply R.is1;first|(apply R.isCall;(apply R.pure;exact rfl;(apply Ok1.max2;exact rfl;exact rfl)))|(apply R.pure;exact rfl;first|(apply Ok1.move;exact rfl)|(apply Ok1.fieldAddr;(iterate 5 exact rfl))|(apply Ok1.load;exact rfl;(apply Ld.own1;exact rfl;exact rfl;exact At.head;exact rfl))|(apply Ok1.assign;exact rfl)|(apply Ok1.nilCheck;exact rfl)))|(apply R.is0;(apply R.store;(iterate 6 exact rfl);exact Upd.head;exact rfl))|apply R.nil|(apply T.is;first|(apply T.drawC (id:=20) [0,1] (by decide);((apply A.tk 0;exact rfl;kernel_rfl;(apply Ok1.move;exact rfl))<;>(apply A.tk 1;exact rfl;kernel_rfl;(apply Ok1.nilCheck;exact rfl))<;>(apply A.tk 2;exact rfl;kernel_rfl;(apply Ok1.fieldAddr;(iterate 5 exact rfl)))<;>(apply A.tk 3;exact rfl;kernel_rfl;(apply Ok1.load;exact rfl;(apply Ld.own1;exact rfl;exact rfl;exact At.head;exact rfl)))<;>(apply A.tk 5;exact rfl;kernel_rfl;(apply Ok1.fieldAddr;(iterate 5 exact rfl)))<;>(apply A.tk 6;exact rfl;kernel_rfl;(apply Ok1.load;exact rfl;apply Ld.ownk;exact rfl;exact rfl;(focus (repeat' first|exact At.head|apply At.tail);done);exact hds))<;>(apply A.one 4;kernel_rfl;exact rfl;(((apply R.callV (vs:=[.pointer (some ⟨bs,0,none⟩)]);(iterate 3 exact rfl);intro w1 hw1;exact hver2 w1 (SetR.of hg' hw1 (Ext.mem (by (focus (repeat' first|exact Ext.here _ _|apply Ext.cons);done)))))));apply R.nil;refine ⟨?_,?_⟩;(focus (repeat' first|exact trivial|exact At.head|apply At.tail|refine ⟨?_,?_⟩)))<;>(apply A.one 7;kernel_rfl;exact rfl;((apply R.callP rfl rfl rfl hcv2));apply R.nil;refine ⟨?_,?_⟩;(focus (repeat' first|exact trivial|exact At.head|apply At.tail|refine ⟨?_,?_⟩)))<;>(apply A.tk 8;exact rfl;kernel_rfl;(apply Ok1.not_t;exact rfl))<;>(apply A.done;kernel_rfl)))|apply T.seq|apply T.region|apply T.skip|apply T.ret|(apply T.cond_f;exact rfl)))
        (apply RetOk.tt;exact rfl;exact rfl)
        refine ⟨_,?_,gs',ov2,rfl,hl',⟨hg',hov2,(show al'.length≤8 from by omega),hem,(show 0≤max since x.tick∧max since x.tick≤1073741824 from by omega)⟩,rfl⟩
        show Keep _ (FL bf bs gs' ov2 al' (max since x.tick) true)
        simp only [FL,FrC,hsl2]
        (focus (repeat' first|exact Ext.one _ _|exact Ext.here _ _|exact Ext.all _|apply Keep.cons|apply Keep.app|apply Keep.last|apply Ext.cons|apply Ext.app);done)
      · simp only [decide_eq_false hC,if_neg hC,Bool.or_false] at hcv2 ⊢
        repeat' (first|(apply R.is1;(apply R.pure;exact rfl;(apply Ok1.assign;exact rfl)))|apply R.nil|(apply T.is;first|(apply T.drawC (id:=20) [0,1] (by decide);((apply A.tk 0;exact rfl;kernel_rfl;(apply Ok1.move;exact rfl))<;>(apply A.tk 1;exact rfl;kernel_rfl;(apply Ok1.nilCheck;exact rfl))<;>(apply A.tk 2;exact rfl;kernel_rfl;(apply Ok1.fieldAddr;(iterate 5 exact rfl)))<;>(apply A.tk 3;exact rfl;kernel_rfl;(apply Ok1.load;exact rfl;(apply Ld.own1;exact rfl;exact rfl;exact At.head;exact rfl)))<;>(apply A.tk 5;exact rfl;kernel_rfl;(apply Ok1.fieldAddr;(iterate 5 exact rfl)))<;>(apply A.tk 6;exact rfl;kernel_rfl;(apply Ok1.load;exact rfl;apply Ld.ownk;exact rfl;exact rfl;(focus (repeat' first|exact At.head|apply At.tail);done);exact hds))<;>(apply A.one 4;kernel_rfl;exact rfl;(((apply R.callV (vs:=[.pointer (some ⟨bs,0,none⟩)]);(iterate 3 exact rfl);intro w1 hw1;exact hver2 w1 (SetR.of hg' hw1 (Ext.mem (by (focus (repeat' first|exact Ext.here _ _|apply Ext.cons);done)))))));apply R.nil;refine ⟨?_,?_⟩;(focus (repeat' first|exact trivial|exact At.head|apply At.tail|refine ⟨?_,?_⟩)))<;>(apply A.one 7;kernel_rfl;exact rfl;((apply R.callP rfl rfl rfl hcv2));apply R.nil;refine ⟨?_,?_⟩;(focus (repeat' first|exact trivial|exact At.head|apply At.tail|refine ⟨?_,?_⟩)))<;>(apply A.tk 8;exact rfl;kernel_rfl;(apply Ok1.not_f;exact rfl))<;>(apply A.done;kernel_rfl)))|apply T.seq|apply T.region|apply T.ret|(apply T.cond_t;exact rfl)))
        (apply RetOk.tt;exact rfl;exact rfl)
        refine ⟨_,?_,gs',ov2,rfl,hl',⟨hg',hov2,(show al'.length≤8 from by omega),hem,h.si⟩,rfl⟩
        show Keep _ (FL bf bs gs' ov2 al' since is)
        simp only [FL,FrC,hsl2]
        (focus (repeat' first|exact Ext.one _ _|exact Ext.here _ _|exact Ext.all _|apply Keep.cons|apply Keep.app|apply Keep.last|apply Ext.cons|apply Ext.app);done)
    · simp only [if_neg hX,decide_eq_false hX,Bool.false_and]
      have hL9:appL (lgs gs) DD=lgs gs:=if_neg hX
      rw [hL9] at hap2
      generalize appX (lgs gs) DD=X9 at *
      generalize appN (lgs gs) DD=N9 at *
      repeat' (first|(apply R.is1;first|(apply R.isBin;(apply R.pure;exact rfl;(apply Ok1.neq_t;exact rfl;exact rfl;omega)))|(apply R.pure;exact rfl;first|(apply Ok1.move;exact rfl)|(apply Ok1.assign;exact rfl)))|apply R.nil|(apply T.is;first|(apply T.drawC (id:=15) [0,1] (by decide);((apply A.tk 0;exact rfl;kernel_rfl;(apply Ok1.move;exact rfl))<;>(apply A.tk 1;exact rfl;kernel_rfl;(apply Ok1.nilCheck;exact rfl))<;>(apply A.tk 2;exact rfl;kernel_rfl;(apply Ok1.fieldAddr;(iterate 5 exact rfl)))<;>(apply A.tk 3;exact rfl;kernel_rfl;(apply Ok1.load;exact rfl;(apply Ld.own1;exact rfl;exact rfl;(focus (repeat' first|exact At.head|apply At.tail);done);exact rfl)))<;>(apply A.tk 4;exact rfl;kernel_rfl;(apply Ok1.load;exact rfl;apply Ld.ownk;exact rfl;exact rfl;exact At.head;exact subE_all hl8))<;>(apply A.one 5;kernel_rfl;exact rfl;(((apply R.callE (Li:=SetL bs gs) (vs:=[.pointer (some ⟨bs,0,none⟩),.agg ⟨dlV d⟩]);(iterate 3 exact rfl);(focus (repeat' first|exact Ext.here _ _|apply Ext.cons);done);intro w1 hw1;exact hap2 w1 (hdo.rd _ _ _ _ hw1 (Ext.mem (by (focus (repeat' first|exact Ext.all _|apply Ext.cons|apply Ext.app);done)))) (hdo.off (Li:=SetL bs gs) hw1 (by (focus (repeat' first|exact Ext.here _ _|apply Ext.cons);done)) (Ext.mem (by (focus (repeat' first|exact Ext.all _|apply Ext.cons);done))));rintro v Lo2 ⟨gs',rfl,hl',hg',rfl⟩)));apply R.nil;refine ⟨?_,?_⟩;(focus (repeat' first|exact trivial|exact At.head|apply At.tail|apply At.right|refine ⟨?_,?_⟩)))<;>(apply A.tk 6;exact rfl;kernel_rfl;(apply Ok1.move;exact rfl))<;>(apply A.tk 7;exact rfl;kernel_rfl;(apply Ok1.extract;exact rfl;exact rfl))<;>(apply A.tk 8;exact rfl;kernel_rfl;(apply Ok1.extract;exact rfl;exact rfl))<;>(apply A.tk 9;exact rfl;kernel_rfl;(apply Ok1.assign;exact rfl))<;>(apply A.tk 10;exact rfl;kernel_rfl;(apply Ok1.assign;exact rfl))<;>(apply A.done;kernel_rfl)))|apply T.seq|apply T.region|apply T.ret|(apply T.cond_t;exact rfl)))
      (apply RetOk.tt;exact rfl;exact rfl)
      exact ⟨_,by simp only [FL,FrC,slV];(focus (repeat' first|exact Ext.one _ _|exact Ext.here _ _|apply Keep.cons|apply Keep.last|apply Ext.cons|apply Ext.app);done),gs',some (b,j,junk),rfl,hl',⟨hg',h.ov,h.le,h.tk,h.si⟩,rfl⟩
  · simp only [if_neg hf,if_neg (show ¬ (7:Int)=0 by decide),decide_eq_false (show ¬ (7:Int)=0 by decide),Bool.false_and] at hfd ⊢
    have hsl:=slV_eq hov
    refine enterK (tb:=tb) Tryz.func9 rfl Tryz.ntmps9 rfl ?_
    simp only [FL] at *
    repeat' (first|(apply R.is1;first|(apply R.isBin;(apply R.pure;exact rfl;first|(apply Ok1.lss_t;exact rfl;exact rfl;omega)|(apply Ok1.lss_f;exact rfl;exact rfl;omega)|(apply Ok1.neq_f;exact rfl;exact rfl;omega)))|(apply R.isCall;first|apply R.callP rfl rfl rfl hck|(apply R.callE (vs:=[.slice (sufP p cap 8 1) 16 (cap - 8)]);(iterate 3 exact rfl);exact Ext.none _;intro w1 hw1;exact hnr w1 hw1.chg;rintro v Lo ⟨br,s,M,rfl,hsx,hse,hso,rfl⟩;obtain ⟨p8,hp8,hrd⟩:=rd_att (by omega) hb hsx hse;rw [if_pos hV] at hrd)|(apply R.callE (Li:=s.L br) (vs:=[.pointer (some ⟨br,0,none⟩)]);(iterate 3 exact rfl);(focus ((repeat' (exact Ext.one _ _));done));intro w1 hw1;exact hr9 br s w1 (hso.ok hw1 (by (focus ((repeat' (exact Ext.one _ _));done))) (Ext.mem (by (focus ((repeat' (exact Ext.here _ _));done)))));rintro v Lo ⟨hv,rfl⟩;rw [hrd] at hv;simp only at hv;subst hv)|(apply R.callE (vs:=[.slice (sufP p cap 24 1) (xs.length - 24) (cap - 24)]);(iterate 3 exact rfl);exact Ext.none _;intro w1 hw1;exact hpa2 w1 hw1.chg;rintro v Lo ⟨d,hd4,rfl,hpd,hdo⟩)|(apply R.callV (vs:=[.pointer (some ⟨bf,0,none⟩),.int .i64 seed,.int .i64 tick,.slice p 8 cap]);(iterate 3 exact rfl);intro w1 hw1;exact hfd w1 (hw1.get _ _ (At.mem (by (focus (repeat' first|exact At.head|apply At.tail|apply At.right);done)))) (RdSl.own' hw1 (Ext.mem (by (focus (repeat' first|exact Ext.here _ _|apply Ext.cons|apply Ext.app);done))) hov Ak.v_len) hw1.chg)|(apply R.pure;exact rfl;(apply Ok1.lenS;(iterate 3 exact rfl))))|(apply R.pure;exact rfl;first|(apply Ok1.midR (i:=8) (j:=24) (sz:=1);(iterate 7 exact rfl);omega;omega)|(apply Ok1.sufR (sz:=1) (i:=24);(iterate 6 exact rfl);omega;omega)|(apply Ok1.preR (i:=8);(iterate 5 exact rfl);omega)|(apply Ok1.move;exact rfl)|(apply Ok1.assign;exact rfl)|(apply Ok1.extract;exact rfl;exact rfl))|(apply R.alloc;(iterate 3 exact rfl);intro))|(apply R.is0;first|(apply R.store;(iterate 4 exact rfl);exact hDl p8 hp8;exact dg_one _ _;exact Upd.head;exact setE_all (by rw [hDl p8 hp8];rfl))|(apply R.store;(iterate 4 exact rfl);exact dl_len8r hd4;exact dl_oner d;exact Upd.head;exact setE_all (by rw [dl_len8r hd4];rfl)))|apply R.nil|(apply T.is;first|apply T.seq|apply T.region|apply T.skip|apply T.ret|(apply T.cond_t;exact rfl)|(apply T.cond_f;exact rfl)))
    (apply RetOk.tt;exact rfl;exact rfl)
    exact ⟨_,by (focus (repeat' first|exact Ext.one _ _|exact Ext.here _ _|exact Ext.all _|apply Keep.cons|apply Keep.app|apply Keep.last|apply Ext.cons|apply Ext.app);done),gs,ov,rfl,rfl,h,rfl⟩
def DSE (te:TypeId) (tl:List Value) (bs:Nat) (gs:List Lg):Lst:=(bs,.cells ⟨setV gs++tl⟩ te (0,0))::LsL gs
structure DSRE (te:TypeId) (tl:List Value) (w:World) (bs:Nat) (gs:List Lg):Prop where
  b:w.heap[bs]? = some (.cells ⟨setV gs++tl⟩ te (0,0))
  rd:∀ g∈gs,RdSl w (ovp g.ov) iV g.xs
theorem DSRE.of {te:TypeId} {tl:List Value} {bs:Nat} {gs:List Lg} (hg:GOk gs) {w0 w:World} {S:List Nat} {L:Lst} (hw:Hp w0 S L w) (hin:∀ x∈DSE te tl bs gs,x∈L):DSRE te tl w bs gs :=
  ⟨hw.get _ _ (hin _ List.mem_cons_self),fun g h=>Lg.rd (hg.ok g h) hw fun x hx=>hin _ (List.mem_cons_of_mem _ (mem_LsL h hx))⟩
theorem setV_getE {gs:List Lg} {i:Nat} {g:Lg} (tl:List Value) (h:gs[i]? = some g) (hk:g.ok):(setV gs++tl)[0+i * 1]? = some (.slice (ovp g.ov) g.xs.length (ovc g.ov g.xs.length)):=by
  have h1:=setV_get h hk
  rw [List.getElem?_append_left (List.getElem?_eq_some_iff.1 h1).1]
  exact h1
theorem setE_pre {A B:List Value} (tl:List Value) (h:A.length=B.length):setE (A++tl) 0 B=some (B++tl):=by
  have h1:=setE_mid [] (vs:=B) (junk:=A++tl) (by rw [List.length_append];omega)
  rw [List.nil_append,List.nil_append,← h,List.drop_left] at h1
  exact h1
theorem dapplyE_ok (te:TypeId) (tl:List Value) (bs:Nat) (gs:List Lg) (hg:GOk gs) (d:Dl) (hd:d.length=4) (hdb:∀ x∈d,x.2.xs.length≤1000000∧x.2.xs.length≤x.2.cap) (w:World) (hr:∀ x∈d,RdSl w x.2.p iV x.2.xs) (hoff:∀ x∈d,x.2.xs≠[]→Off x.2.p (blks (DSE te tl bs gs))) :
    CallM Tryz.prog 102 [.pointer (some ⟨bs,0,none⟩),.agg ⟨dlV d⟩] (DSE te tl bs gs) w fun v L=>∃ gs',v = .tuple #[.int .i64 (appN (lgs gs) (d.map fun x=>(x.1,x.2.xs))),.int .i64 (appX (lgs gs) (d.map fun x=>(x.1,x.2.xs)))]∧lgs gs'=appL (lgs gs) (d.map fun x=>(x.1,x.2.xs))∧GOk gs' ∧ L=DSE te tl bs gs':=by
  have hrd:=fun x hx w1 (hc:Chg (blks (DSE te tl bs gs)) w w1)=>(hr x hx).chg' hc (hoff x hx)
  have hchk:=fun w1 (hc:Chg (blks (DSE te tl bs gs)) w w1)=>dcheck_ok d hd (fun x hx=>(hdb x hx).1) w1 (fun x hx=>hrd x hx w1 hc)
  have hdr:DOk d ↔ DR (d.map fun x=>(x.1,x.2.xs)):=by
    unfold DOk DR
    rw [List.forall_mem_map]
    exact Iff.rfl
  have hdl:(dlV d).length=8:=by simp [dlV,fl_pi,iis_len,hd]
  by_cases hok:DOk d
  · rw [decide_eq_true hok] at hchk
    have hX:appX (lgs gs) (d.map fun x=>(x.1,x.2.xs))=appE (zz gs d):=if_pos (hdr.1 hok)
    have hN:appN (lgs gs) (d.map fun x=>(x.1,x.2.xs))=if appE (zz gs d)=0 then sumN (zz gs d) else 0:=by rw [appN,hX];rfl
    have hLL:appL (lgs gs) (d.map fun x=>(x.1,x.2.xs))=if appE (zz gs d)=0 then (zz gs d).map JL else lgs gs:=by rw [appL,hX];rfl
    rw [hX,hN,hLL]
    clear hX hN hLL
    have hzl:=zz_len hg.len hd
    have hz256:∀ x∈zz gs d,x.1.length≤256∧x.2.2.length≤256:=by
      intro x hx
      unfold zz lgs at hx
      obtain ⟨g,hgm,he⟩:=List.mem_map.1 (List.of_mem_zip hx).1
      obtain ⟨y,hym,he2⟩:=List.mem_map.1 (List.of_mem_zip hx).2
      have:=(hok y hym).2.2.1
      rw [← he,← he2]
      exact ⟨hg.le g hgm,this⟩
    refine enterK (tb:=tb) Tryz.func102 rfl Tryz.ntmps102 rfl ?_
    simp only [DSE]
    repeat' (first|(apply R.is1;first|(apply R.isCall;(apply R.callV (vs:=[.agg ⟨dlV d⟩]);(iterate 3 exact rfl);intro w1 hw1;exact hchk w1 hw1.chg))|(apply R.pure;exact rfl;first|(apply Ok1.load;exact rfl;apply Ld.ownk;exact rfl;exact rfl;exact At.head;exact subE_all hdl)|(apply Ok1.assign;exact rfl)|(apply Ok1.build;(iterate 5 exact rfl))|(apply Ok1.not_t;exact rfl))|(apply R.box;(iterate 3 exact rfl);intro)|(apply R.alloc;(iterate 3 exact rfl);intro))|(apply R.is0;(apply R.store;(iterate 6 exact rfl);exact Upd.head;exact rfl))|apply R.nil|(apply T.is;first|apply T.seq|apply T.region|apply T.block|apply T.skip|(apply T.cond_f;exact rfl)))
    rename_i bd bn
    apply T.loopK (α:=Nat) (I:=fun i=>i≤4∧∀ x∈(zz gs d).take i,x.2.1≤(x.1.length:Int)) (σi:=fun i=>[(0,.pointer (some ⟨bs,0,none⟩)),(3,.pointer (some ⟨bd,0,none⟩)),(6,.pointer (some ⟨bn,0,none⟩)),(7,.int .i64 0),(8,.int .i64 0),(9,.int .i64 i)])
      (Li:=fun i=>(bd,.cells ⟨dlV d⟩ 82 (0,0))::(bs,.cells ⟨setV gs++tl⟩ te (0,0))::(bn,.cells ⟨setV [lg0,lg0,lg0,lg0]⟩ 48 (0,0))::LsL gs) (μ:=fun i=>4 - i) (i0:=0)
    · exact ⟨Nat.zero_le _,by simp⟩
    · exact ⟨rfl,rfl,rfl,rfl,rfl,rfl,trivial⟩
    · (focus (repeat' first|exact Ext.one _ _|exact Ext.all _|apply Keep.cons|apply Keep.last|apply Ext.cons);done)
    · intro i ⟨hi,hall⟩
      rcases Nat.lt_or_ge i 4 with hlt|hge
      · obtain ⟨g,hx1⟩:∃ g,gs[i]? = some g:=⟨_,List.getElem?_eq_getElem (by rw [hg.len];omega)⟩
        obtain ⟨x,hx2⟩:∃ x,d[i]? = some x:=⟨_,List.getElem?_eq_getElem (by rw [hd];omega)⟩
        have hm:=List.mem_of_getElem? hx1
        have hcell:=setV_getE tl hx1 (hg.ok g hm)
        have hgl:=hg.le g hm
        have hf:=dl_from0 hx2
        have hz:=zz_get hx1 hx2
        by_cases c1:(g.xs.length:Int) < x.1
        · have hE:appE (zz gs d)=9:=if_pos ⟨_,List.mem_of_getElem? hz,c1⟩
          rw [hE,if_neg (by decide),if_neg (by decide)]
          repeat' (first|(apply R.is1;first|(apply R.isBin;(apply R.pure;exact rfl;(apply Ok1.lss_t;exact rfl;exact rfl;omega)))|(apply R.pure;exact rfl;first|(apply Ok1.move;exact rfl)|(apply Ok1.assign;exact rfl)))|apply R.nil|(apply T.is;first|(apply T.drawC (id:=8) [0,1] (by decide);((apply A.tk 0;exact rfl;kernel_rfl;(apply Ok1.move;exact rfl))<;>(apply A.tk 1;exact rfl;kernel_rfl;(apply Ok1.fieldAddr;(iterate 5 exact rfl)))<;>(apply A.tk 2;exact rfl;kernel_rfl;(apply Ok1.indexAddrA;(iterate 5 exact rfl);omega;omega))<;>(apply A.tk 3;exact rfl;kernel_rfl;(apply Ok1.load;exact rfl;(apply Ld.own1;exact rfl;exact rfl;exact At.head;exact hf)))<;>(apply A.tk 4;exact rfl;kernel_rfl;(apply Ok1.move;exact rfl))<;>(apply A.tk 5;exact rfl;kernel_rfl;(apply Ok1.move;exact rfl))<;>(apply A.tk 6;exact rfl;kernel_rfl;(apply Ok1.nilCheck;exact rfl))<;>(apply A.tk 7;exact rfl;kernel_rfl;(apply Ok1.fieldAddr;(iterate 5 exact rfl)))<;>(apply A.tk 8;exact rfl;kernel_rfl;(apply Ok1.indexAddrA;(iterate 5 exact rfl);omega;omega))<;>(apply A.tk 9;exact rfl;kernel_rfl;(apply Ok1.load;exact rfl;(apply Ld.own1;exact rfl;exact rfl;(focus (repeat' first|exact At.head|apply At.tail);done);exact hcell)))<;>(apply A.tk 10;exact rfl;kernel_rfl;(apply Ok1.lenS;(iterate 3 exact rfl)))<;>((apply A.tk 11;exact rfl;kernel_rfl;(apply Ok1.gtr_t;exact rfl;exact rfl;omega)))<;>(apply A.done;kernel_rfl)))|apply T.seq|apply T.region|apply T.block|apply T.skip|apply T.ret|(apply T.cond_t;exact rfl)))
          (apply RetOk.tt;exact rfl;exact rfl)
          exact ⟨_,by (focus (repeat' first|exact Ext.one _ _|exact Ext.all _|apply Keep.cons|apply Keep.last|apply Ext.cons);done),gs,rfl,rfl,hg,rfl⟩
        · repeat' (first|(apply R.is1;first|(apply R.isBin;(apply R.pure;exact rfl;first|(apply Ok1.add64;exact rfl;exact rfl;omega;omega)|(apply Ok1.lss_t;exact rfl;exact rfl;omega)))|(apply R.pure;exact rfl;first|(apply Ok1.move;exact rfl)|(apply Ok1.assign;exact rfl)))|apply R.nil|(apply T.is;first|(apply T.drawC (id:=8) [0,1] (by decide);((apply A.tk 0;exact rfl;kernel_rfl;(apply Ok1.move;exact rfl))<;>(apply A.tk 1;exact rfl;kernel_rfl;(apply Ok1.fieldAddr;(iterate 5 exact rfl)))<;>(apply A.tk 2;exact rfl;kernel_rfl;(apply Ok1.indexAddrA;(iterate 5 exact rfl);omega;omega))<;>(apply A.tk 3;exact rfl;kernel_rfl;(apply Ok1.load;exact rfl;(apply Ld.own1;exact rfl;exact rfl;exact At.head;exact hf)))<;>(apply A.tk 4;exact rfl;kernel_rfl;(apply Ok1.move;exact rfl))<;>(apply A.tk 5;exact rfl;kernel_rfl;(apply Ok1.move;exact rfl))<;>(apply A.tk 6;exact rfl;kernel_rfl;(apply Ok1.nilCheck;exact rfl))<;>(apply A.tk 7;exact rfl;kernel_rfl;(apply Ok1.fieldAddr;(iterate 5 exact rfl)))<;>(apply A.tk 8;exact rfl;kernel_rfl;(apply Ok1.indexAddrA;(iterate 5 exact rfl);omega;omega))<;>(apply A.tk 9;exact rfl;kernel_rfl;(apply Ok1.load;exact rfl;(apply Ld.own1;exact rfl;exact rfl;(focus (repeat' first|exact At.head|apply At.tail);done);exact hcell)))<;>(apply A.tk 10;exact rfl;kernel_rfl;(apply Ok1.lenS;(iterate 3 exact rfl)))<;>((apply A.tk 11;exact rfl;kernel_rfl;(apply Ok1.gtr_f;exact rfl;exact rfl;omega)))<;>(apply A.done;kernel_rfl)))|apply T.seq|apply T.region|apply T.block|apply T.skip|(apply T.cond_t;exact rfl)|(apply T.cond_f;exact rfl)))
          refine ⟨i+1,⟨by omega,?_⟩,by omega,⟨rfl,rfl,rfl,rfl,rfl,rfl,trivial⟩,by (focus (repeat' first|exact Ext.one _ _|exact Ext.all _|apply Keep.cons|apply Keep.last);done)⟩
          intro y hy
          rw [List.take_add_one,hz,List.mem_append] at hy
          rcases hy with hy|hy
          · exact hall y hy
          · simp only [Option.toList_some,List.mem_singleton] at hy
            subst hy
            simp only
            omega
      · have him:i=4:=by omega
        subst him
        rw [List.take_of_length_le (by omega)] at hall
        have h9:¬ ∃ x∈zz gs d,(x.1.length:Int) < x.2.1:=by
          rintro ⟨x,hx,h⟩
          have:=hall x hx
          omega
        clear hall hi hge
        have hE:appE (zz gs d)=if ∃ x∈zz gs d,JE x=3 then 3 else if ∃ x∈zz gs d,JE x=6 then 6 else 0:=if_neg h9
        repeat' (first|(apply R.is1;first|(apply R.isBin;(apply R.pure;exact rfl;(apply Ok1.lss_f;exact rfl;exact rfl;omega)))|(apply R.pure;exact rfl;first|(apply Ok1.move;exact rfl)|(apply Ok1.assign;exact rfl)))|apply R.nil|(apply T.is;first|apply T.seq|apply T.region|apply T.block|apply T.exit|(apply T.cond_f;exact rfl)))
        apply T.loopK (α:=Nat × List Lg) (I:=fun y=>y.1≤4∧y.2.length=4∧(∀ g∈y.2,g.ok)∧lgs y.2=((zz gs d).take y.1).map JA++List.replicate (4 - y.1) []∧∀ x∈(zz gs d).take y.1,JE x≠3)
          (σi:=fun y=>[(0,.pointer (some ⟨bs,0,none⟩)),(3,.pointer (some ⟨bd,0,none⟩)),(6,.pointer (some ⟨bn,0,none⟩)),(7,.int .i64 (sumA ((zz gs d).take y.1))),(8,.int .i64 (if fullB ((zz gs d).take y.1) then 6 else 0)),(10,.int .i64 y.1)])
          (Li:=fun y=>(bd,.cells ⟨dlV d⟩ 82 (0,0))::(bs,.cells ⟨setV gs++tl⟩ te (0,0))::(bn,.cells ⟨setV y.2⟩ 48 (0,0))::(LsL gs++LsL y.2)) (μ:=fun y=>4 - y.1) (i0:=(0,[lg0,lg0,lg0,lg0]))
        · exact ⟨Nat.zero_le _,rfl,GOk.new.ok,rfl,by simp⟩
        · exact ⟨rfl,rfl,rfl,rfl,rfl,rfl,trivial⟩
        · simp only [LsL]
          (focus (repeat' first|exact Keep.nil _|exact Ext.one _ _|exact Ext.all _|apply Keep.cons|apply Keep.app);done)
        · rintro ⟨i,gs2⟩ ⟨hi,hg2l,hg2,hlg2,hn3⟩
          simp only at hi hg2l hg2 hlg2 hn3 ⊢
          rcases Nat.lt_or_ge i 4 with hlt|hge
          · obtain ⟨g,hx1⟩:∃ g,gs[i]? = some g:=⟨_,List.getElem?_eq_getElem (by rw [hg.len];omega)⟩
            obtain ⟨x,hx2⟩:∃ x,d[i]? = some x:=⟨_,List.getElem?_eq_getElem (by rw [hd];omega)⟩
            obtain ⟨g2,hx3⟩:∃ g2,gs2[i]? = some g2:=⟨_,List.getElem?_eq_getElem (by rw [hg2l];omega)⟩
            have hm:=List.mem_of_getElem? hx1
            have hgo:=hg.ok g hm
            have hgl:=hg.le g hm
            have hxm:=List.mem_of_getElem? hx2
            obtain ⟨hx0,hx256,hxl,_⟩:=hok x hxm
            have hz:=zz_get hx1 hx2
            have hzm:=List.mem_of_getElem? hz
            have hcell:=setV_getE tl hx1 hgo
            have hl4:=dl_log hd hx2
            have hf0:=dl_from0 hx2
            obtain ⟨f,hk⟩:∃ f:Nat,x.1=f:=⟨x.1.toNat,by omega⟩
            rw [hk] at hf0
            have hfle:f≤g.xs.length:=Nat.le_of_not_lt fun h=>h9 ⟨_,hzm,by simp only;omega⟩
            have hJE:JE (g.xs,x.1,x.2.xs)=jE g.xs x.2.xs f:=by rw [JE,hk,Int.toNat_natCast]
            have hJA:JA (g.xs,x.1,x.2.xs)=dA g.xs x.2.xs f x.2.xs.length:=by rw [JA,hk,Int.toNat_natCast,dA_all]
            have hsn:=sumA_snoc hz
            have hfn:=fullB_snoc hz
            rw [hJA] at hsn
            rw [hJE] at hfn
            have hsb:=sumA_bd ((zz gs d).take i) fun y hy=>(hz256 y (List.mem_of_mem_take hy)).2
            have htl:((zz gs d).take i).length=i:=by rw [List.length_take];omega
            rw [htl] at hsb
            have hset:=fun g'=>setV_set (gs:=gs2) (i:=i) g' (by rw [hg2l];omega)
            repeat' (first|(apply R.is1;first|(apply R.buildSlice0;(iterate 4 exact rfl);intro b0)|(apply R.isBin;(apply R.pure;exact rfl;(apply Ok1.lss_t;exact rfl;exact rfl;omega)))|(apply R.isCall;(focus (apply R.appendRd (xs:=g.xs) (v:=iV) (sz:=1) (ov:=some (b0,0,[])) (n:=0) (old:=[]) (m:=g.xs.length);(iterate 12 exact rfl);exact ⟨rfl,rfl⟩;(focus ((repeat' (exact Ext.one _ _));done));exact rfl;exact iV_len;exact rfl;(intro w1 hw1;exact Lg.rd hgo hw1 fun z hz=>List.mem_cons_of_mem _ (List.mem_cons_of_mem _ (List.mem_cons_of_mem _ (List.mem_cons_of_mem _ (List.mem_append_left _ (mem_LsL hm hz))))));(focus (rw [fl_i];exact iis_one _));omega;intro ov1 hov1 hsome;rw [Nat.zero_add,List.nil_append,fl_i] at hov1;rw [Nat.zero_add,List.nil_append,fl_i])))|(apply R.pure;exact rfl;first|(apply Ok1.load;exact rfl;apply Ld.own1;exact rfl;exact rfl;(focus (repeat' first|exact At.head|apply At.tail);done);exact hcell)|(apply Ok1.move;exact rfl)|(apply Ok1.fieldAddr;(iterate 5 exact rfl))|(apply Ok1.assign;exact rfl)|(apply Ok1.indexAddrA;(iterate 5 exact rfl);omega;omega)|(apply Ok1.nilCheck;exact rfl)))|apply R.nil|(apply T.is;first|apply T.seq|apply T.region|apply T.block|apply T.skip|(apply T.cond_t;exact rfl)))
            apply T.loopK (α:=Nat × Ov) (I:=fun y=>y.1≤x.2.xs.length∧dM g.xs x.2.xs f y.1∧OvOk 1 y.2 (dA g.xs x.2.xs f y.1).length (iis (dA g.xs x.2.xs f y.1)))
              (σi:=fun y=>[(0,.pointer (some ⟨bs,0,none⟩)),(3,.pointer (some ⟨bd,0,none⟩)),(6,.pointer (some ⟨bn,0,none⟩)),(7,.int .i64 (sumA ((zz gs d).take i)+(((dA g.xs x.2.xs f y.1).length:Int) - g.xs.length))),(8,.int .i64 (if fullB ((zz gs d).take i) then 6 else 0)),(10,.int .i64 i),(11,slV y.2 (dA g.xs x.2.xs f y.1).length),(12,.int .i64 y.1)])
              (Li:=fun y=>(bd,.cells ⟨dlV d⟩ 82 (0,0))::(bs,.cells ⟨setV gs++tl⟩ te (0,0))::(bn,.cells ⟨setV gs2⟩ 48 (0,0))::(g.L++(LsL (gs.take i)++(LsL (gs.drop (i+1))++(LsL gs2++blkL 3 y.2 (iis (dA g.xs x.2.xs f y.1))))))) (μ:=fun y=>x.2.xs.length - y.1) (i0:=(0,ov1))
            · exact ⟨Nat.zero_le _,dM_zero _ _ _,by rw [dA_zero];exact hov1⟩
            · simp only [dA_zero]
              exact ⟨rfl,rfl,rfl,by rw [show (sumA ((zz gs d).take i)+((g.xs.length:Int) - g.xs.length))=sumA ((zz gs d).take i) by omega];rfl,rfl,rfl,rfl,rfl,trivial⟩
            · simp only [dA_zero]
              rw [LsL_at hx1]
              simp only [List.append_assoc]
              (focus (repeat' first|exact Ext.one _ _|exact Ext.here _ _|exact Ext.all _|apply Keep.cons|apply Keep.app|apply Keep.last|apply Ext.app);done)
            · rintro ⟨k,ov⟩ ⟨hkl,hM,hov⟩
              simp only at hkl hM hov ⊢
              have hal:=dA_len g.xs x.2.xs f k
              rcases Nat.lt_or_ge k x.2.xs.length with hlk|hgk
              · obtain ⟨y,hy⟩:∃ y,x.2.xs[k]? = some y:=⟨_,List.getElem?_eq_getElem (by omega)⟩
                obtain ⟨b1,o1,hpe,H⟩:=(hr x hxm).at hy
                replace H:=H 1 iV_len
                have hS:b1 ∉ blks (DSE te tl bs gs):=hoff x hxm (fun e=>by rw [e] at hlk;exact absurd hlk (Nat.not_lt_zero _)) _ hpe
                rcases Nat.lt_or_ge (f+k) g.xs.length with hat|hat
                · obtain ⟨z,hzz⟩:∃ z,g.xs[f+k]? = some z:=⟨_,List.getElem?_eq_getElem hat⟩
                  obtain ⟨⟨b2,j2,junk⟩,hgov⟩:∃ q,g.ov=some q:=by
                    cases h:g.ov with
                    | none=>have h5:=hgo.2;rw [h] at h5;simp only at h5;omega
                    | some q=>exact ⟨q,rfl⟩
                  have hcy:(iis g.xs++junk)[0+(f+k) * 1]? = some (.int .i64 z):=by
                    rw [Nat.zero_add,Nat.mul_one,List.getElem?_append_left (by rw [iis_len];exact hat),iis,List.getElem?_map,hzz];rfl
                  simp only [hgov,ovp,ovc] at hcell
                  simp only [Lg.L,hgov,blkL,List.cons_append,List.nil_append]
                  have hstep:=dA_step (l:=x.2.xs) hat
                  by_cases hzy:z=y
                  · repeat' (first|(apply R.is1;first|(apply R.isBin;(apply R.pure;exact rfl;first|(apply Ok1.add64;exact rfl;exact rfl;omega;omega)|(apply Ok1.lss_t;exact rfl;exact rfl;omega)|(apply Ok1.geq_f;exact rfl;exact rfl;omega)))|(apply R.isCall;(apply R.pure;exact rfl;(apply Ok1.lenS;(iterate 3 exact rfl))))|(apply R.pure;exact rfl;first|(apply Ok1.load;exact rfl;first|(apply Ld.own1;exact rfl;exact rfl;(focus (repeat' first|exact At.head|apply At.tail);done);exact hcell)|(apply Ld.own1;exact rfl;exact rfl;exact At.head;exact hf0)|(apply Ld.own1;exact rfl;exact rfl;exact At.head;exact hl4))|(apply Ok1.move;exact rfl)|(apply Ok1.fieldAddr;(iterate 5 exact rfl))|(apply Ok1.assign;exact rfl)|(apply Ok1.indexAddrA;(iterate 5 exact rfl);omega;omega)|(apply Ok1.nilCheck;exact rfl)))|apply R.nil|(apply T.is;first|(apply T.drawC (id:=21) [0,1,3] (by decide);((apply A.tk 0;exact rfl;kernel_rfl;(apply Ok1.move;exact rfl))<;>(apply A.tk 1;exact rfl;kernel_rfl;(apply Ok1.move;exact rfl))<;>(apply A.tk 2;exact rfl;kernel_rfl;(apply Ok1.nilCheck;exact rfl))<;>(apply A.tk 3;exact rfl;kernel_rfl;(apply Ok1.fieldAddr;(iterate 5 exact rfl)))<;>(apply A.tk 4;exact rfl;kernel_rfl;(apply Ok1.indexAddrA;(iterate 5 exact rfl);omega;omega))<;>(apply A.tk 5;exact rfl;kernel_rfl;(apply Ok1.load;exact rfl;(apply Ld.own1;exact rfl;exact rfl;(focus (repeat' first|exact At.head|apply At.tail);done);exact hcell)))<;>(apply A.tk 6;exact rfl;kernel_rfl;(apply Ok1.move;exact rfl))<;>(apply A.tk 7;exact rfl;kernel_rfl;(apply Ok1.indexAddr;(iterate 5 exact rfl);omega;omega))<;>(apply A.tk 8;exact rfl;kernel_rfl;(apply Ok1.load;exact rfl;(apply Ld.own1;exact rfl;exact rfl;(focus (repeat' first|exact At.head|apply At.tail);done);exact hcy)))<;>(apply A.tk 9;exact rfl;kernel_rfl;(apply Ok1.move;exact rfl))<;>(apply A.tk 10;exact rfl;kernel_rfl;(apply Ok1.fieldAddr;(iterate 5 exact rfl)))<;>(apply A.tk 11;exact rfl;kernel_rfl;(apply Ok1.indexAddrA;(iterate 5 exact rfl);omega;omega))<;>(apply A.tk 12;exact rfl;kernel_rfl;(apply Ok1.load;exact rfl;(apply Ld.own1;exact rfl;exact rfl;exact At.head;exact hl4)))<;>(apply A.tk 13;exact rfl;kernel_rfl;(apply Ok1.move;exact rfl))<;>(apply A.tk 14;exact rfl;kernel_rfl;(apply Ok1.indexAddrP;(iterate 4 exact rfl);exact hpe;exact rfl;omega;omega))<;>(apply A.tk 15;exact rfl;kernel_rfl;(apply Ok1.load;exact rfl;(apply Ld.row0 H;exact rfl;exact hS;(iterate 3 exact rfl))))<;>((apply A.tk 16;exact rfl;kernel_rfl;(apply Ok1.neq_f;exact rfl;exact rfl;omega)))<;>(apply A.done;kernel_rfl)))|apply T.seq|apply T.region|apply T.block|apply T.skip|(apply T.cond_t;exact rfl)|(apply T.cond_f;exact rfl)))
                    refine ⟨(k+1,ov),⟨by simp only;omega,dM_step hat hzz (by rw [hy,hzy]) hM,by simp only [hstep];exact hov⟩,by simp only;omega,?_,?_⟩
                    · simp only [hstep]
                      exact ⟨rfl,rfl,rfl,rfl,rfl,rfl,rfl,rfl,trivial⟩
                    · simp only [hstep,Lg.L,hgov,blkL,List.cons_append,List.nil_append]
                      (focus (repeat' first|exact Ext.one _ _|exact Ext.here _ _|exact Ext.all _|apply Keep.cons|apply Keep.app|apply Keep.last);done)
                  · have h3:∃ x∈zz gs d,JE x=3:=⟨_,hzm,by rw [hJE];exact dM_bad hat hzz hy hzy⟩
                    rw [hE,if_pos h3,if_neg (show ¬ (3:Int)=0 by decide),if_neg (show ¬ (3:Int)=0 by decide)]
                    repeat' (first|(apply R.is1;first|(apply R.isBin;(apply R.pure;exact rfl;first|(apply Ok1.add64;exact rfl;exact rfl;omega;omega)|(apply Ok1.lss_t;exact rfl;exact rfl;omega)|(apply Ok1.geq_f;exact rfl;exact rfl;omega)))|(apply R.isCall;(apply R.pure;exact rfl;(apply Ok1.lenS;(iterate 3 exact rfl))))|(apply R.pure;exact rfl;first|(apply Ok1.load;exact rfl;first|(apply Ld.own1;exact rfl;exact rfl;(focus (repeat' first|exact At.head|apply At.tail);done);exact hcell)|(apply Ld.own1;exact rfl;exact rfl;exact At.head;exact hf0)|(apply Ld.own1;exact rfl;exact rfl;exact At.head;exact hl4))|(apply Ok1.move;exact rfl)|(apply Ok1.fieldAddr;(iterate 5 exact rfl))|(apply Ok1.assign;exact rfl)|(apply Ok1.indexAddrA;(iterate 5 exact rfl);omega;omega)|(apply Ok1.nilCheck;exact rfl)))|apply R.nil|(apply T.is;first|(apply T.drawC (id:=21) [0,1,3] (by decide);((apply A.tk 0;exact rfl;kernel_rfl;(apply Ok1.move;exact rfl))<;>(apply A.tk 1;exact rfl;kernel_rfl;(apply Ok1.move;exact rfl))<;>(apply A.tk 2;exact rfl;kernel_rfl;(apply Ok1.nilCheck;exact rfl))<;>(apply A.tk 3;exact rfl;kernel_rfl;(apply Ok1.fieldAddr;(iterate 5 exact rfl)))<;>(apply A.tk 4;exact rfl;kernel_rfl;(apply Ok1.indexAddrA;(iterate 5 exact rfl);omega;omega))<;>(apply A.tk 5;exact rfl;kernel_rfl;(apply Ok1.load;exact rfl;(apply Ld.own1;exact rfl;exact rfl;(focus (repeat' first|exact At.head|apply At.tail);done);exact hcell)))<;>(apply A.tk 6;exact rfl;kernel_rfl;(apply Ok1.move;exact rfl))<;>(apply A.tk 7;exact rfl;kernel_rfl;(apply Ok1.indexAddr;(iterate 5 exact rfl);omega;omega))<;>(apply A.tk 8;exact rfl;kernel_rfl;(apply Ok1.load;exact rfl;(apply Ld.own1;exact rfl;exact rfl;(focus (repeat' first|exact At.head|apply At.tail);done);exact hcy)))<;>(apply A.tk 9;exact rfl;kernel_rfl;(apply Ok1.move;exact rfl))<;>(apply A.tk 10;exact rfl;kernel_rfl;(apply Ok1.fieldAddr;(iterate 5 exact rfl)))<;>(apply A.tk 11;exact rfl;kernel_rfl;(apply Ok1.indexAddrA;(iterate 5 exact rfl);omega;omega))<;>(apply A.tk 12;exact rfl;kernel_rfl;(apply Ok1.load;exact rfl;(apply Ld.own1;exact rfl;exact rfl;exact At.head;exact hl4)))<;>(apply A.tk 13;exact rfl;kernel_rfl;(apply Ok1.move;exact rfl))<;>(apply A.tk 14;exact rfl;kernel_rfl;(apply Ok1.indexAddrP;(iterate 4 exact rfl);exact hpe;exact rfl;omega;omega))<;>(apply A.tk 15;exact rfl;kernel_rfl;(apply Ok1.load;exact rfl;(apply Ld.row0 H;exact rfl;exact hS;(iterate 3 exact rfl))))<;>((apply A.tk 16;exact rfl;kernel_rfl;(apply Ok1.neq_t;exact rfl;exact rfl;omega)))<;>(apply A.done;kernel_rfl)))|apply T.seq|apply T.region|apply T.block|apply T.skip|apply T.ret|(apply T.cond_t;exact rfl)|(apply T.cond_f;exact rfl)))
                    (apply RetOk.tt;exact rfl;exact rfl)
                    refine ⟨_,?_,gs,rfl,rfl,hg,rfl⟩
                    rw [LsL_at hx1]
                    simp only [Lg.L,hgov,blkL,List.cons_append,List.nil_append]
                    (focus (repeat' first|exact Ext.one _ _|exact Ext.here _ _|apply Keep.cons|apply Keep.app|apply Keep.last|apply Ext.cons);done)
                · have happ:=dA_app hat hy
                  repeat' (first|(apply R.is1;first|(apply R.isBin;(apply R.pure;exact rfl;first|(apply Ok1.add64;exact rfl;exact rfl;omega;omega)|(apply Ok1.lss_t;exact rfl;exact rfl;omega)|(apply Ok1.geq_t;exact rfl;exact rfl;omega)))|(apply R.isCall;first|(apply R.append1;(iterate 12 exact rfl);(focus (repeat' first|exact OwnAt.base hov|apply OwnAt.tail|apply OwnAt.right);done);exact At.head;exact rfl;exact rfl;omega;omega;intro b2 j2 k2 hj2)|(apply R.pure;exact rfl;(apply Ok1.lenS;(iterate 3 exact rfl))))|(apply R.pure;exact rfl;first|(apply Ok1.load;exact rfl;first|(apply Ld.own1;exact rfl;exact rfl;(focus (repeat' first|exact At.head|apply At.tail|apply At.right);done);exact hcell)|(apply Ld.own1;exact rfl;exact rfl;(focus (repeat' first|exact At.head|apply At.tail|apply At.right);done);exact hf0)|(apply Ld.own1;exact rfl;exact rfl;(focus (repeat' first|exact At.head|apply At.tail|apply At.right);done);exact hl4)|(apply Ld.row0 H;exact rfl;exact hS;(iterate 3 exact rfl)))|(apply Ok1.indexAddrP;(iterate 4 exact rfl);exact hpe;exact rfl;omega;omega)|(apply Ok1.move;exact rfl)|(apply Ok1.fieldAddr;(iterate 5 exact rfl))|(apply Ok1.assign;exact rfl)|(apply Ok1.indexAddrA;(iterate 5 exact rfl);omega;omega)|(apply Ok1.nilCheck;exact rfl))|(apply R.buildSlice;(iterate 12 exact rfl);intro))|apply R.nil|(apply T.is;first|apply T.seq|apply T.region|apply T.block|apply T.skip|(apply T.cond_t;exact rfl)))
                  refine ⟨(k+1,some (b2,j2,k2)),⟨by simp only;omega,dM_app hat hM,?_⟩,by simp only;omega,?_,?_⟩
                  · have:=hov.some (b:=b2) (ys:=[Value.int .i64 y]) (m:=1) rfl hj2
                    simp only [happ,iis_app,List.length_append,List.length_cons,List.length_nil]
                    exact this
                  · simp only [happ,List.length_append,List.length_cons,List.length_nil]
                    refine ⟨rfl,rfl,rfl,?_,rfl,rfl,rfl,rfl,trivial⟩
                    refine congrArg (fun z=>some (Value.int .i64 z)) ?_
                    omega
                  · simp only [happ,iis_app]
                    (focus (repeat' first|exact Keep.nil _|exact Ext.one _ _|exact Ext.here _ _|apply Keep.cons|apply Keep.app|apply Ext.cons);done)
              · have hke:k=x.2.xs.length:=by omega
                subst hke
                have hje:=dM_all hM
                have htw:=fun w1 h1=>dtwice_ok (ovp ov) (dA g.xs x.2.xs f x.2.xs.length).length (ovc ov (dA g.xs x.2.xs f x.2.xs.length).length) (dA g.xs x.2.xs f x.2.xs.length) rfl (by omega) w1 h1
                simp only [slV_eq hov]
                by_cases hnd:(dA g.xs x.2.xs f x.2.xs.length).Nodup
                · rw [decide_eq_false (fun h=>h hnd)] at htw
                  rw [if_neg (fun h=>h hnd)] at hje
                  have hlg3:lgs (gs2.set i ⟨ov,dA g.xs x.2.xs f x.2.xs.length⟩)=((zz gs d).take (i+1)).map JA++List.replicate (4 - (i+1)) []:=by
                    rw [lgs,List.map_set,← lgs,hlg2,show 4 - i=(4 - (i+1))+1 by omega,set_mid (by rw [List.length_map,htl]),List.take_add_one,hz]
                    simp [hJA]
                  have hok3:∀ q∈gs2.set i ⟨ov,dA g.xs x.2.xs f x.2.xs.length⟩,q.ok:=fun q hq=>by
                    rcases List.mem_or_eq_of_mem_set hq with h1|rfl
                    · exact hg2 q h1
                    · exact hov
                  have hne3:jE g.xs x.2.xs f≠3→∀ x∈(zz gs d).take (i+1),JE x≠3:=by
                    intro hne y hy
                    rw [List.take_add_one,hz,List.mem_append] at hy
                    rcases hy with hy|hy
                    · exact hn3 y hy
                    · simp only [Option.toList_some,List.mem_singleton] at hy
                      rw [hy,hJE]
                      exact hne
                  by_cases hf:256 < (dA g.xs x.2.xs f x.2.xs.length).length
                  · rw [if_pos hf] at hje
                    rw [hje] at hfn
                    repeat' (first|(apply R.is1;first|(apply R.isBin;(apply R.pure;exact rfl;first|(apply Ok1.add64;exact rfl;exact rfl;omega;omega)|(apply Ok1.lss_f;exact rfl;exact rfl;omega)|(apply Ok1.gtr_t;exact rfl;exact rfl;omega)))|(apply R.isCall;first|(apply R.callV (vs:=[.slice (ovp ov) (dA g.xs x.2.xs f x.2.xs.length).length (ovc ov (dA g.xs x.2.xs f x.2.xs.length).length)]);(iterate 3 exact rfl);intro w1 hw1;exact htw w1 (irdown hov hw1 (Ext.mem (by (focus (repeat' first|exact Ext.all _|apply Ext.cons|apply Ext.app);done)))))|(apply R.pure;exact rfl;(apply Ok1.lenS;(iterate 3 exact rfl))))|(apply R.pure;exact rfl;first|(apply Ok1.load;exact rfl;apply Ld.own1;exact rfl;exact rfl;exact At.head;exact hl4)|(apply Ok1.move;exact rfl)|(apply Ok1.fieldAddr;(iterate 5 exact rfl))|(apply Ok1.assign;exact rfl)|(apply Ok1.indexAddrA;(iterate 5 exact rfl);omega;omega)))|(apply R.is0;(apply R.store;(iterate 6 exact rfl);(focus (repeat' first|exact Upd.head|apply Upd.tail);done);have h9:=hset ⟨ov,dA g.xs x.2.xs f x.2.xs.length⟩;rw [Lg.v_eq (g:=⟨ov,dA g.xs x.2.xs f x.2.xs.length⟩) hov] at h9;exact h9))|apply R.nil|(apply T.is;first|apply T.seq|apply T.region|apply T.skip|apply T.exit|(apply T.cond_t;exact rfl)|(apply T.cond_f;exact rfl)))
                    refine ⟨(i+1,gs2.set i ⟨ov,dA g.xs x.2.xs f x.2.xs.length⟩),⟨by simp only;omega,by simp only [List.length_set];exact hg2l,hok3,hlg3,hne3 (by rw [hje];decide)⟩,by simp only;omega,?_,?_⟩
                    · simp only [hsn,hfn]
                      exact ⟨rfl,rfl,rfl,rfl,by simp;rfl,rfl,trivial⟩
                    · simp only
                      rw [LsL_set _ (by rw [hg2l];omega),LsL_at hx1,LsL_at hx3]
                      simp only [Lg.L,List.append_assoc]
                      (focus (repeat' first|exact Ext.one _ _|exact Ext.here _ _|exact Ext.all _|apply Keep.cons|apply Keep.app|apply Keep.last|apply Ext.app);done)
                  · rw [if_neg hf] at hje
                    rw [hje] at hfn
                    repeat' (first|(apply R.is1;first|(apply R.isBin;(apply R.pure;exact rfl;first|(apply Ok1.add64;exact rfl;exact rfl;omega;omega)|(apply Ok1.lss_f;exact rfl;exact rfl;omega)|(apply Ok1.gtr_f;exact rfl;exact rfl;omega)))|(apply R.isCall;first|(apply R.callV (vs:=[.slice (ovp ov) (dA g.xs x.2.xs f x.2.xs.length).length (ovc ov (dA g.xs x.2.xs f x.2.xs.length).length)]);(iterate 3 exact rfl);intro w1 hw1;exact htw w1 (irdown hov hw1 (Ext.mem (by (focus (repeat' first|exact Ext.all _|apply Ext.cons|apply Ext.app);done)))))|(apply R.pure;exact rfl;(apply Ok1.lenS;(iterate 3 exact rfl))))|(apply R.pure;exact rfl;first|(apply Ok1.load;exact rfl;apply Ld.own1;exact rfl;exact rfl;exact At.head;exact hl4)|(apply Ok1.move;exact rfl)|(apply Ok1.fieldAddr;(iterate 5 exact rfl))|(apply Ok1.assign;exact rfl)|(apply Ok1.indexAddrA;(iterate 5 exact rfl);omega;omega)))|(apply R.is0;(apply R.store;(iterate 6 exact rfl);(focus (repeat' first|exact Upd.head|apply Upd.tail);done);have h9:=hset ⟨ov,dA g.xs x.2.xs f x.2.xs.length⟩;rw [Lg.v_eq (g:=⟨ov,dA g.xs x.2.xs f x.2.xs.length⟩) hov] at h9;exact h9))|apply R.nil|(apply T.is;first|apply T.seq|apply T.region|apply T.skip|apply T.exit|(apply T.cond_f;exact rfl)))
                    refine ⟨(i+1,gs2.set i ⟨ov,dA g.xs x.2.xs f x.2.xs.length⟩),⟨by simp only;omega,by simp only [List.length_set];exact hg2l,hok3,hlg3,hne3 (by rw [hje];decide)⟩,by simp only;omega,?_,?_⟩
                    · simp only [hsn,hfn]
                      exact ⟨rfl,rfl,rfl,rfl,by simp;rfl,rfl,trivial⟩
                    · simp only
                      rw [LsL_set _ (by rw [hg2l];omega),LsL_at hx1,LsL_at hx3]
                      simp only [Lg.L,List.append_assoc]
                      (focus (repeat' first|exact Ext.one _ _|exact Ext.here _ _|exact Ext.all _|apply Keep.cons|apply Keep.app|apply Keep.last|apply Ext.app);done)
                · rw [decide_eq_true hnd] at htw
                  rw [if_pos hnd] at hje
                  have h3:∃ x∈zz gs d,JE x=3:=⟨_,hzm,by rw [hJE];exact hje⟩
                  rw [hE,if_pos h3,if_neg (show ¬ (3:Int)=0 by decide),if_neg (show ¬ (3:Int)=0 by decide)]
                  repeat' (first|(apply R.is1;first|(apply R.isBin;(apply R.pure;exact rfl;(apply Ok1.lss_f;exact rfl;exact rfl;omega)))|(apply R.isCall;first|(apply R.callV (vs:=[.slice (ovp ov) (dA g.xs x.2.xs f x.2.xs.length).length (ovc ov (dA g.xs x.2.xs f x.2.xs.length).length)]);(iterate 3 exact rfl);intro w1 hw1;exact htw w1 (irdown hov hw1 (Ext.mem (by (focus (repeat' first|exact Ext.all _|apply Ext.cons|apply Ext.app);done)))))|(apply R.pure;exact rfl;(apply Ok1.lenS;(iterate 3 exact rfl))))|(apply R.pure;exact rfl;first|(apply Ok1.load;exact rfl;apply Ld.own1;exact rfl;exact rfl;exact At.head;exact hl4)|(apply Ok1.move;exact rfl)|(apply Ok1.fieldAddr;(iterate 5 exact rfl))|(apply Ok1.assign;exact rfl)|(apply Ok1.indexAddrA;(iterate 5 exact rfl);omega;omega)))|apply R.nil|(apply T.is;first|apply T.seq|apply T.region|apply T.exit|apply T.ret|(apply T.cond_t;exact rfl)|(apply T.cond_f;exact rfl)))
                  (apply RetOk.tt;exact rfl;exact rfl)
                  refine ⟨_,?_,gs,rfl,rfl,hg,rfl⟩
                  rw [LsL_at hx1]
                  (focus (repeat' first|exact Ext.one _ _|exact Ext.here _ _|apply Keep.cons|apply Keep.app|apply Keep.last|apply Ext.cons|apply Ext.app);done)
          · have him:i=4:=by omega
            subst him
            have htk:(zz gs d).take 4=zz gs d:=List.take_of_length_le (by omega)
            rw [htk] at hlg2 hn3 ⊢
            rw [if_neg (fun ⟨x,hx,he⟩=>hn3 x hx he)] at hE
            rw [Nat.sub_self,List.replicate_zero,List.append_nil] at hlg2
            by_cases h6:∃ x∈zz gs d,JE x=6
            · have hfb:fullB (zz gs d)=true:=by
                obtain ⟨x,hx,he⟩:=h6
                exact List.any_eq_true.2 ⟨x,hx,decide_eq_true he⟩
              rw [if_pos h6] at hE
              rw [hfb,hE,if_pos rfl,if_neg (show ¬ (6:Int)=0 by decide),if_neg (show ¬ (6:Int)=0 by decide)]
              repeat' (first|(apply R.is1;first|(apply R.isBin;(apply R.pure;exact rfl;first|(apply Ok1.lss_f;exact rfl;exact rfl;omega)|(apply Ok1.neq_t;exact rfl;exact rfl;omega)))|(apply R.pure;exact rfl;first|(apply Ok1.move;exact rfl)|(apply Ok1.assign;exact rfl)))|apply R.nil|(apply T.is;first|apply T.seq|apply T.region|apply T.exit|apply T.ret|(apply T.cond_t;exact rfl)|(apply T.cond_f;exact rfl)))
              (apply RetOk.tt;exact rfl;exact rfl)
              exact ⟨_,by (focus (repeat' first|exact Ext.one _ _|exact Ext.here _ _|apply Keep.cons|apply Keep.last|apply Ext.cons);done),gs,rfl,rfl,hg,rfl⟩
            · have hfb:fullB (zz gs d)=false:=by
                cases h:fullB (zz gs d) with
                | false=>rfl
                | true =>
                  obtain ⟨x,hx,he⟩:=List.any_eq_true.1 h
                  exact absurd ⟨x,hx,of_decide_eq_true he⟩ h6
              have h0:∀ x∈zz gs d,JE x=0:=fun x hx=>by
                rcases je_cases x with h|h|h
                · exact h
                · exact absurd h (hn3 x hx)
                · exact absurd ⟨x,hx,h⟩ h6
              have hJJ:(zz gs d).map JA=(zz gs d).map JL:=List.map_congr_left fun x hx=>JA_eq (h0 x hx)
              have hss:sumA (zz gs d)=sumN (zz gs d):=by
                unfold sumA sumN
                rw [List.map_congr_left (g:=fun x=>((JL x).length:Int) - x.1.length) fun x hx=>by rw [JA_eq (h0 x hx)]]
              rw [hJJ] at hlg2
              have hgk:GOk gs2:=⟨hg2l,hg2,fun q hq=>by
                have h1:q.xs∈lgs gs2:=List.mem_map.2 ⟨q,hq,rfl⟩
                rw [hlg2] at h1
                obtain ⟨z,_,hz⟩:=List.mem_map.1 h1
                rw [← hz]
                exact jl_len z⟩
              have hv1:(setV gs2).length=4:=by rw [setV,List.length_map,hg2l]
              have hv0:(setV gs).length=4:=by rw [setV,List.length_map,hg.len]
              have hone:(setV gs2).all Value.oneCell'=true:=by
                rw [List.all_eq_true]
                intro v hv
                obtain ⟨q,hq,rfl⟩:=List.mem_map.1 hv
                rw [Lg.v_eq (hg2 q hq)]
                rfl
              rw [if_neg h6] at hE
              rw [hfb,hE,hss,if_neg (show ¬ false=true by decide),if_pos rfl,if_pos rfl]
              repeat' (first|(apply R.is1;first|(apply R.isBin;(apply R.pure;exact rfl;first|(apply Ok1.lss_f;exact rfl;exact rfl;omega)|(apply Ok1.neq_f;exact rfl;exact rfl;omega)))|(apply R.pure;exact rfl;first|(apply Ok1.load;exact rfl;apply Ld.ownk;exact rfl;exact rfl;(focus (repeat' first|exact At.head|apply At.tail);done);exact setV_all hg2l)|(apply Ok1.move;exact rfl)|(apply Ok1.assign;exact rfl)|(apply Ok1.nilCheck;exact rfl)))|(apply R.is0;(apply R.store;(iterate 4 exact rfl);exact hv1;exact hone;(focus (repeat' first|exact Upd.head|apply Upd.tail);done);exact setE_pre tl (by rw [hv0,hv1])))|apply R.nil|(apply T.is;first|apply T.seq|apply T.region|apply T.skip|apply T.exit|apply T.ret|(apply T.cond_f;exact rfl)))
              (apply RetOk.tt;exact rfl;exact rfl)
              exact ⟨_,by (focus (repeat' first|exact Ext.one _ _|exact Ext.all _|apply Keep.cons|apply Keep.last|apply Ext.cons|apply Ext.app);done),gs2,rfl,hlg2,hgk,rfl⟩
  · rw [decide_eq_false hok] at hchk
    have hX:appX (lgs gs) (d.map fun x=>(x.1,x.2.xs))=10:=if_neg fun h=>hok (hdr.2 h)
    have hN:appN (lgs gs) (d.map fun x=>(x.1,x.2.xs))=0:=by rw [appN,hX];rfl
    have hLL:appL (lgs gs) (d.map fun x=>(x.1,x.2.xs))=lgs gs:=by rw [appL,hX];rfl
    rw [hX,hN,hLL]
    refine enterK (tb:=tb) Tryz.func102 rfl Tryz.ntmps102 rfl ?_
    simp only [DSE]
    repeat' (first|(apply R.is1;first|(apply R.isCall;(apply R.callV (vs:=[.agg ⟨dlV d⟩]);(iterate 3 exact rfl);intro w1 hw1;exact hchk w1 hw1.chg))|(apply R.pure;exact rfl;first|(apply Ok1.load;exact rfl;apply Ld.ownk;exact rfl;exact rfl;exact At.head;exact subE_all hdl)|(apply Ok1.assign;exact rfl)|(apply Ok1.not_f;exact rfl))|(apply R.box;(iterate 3 exact rfl);intro))|apply R.nil|(apply T.is;first|apply T.seq|apply T.region|apply T.ret|(apply T.cond_t;exact rfl)))
    (apply RetOk.tt;exact rfl;exact rfl)
    exact ⟨_,by (focus (repeat' first|exact Ext.one _ _|exact Ext.all _|apply Keep.cons|apply Keep.last|apply Ext.cons);done),gs,rfl,rfl,hg,rfl⟩
theorem dprintE_ok (te:TypeId) (tl:List Value) (bs:Nat) (gs:List Lg) (hg:GOk gs) (hlo:LOk (lgs gs)) (w:World) (hs:DSRE te tl w bs gs):CallW Tryz.prog 104 [.pointer (some ⟨bs,0,none⟩),.agg ⟨tabV⟩] w fun v _=>v = .agg ⟨u8s (shaI (prI (lgs gs)))⟩:=by
  have hb:=hs.b
  have htl:tabV.length=72:=rfl
  have hle:∀ xs∈lgs gs,xs.length≤256:=fun xs hx=>by obtain ⟨g,hgm,rfl⟩:=List.mem_map.1 hx;exact hg.le g hgm
  have hlen:(lgs gs).length=4:=by rw [lgs,List.length_map,hg.len]
  have hsum:=fun b p cap (h:b.length≤999999000) (hb:Byt b) w1 hp=>sum_ok p b.length cap b rfl h hb w1 hp
  generalize tabV=tv at *
  refine enterW (tb:=tb) Tryz.func104 rfl Tryz.ntmps104 rfl ?_
  repeat' (first|(apply R.is1;first|(apply R.pure;exact rfl;(apply Ok1.assign;exact rfl))|(apply R.box;(iterate 3 exact rfl);intro)|(apply R.alloc;(iterate 3 exact rfl);intro))|apply R.nil|(apply T.is;first|apply T.seq|apply T.region|apply T.block))
  rename_i b3 b4
  apply T.loopK (α:=Nat × Ov) (I:=fun y=>y.1≤4∧OvOk 1 y.2 (prI ((lgs gs).take y.1)).length (u8s (prI ((lgs gs).take y.1)))) (σi:=fun y=>[(0,.pointer (some ⟨bs,0,none⟩)),(3,.pointer (some ⟨b3,0,none⟩)),(4,.pointer (some ⟨b4,0,none⟩)),(5,slV y.2 (prI ((lgs gs).take y.1)).length),(6,.int .i64 y.1)])
    (Li:=fun y=>(b4,.cells ⟨List.replicate 32 (.int .u8 0)⟩ 98 (0,0))::(b3,.cells ⟨tv⟩ 56 (0,0))::blkL 5 y.2 (u8s (prI ((lgs gs).take y.1)))) (μ:=fun y=>4 - y.1) (i0:=(0,none))
  · exact ⟨Nat.zero_le _,rfl,rfl⟩
  · exact ⟨rfl,rfl,rfl,rfl,rfl,trivial⟩
  · (focus (repeat' first|exact Keep.nil _|exact Ext.one _ _|apply Keep.cons);done)
  · rintro ⟨i,ov⟩ ⟨hi,hov⟩
    simp only at hi hov ⊢
    have hpl:=pr_len (ls:=(lgs gs).take i) fun xs hx=>hle xs (List.mem_of_mem_take hx)
    have htk:((lgs gs).take i).length≤4:=by rw [List.length_take,hlen];omega
    rcases Nat.lt_or_ge i 4 with hlt|hge
    · obtain ⟨g,hx⟩:∃ g,gs[i]? = some g:=⟨_,List.getElem?_eq_getElem (by rw [hg.len];omega)⟩
      have hm:=List.mem_of_getElem? hx
      have hcell:=setV_getE tl hx (hg.ok g hm)
      have hgl:=hg.le g hm
      have hrd:=hs.rd g hm
      have hxl:(lgs gs)[i]? = some g.xs:=by rw [lgs,List.getElem?_map,hx];rfl
      have hsn:=pr_snoc hxl
      have hlb:lB g.xs=pB (g.xs.length:Int)++g.xs.flatMap pB:=rfl
      rw [hlb] at hsn
      generalize prI ((lgs gs).take i)=o0 at *
      repeat' (first|(apply R.is1;first|(apply R.isBin;(apply R.pure;exact rfl;(apply Ok1.lss_t;exact rfl;exact rfl;omega)))|(apply R.pure;exact rfl;first|(apply Ok1.move;exact rfl)|(apply Ok1.assign;exact rfl)))|apply R.nil|(apply T.is;first|(apply T.drawC (id:=5) [] (by decide);((apply A.tk 0;exact rfl;kernel_rfl;(apply Ok1.move;exact rfl))<;>(apply A.tk 1;exact rfl;kernel_rfl;(apply Ok1.move;exact rfl))<;>(apply A.tk 2;exact rfl;kernel_rfl;(apply Ok1.move;exact rfl))<;>(apply A.tk 3;exact rfl;kernel_rfl;(apply Ok1.nilCheck;exact rfl))<;>(apply A.tk 4;exact rfl;kernel_rfl;(apply Ok1.fieldAddr;(iterate 5 exact rfl)))<;>(apply A.tk 5;exact rfl;kernel_rfl;(apply Ok1.indexAddrA;(iterate 5 exact rfl);omega;omega))<;>(apply A.tk 6;exact rfl;kernel_rfl;(apply Ok1.load;exact rfl;apply Ld.blk1;exact rfl;exact rfl;exact hb;exact List.not_mem_nil;exact hcell))<;>(apply A.tk 7;exact rfl;kernel_rfl;(apply Ok1.lenS;(iterate 3 exact rfl)))<;>(apply A.tk 8;exact rfl;kernel_rfl;(apply Ok1.quo64;exact rfl;exact rfl;omega;omega;omega))<;>(apply A.tk 9;exact rfl;kernel_rfl;(apply Ok1.convU8;(iterate 5 exact rfl);omega;omega))<;>(apply A.tk 10;exact rfl;kernel_rfl;(apply Ok1.move;exact rfl))<;>(apply A.tk 11;exact rfl;kernel_rfl;(apply Ok1.move;exact rfl))<;>(apply A.tk 12;exact rfl;kernel_rfl;(apply Ok1.nilCheck;exact rfl))<;>(apply A.tk 13;exact rfl;kernel_rfl;(apply Ok1.fieldAddr;(iterate 5 exact rfl)))<;>(apply A.tk 14;exact rfl;kernel_rfl;(apply Ok1.indexAddrA;(iterate 5 exact rfl);omega;omega))<;>(apply A.tk 15;exact rfl;kernel_rfl;(apply Ok1.load;exact rfl;apply Ld.blk1;exact rfl;exact rfl;exact hb;exact List.not_mem_nil;exact hcell))<;>(apply A.tk 16;exact rfl;kernel_rfl;(apply Ok1.lenS;(iterate 3 exact rfl)))<;>(apply A.tk 17;exact rfl;kernel_rfl;(apply Ok1.remN;exact rfl;exact rfl;omega;omega))<;>(apply A.tk 18;exact rfl;kernel_rfl;(apply Ok1.convU8;(iterate 5 exact rfl);omega;omega))<;>(apply A.one 19;kernel_rfl;exact rfl;(((apply R.buildSlice;(iterate 12 exact rfl);intro)));apply R.nil;refine ⟨?_,?_⟩;(focus ((repeat' (exact trivial)))))<;>(apply A.one 20;kernel_rfl;exact rfl;(((apply R.append1;(iterate 12 exact rfl);(focus (repeat' first|exact OwnAt.base hov|apply OwnAt.tail);done);exact At.head;exact rfl;exact rfl;omega;omega;intro b2 j2 k2 hj2)));apply R.nil;refine ⟨?_,?_⟩;(focus ((repeat' (exact trivial)))))<;>(apply A.tk 21;exact rfl;kernel_rfl;(apply Ok1.assign;exact rfl))<;>(apply A.done;kernel_rfl)))|apply T.seq|apply T.region|apply T.block|apply T.skip|(apply T.cond_t;exact rfl)))
      have hov1:=hov.some (b:=b2) (ys:=u8s (pB (g.xs.length:Int))) (m:=2) rfl (by exact hj2)
      have hp1:u8s (pB (g.xs.length:Int))=[.int .u8 (g.xs.length / 256),.int .u8 (g.xs.length % 256)]:=by rw [pB_small (by omega) (by omega)];rfl
      rw [← hp1]
      have hoo:∀ k,o0++(pB (g.xs.length:Int)++(g.xs.take k).flatMap pB)=(o0++pB (g.xs.length:Int))++(g.xs.take k).flatMap pB:=fun k=>(List.append_assoc _ _ _).symm
      have hol:(o0++pB (g.xs.length:Int)).length=o0.length+2:=by rw [List.length_append];rfl
      have hou:u8s (o0++pB (g.xs.length:Int))=u8s o0++u8s (pB (g.xs.length:Int)):=u8s_app _ _
      rw [← hou] at hov1
      rw [← hou]
      rw [← hol] at hov1
      rw [← List.append_assoc] at hsn
      generalize o0++pB (g.xs.length:Int)=o1 at *
      apply T.loopK (α:=Nat × Ov) (I:=fun y=>y.1≤g.xs.length∧OvOk 1 y.2 (o1++(g.xs.take y.1).flatMap pB).length (u8s (o1++(g.xs.take y.1).flatMap pB))) (σi:=fun y=>[(0,.pointer (some ⟨bs,0,none⟩)),(3,.pointer (some ⟨b3,0,none⟩)),(4,.pointer (some ⟨b4,0,none⟩)),(5,slV y.2 (o1++(g.xs.take y.1).flatMap pB).length),(6,.int .i64 i),(7,.int .i64 y.1)])
        (Li:=fun y=>(b4,.cells ⟨List.replicate 32 (.int .u8 0)⟩ 98 (0,0))::(b3,.cells ⟨tv⟩ 56 (0,0))::blkL 5 y.2 (u8s (o1++(g.xs.take y.1).flatMap pB))) (μ:=fun y=>g.xs.length - y.1) (i0:=(0,some (b2,j2,k2)))
      · exact ⟨Nat.zero_le _,by simpa using hov1⟩
      · simp only [List.take_zero,List.flatMap_nil,List.append_nil,hol]
        exact ⟨rfl,rfl,rfl,rfl,rfl,rfl,trivial⟩
      · simp only [List.take_zero,List.flatMap_nil,List.append_nil]
        (focus (repeat' first|exact Keep.nil _|exact Ext.one _ _|apply Keep.cons|apply Ext.cons);done)
      · rintro ⟨k,ov3⟩ ⟨hk,hov3⟩
        simp only at hk hov3 ⊢
        have hbl:(o1++(g.xs.take k).flatMap pB).length≤3000:=by
          rw [List.length_append,fpB_len,List.length_take]
          omega
        rcases Nat.lt_or_ge k g.xs.length with hlk|hgk
        · obtain ⟨y,hy⟩:∃ y,g.xs[k]? = some y:=⟨_,List.getElem?_eq_getElem (by omega)⟩
          obtain ⟨hy1,hy2⟩:=(hlo g.xs (List.mem_of_getElem? hxl)).1 y (List.mem_of_getElem? hy)
          obtain ⟨b1,o1',hpe,H⟩:=hrd.at hy
          replace H:=H 1 iV_len
          have hps:=pB_snoc hy
          have hp2:u8s (pB y)=[.int .u8 (y / 256),.int .u8 (y % 256)]:=by rw [pB_small (by omega) (by omega)];rfl
          have hpl2:(pB y).length=2:=rfl
          repeat' (first|(apply R.is1;first|(apply R.isBin;(apply R.pure;exact rfl;first|(apply Ok1.add64;exact rfl;exact rfl;omega;omega)|(apply Ok1.lss_t;exact rfl;exact rfl;omega)))|(apply R.isCall;(apply R.pure;exact rfl;(apply Ok1.lenS;(iterate 3 exact rfl))))|(apply R.pure;exact rfl;first|(apply Ok1.load;exact rfl;(apply Ld.blk1;exact rfl;exact rfl;exact hb;exact List.not_mem_nil;exact hcell))|(apply Ok1.move;exact rfl)|(apply Ok1.fieldAddr;(iterate 5 exact rfl))|(apply Ok1.assign;exact rfl)|(apply Ok1.indexAddrA;(iterate 5 exact rfl);omega;omega)|(apply Ok1.nilCheck;exact rfl)))|apply R.nil|(apply T.is;first|(apply T.drawC (id:=9) [] (by decide);(((apply A.tk 0;exact rfl;kernel_rfl;(apply Ok1.move;exact rfl));refine A.cast (listed':=#[true,false,false,false,false,false,false,false,false,false,false,false,false,false,false,false,false,false,false,false,false,false,false,false,false,false]) (by kernel_rfl) ?_)<;>((apply A.tk 1;exact rfl;kernel_rfl;(apply Ok1.move;exact rfl));refine A.cast (listed':=#[true,true,false,false,false,false,false,false,false,false,false,false,false,false,false,false,false,false,false,false,false,false,false,false,false,false]) (by kernel_rfl) ?_)<;>((apply A.tk 2;exact rfl;kernel_rfl;(apply Ok1.move;exact rfl));refine A.cast (listed':=#[true,true,true,false,false,false,false,false,false,false,false,false,false,false,false,false,false,false,false,false,false,false,false,false,false,false]) (by kernel_rfl) ?_)<;>((apply A.tk 3;exact rfl;kernel_rfl;(apply Ok1.nilCheck;exact rfl));refine A.cast (listed':=#[true,true,true,true,false,false,false,false,false,false,false,false,false,false,false,false,false,false,false,false,false,false,false,false,false,false]) (by kernel_rfl) ?_)<;>((apply A.tk 4;exact rfl;kernel_rfl;(apply Ok1.fieldAddr;(iterate 5 exact rfl)));refine A.cast (listed':=#[true,true,true,true,true,false,false,false,false,false,false,false,false,false,false,false,false,false,false,false,false,false,false,false,false,false]) (by kernel_rfl) ?_)<;>((apply A.tk 5;exact rfl;kernel_rfl;(apply Ok1.indexAddrA;(iterate 5 exact rfl);omega;omega));refine A.cast (listed':=#[true,true,true,true,true,true,false,false,false,false,false,false,false,false,false,false,false,false,false,false,false,false,false,false,false,false]) (by kernel_rfl) ?_)<;>((apply A.tk 6;exact rfl;kernel_rfl;(apply Ok1.load;exact rfl;(apply Ld.blk1;exact rfl;exact rfl;exact hb;exact List.not_mem_nil;exact hcell)));refine A.cast (listed':=#[true,true,true,true,true,true,true,false,false,false,false,false,false,false,false,false,false,false,false,false,false,false,false,false,false,false]) (by kernel_rfl) ?_)<;>((apply A.tk 7;exact rfl;kernel_rfl;(apply Ok1.move;exact rfl));refine A.cast (listed':=#[true,true,true,true,true,true,true,true,false,false,false,false,false,false,false,false,false,false,false,false,false,false,false,false,false,false]) (by kernel_rfl) ?_)<;>((apply A.tk 8;exact rfl;kernel_rfl;(apply Ok1.indexAddrP;(iterate 4 exact rfl);exact hpe;exact rfl;omega;omega));refine A.cast (listed':=#[true,true,true,true,true,true,true,true,true,false,false,false,false,false,false,false,false,false,false,false,false,false,false,false,false,false]) (by kernel_rfl) ?_)<;>((apply A.tk 9;exact rfl;kernel_rfl;(apply Ok1.load;exact rfl;(apply Ld.row0 H;exact rfl;exact List.not_mem_nil;(iterate 3 exact rfl))));refine A.cast (listed':=#[true,true,true,true,true,true,true,true,true,true,false,false,false,false,false,false,false,false,false,false,false,false,false,false,false,false]) (by kernel_rfl) ?_)<;>((apply A.tk 10;exact rfl;kernel_rfl;(apply Ok1.quo64;exact rfl;exact rfl;omega;omega;omega));refine A.cast (listed':=#[true,true,true,true,true,true,true,true,true,true,true,false,false,false,false,false,false,false,false,false,false,false,false,false,false,false]) (by kernel_rfl) ?_)<;>((apply A.tk 11;exact rfl;kernel_rfl;(apply Ok1.convU8;(iterate 5 exact rfl);omega;omega));refine A.cast (listed':=#[true,true,true,true,true,true,true,true,true,true,true,true,false,false,false,false,false,false,false,false,false,false,false,false,false,false]) (by kernel_rfl) ?_)<;>((apply A.tk 12;exact rfl;kernel_rfl;(apply Ok1.move;exact rfl));refine A.cast (listed':=#[true,true,true,true,true,true,true,true,true,true,true,true,true,false,false,false,false,false,false,false,false,false,false,false,false,false]) (by kernel_rfl) ?_)<;>((apply A.tk 13;exact rfl;kernel_rfl;(apply Ok1.move;exact rfl));refine A.cast (listed':=#[true,true,true,true,true,true,true,true,true,true,true,true,true,true,false,false,false,false,false,false,false,false,false,false,false,false]) (by kernel_rfl) ?_)<;>((apply A.tk 14;exact rfl;kernel_rfl;(apply Ok1.nilCheck;exact rfl));refine A.cast (listed':=#[true,true,true,true,true,true,true,true,true,true,true,true,true,true,true,false,false,false,false,false,false,false,false,false,false,false]) (by kernel_rfl) ?_)<;>((apply A.tk 15;exact rfl;kernel_rfl;(apply Ok1.fieldAddr;(iterate 5 exact rfl)));refine A.cast (listed':=#[true,true,true,true,true,true,true,true,true,true,true,true,true,true,true,true,false,false,false,false,false,false,false,false,false,false]) (by kernel_rfl) ?_)<;>((apply A.tk 16;exact rfl;kernel_rfl;(apply Ok1.indexAddrA;(iterate 5 exact rfl);omega;omega));refine A.cast (listed':=#[true,true,true,true,true,true,true,true,true,true,true,true,true,true,true,true,true,false,false,false,false,false,false,false,false,false]) (by kernel_rfl) ?_)<;>((apply A.tk 17;exact rfl;kernel_rfl;(apply Ok1.load;exact rfl;(apply Ld.blk1;exact rfl;exact rfl;exact hb;exact List.not_mem_nil;exact hcell)));refine A.cast (listed':=#[true,true,true,true,true,true,true,true,true,true,true,true,true,true,true,true,true,true,false,false,false,false,false,false,false,false]) (by kernel_rfl) ?_)<;>((apply A.tk 18;exact rfl;kernel_rfl;(apply Ok1.move;exact rfl));refine A.cast (listed':=#[true,true,true,true,true,true,true,true,true,true,true,true,true,true,true,true,true,true,true,false,false,false,false,false,false,false]) (by kernel_rfl) ?_)<;>((apply A.tk 19;exact rfl;kernel_rfl;(apply Ok1.indexAddrP;(iterate 4 exact rfl);exact hpe;exact rfl;omega;omega));refine A.cast (listed':=#[true,true,true,true,true,true,true,true,true,true,true,true,true,true,true,true,true,true,true,true,false,false,false,false,false,false]) (by kernel_rfl) ?_)<;>((apply A.tk 20;exact rfl;kernel_rfl;(apply Ok1.load;exact rfl;(apply Ld.row0 H;exact rfl;exact List.not_mem_nil;(iterate 3 exact rfl))));refine A.cast (listed':=#[true,true,true,true,true,true,true,true,true,true,true,true,true,true,true,true,true,true,true,true,true,false,false,false,false,false]) (by kernel_rfl) ?_)<;>((apply A.tk 21;exact rfl;kernel_rfl;(apply Ok1.remN;exact rfl;exact rfl;omega;omega));refine A.cast (listed':=#[true,true,true,true,true,true,true,true,true,true,true,true,true,true,true,true,true,true,true,true,true,true,false,false,false,false]) (by kernel_rfl) ?_)<;>((apply A.tk 22;exact rfl;kernel_rfl;(apply Ok1.convU8;(iterate 5 exact rfl);omega;omega));refine A.cast (listed':=#[true,true,true,true,true,true,true,true,true,true,true,true,true,true,true,true,true,true,true,true,true,true,true,false,false,false]) (by kernel_rfl) ?_)<;>(apply A.one 23;kernel_rfl;exact rfl;(((apply R.buildSlice;(iterate 12 exact rfl);intro)));apply R.nil;refine ⟨?_,?_⟩;(focus ((repeat' (exact trivial)))))<;>(apply A.one 24;kernel_rfl;exact rfl;(((apply R.append1;(iterate 12 exact rfl);(focus (repeat' first|exact OwnAt.base hov3|apply OwnAt.tail);done);exact At.head;exact rfl;exact rfl;omega;omega;intro b2 j2 k2 hj2)));apply R.nil;refine ⟨?_,?_⟩;(focus ((repeat' (exact trivial)))))<;>((apply A.tk 25;exact rfl;kernel_rfl;(apply Ok1.assign;exact rfl));refine A.cast (listed':=#[true,true,true,true,true,true,true,true,true,true,true,true,true,true,true,true,true,true,true,true,true,true,true,true,true,true]) (by kernel_rfl) ?_)<;>(apply A.done;kernel_rfl)))|apply T.seq|apply T.region|apply T.block|apply T.skip|(apply T.cond_t;exact rfl)))
          have hov4:=hov3.some (b:=b2) (ys:=u8s (pB y)) (m:=2) rfl (by exact hj2)
          have e1:o1++(g.xs.take (k+1)).flatMap pB=(o1++(g.xs.take k).flatMap pB)++pB y:=by rw [hps,List.append_assoc]
          have e2:(o1++(g.xs.take (k+1)).flatMap pB).length=(o1++(g.xs.take k).flatMap pB).length+2:=(congrArg List.length e1).trans List.length_append
          refine ⟨(k+1,some (b2,j2,k2)),⟨by simp only;omega,?_⟩,by simp only;omega,?_,?_⟩
          · simp only [e2]
            rw [e1,u8s_app]
            exact hov4
          · simp only [e2]
            exact ⟨rfl,rfl,rfl,rfl,rfl,rfl,trivial⟩
          · simp only
            rw [e1,u8s_app (o1++(g.xs.take k).flatMap pB) (pB y),hp2]
            (focus (repeat' first|exact Keep.nil _|exact Ext.one _ _|apply Keep.cons|apply Ext.cons);done)
        · have hke:k=g.xs.length:=by omega
          subst hke
          rw [List.take_length,← hsn] at hov3
          rw [List.take_length,← hsn]
          repeat' (first|(apply R.is1;first|(apply R.isBin;(apply R.pure;exact rfl;first|(apply Ok1.add64;exact rfl;exact rfl;omega;omega)|(apply Ok1.lss_f;exact rfl;exact rfl;omega)))|(apply R.isCall;(apply R.pure;exact rfl;(apply Ok1.lenS;(iterate 3 exact rfl))))|(apply R.pure;exact rfl;first|(apply Ok1.load;exact rfl;apply Ld.blk1;exact rfl;exact rfl;exact hb;exact List.not_mem_nil;exact hcell)|(apply Ok1.move;exact rfl)|(apply Ok1.fieldAddr;(iterate 5 exact rfl))|(apply Ok1.assign;exact rfl)|(apply Ok1.indexAddrA;(iterate 5 exact rfl);omega;omega)|(apply Ok1.nilCheck;exact rfl)))|apply R.nil|(apply T.is;first|apply T.seq|apply T.region|apply T.exit|(apply T.cond_f;exact rfl)))
          exact ⟨(i+1,ov3),⟨by simp only;omega,hov3⟩,by simp only;omega,⟨rfl,rfl,rfl,rfl,rfl,trivial⟩,by (focus (repeat' first|exact Ext.one _ _|exact Ext.all _|apply Keep.cons|apply Keep.last);done)⟩
    · have him:i=4:=by omega
      subst him
      rw [List.take_of_length_le (by omega)] at hov hpl ⊢
      have hby:=pr_byt (lgs gs)
      have hsum2:=fun p cap w1 hp=>hsum (prI (lgs gs)) p cap (by omega) hby w1 hp
      have hls:(u8s (shaI (prI (lgs gs)))).length=32:=by rw [u8s_len,sha_len]
      have hone:=u8s_one (shaI (prI (lgs gs)))
      have hset:∀ cs:List Value,cs.length=32→setE cs 0 (u8s (shaI (prI (lgs gs))))=some (u8s (shaI (prI (lgs gs)))):=fun cs h=>setE_all (by rw [hls,h])
      have hsub:=subE_all hls
      clear hsum
      generalize shaI (prI (lgs gs))=d0 at *
      simp only [slV_eq hov]
      repeat' (first|(apply R.is1;first|(apply R.isBin;(apply R.pure;exact rfl;(apply Ok1.lss_f;exact rfl;exact rfl;omega)))|(apply R.isCall;(apply R.callV (vs:=[.agg ⟨tv⟩,.slice (ovp ov) (prI (lgs gs)).length (ovc ov (prI (lgs gs)).length)]);(iterate 3 exact rfl);intro w1 hw1;exact hsum2 _ _ w1 (rdown hov hw1 (Ext.mem (by (focus (repeat' first|exact Ext.all _|apply Ext.cons);done))))))|(apply R.pure;exact rfl;first|(apply Ok1.load;exact rfl;apply Ld.ownk;exact rfl;exact rfl;(focus (repeat' first|exact At.head|apply At.tail);done);exact subE_all htl)|(apply Ok1.move;exact rfl)))|(apply R.is0;(apply R.store;(iterate 4 exact rfl);exact hls;exact hone;exact Upd.head;exact hset _ rfl))|apply R.nil|(apply T.is;first|apply T.seq|apply T.region|apply T.exit|apply T.ret|(apply T.cond_f;exact rfl)))
      all_goals apply RetOk.c
      all_goals first|exact rfl|skip
      all_goals (apply Ld.ownk;exact rfl;exact rfl;exact At.head;exact hsub)
end Go.Proofs.YtolnagbahceebaaGreat
