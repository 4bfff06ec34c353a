/- Texts of the proof: Rv7, Rv8, Rv9, Rs1, Rb3, Rp1, Dn1, Rd6, Rr1, Rb5. -/
import Derived.Test.YtolnagbahceebaaGreatL17fb3
set_option linter.unusedSimpArgs false
set_option linter.unusedVariables false
namespace Go.Proofs.YtolnagbahceebaaGreat
open Go.RowKit Go.Shelf
set_option maxRecDepth 100000
/-- A log,from where,and the delta's part of it. -/
abbrev Jx:=List Int × Int × List Int
def JE (x:Jx):Int:=jE x.1 x.2.2 x.2.1.toNat
def JL (x:Jx):List Int:=jL x.1 x.2.2 x.2.1.toNat
def DR (dd:List (Int × List Int)):Prop:=∀ y∈dd,0≤y.1∧y.1≤256∧y.2.length≤256∧SR y.2
instance (dd:List (Int × List Int)):Decidable (DR dd):=by unfold DR;infer_instance
def appE (zz:List Jx):Int:=if ∃ x∈zz,(x.1.length:Int) < x.2.1 then 9 else if ∃ x∈zz,JE x=3 then 3 else if ∃ x∈zz,JE x=6 then 6 else 0
def appX (ls:List (List Int)) (dd:List (Int × List Int)):Int:=if DR dd then appE (ls.zip dd) else 10
def appN (ls:List (List Int)) (dd:List (Int × List Int)):Int:=if appX ls dd=0 then ((ls.zip dd).map fun x=>((JL x).length:Int) - x.1.length).sum else 0
def appL (ls:List (List Int)) (dd:List (Int × List Int)):List (List Int):=if appX ls dd=0 then (ls.zip dd).map JL else ls
theorem je_cases (x:Jx):JE x=0 ∨ JE x=3 ∨ JE x=6:=by
  unfold JE jE
  by_cases c1:(x.1.drop x.2.1.toNat).take (both x.1 x.2.2 x.2.1.toNat)≠x.2.2.take (both x.1 x.2.2 x.2.1.toNat)
  · exact .inr (.inl (if_pos c1))
  · rw [if_neg c1]
    by_cases c2:¬ (jAll x.1 x.2.2 x.2.1.toNat).Nodup
    · exact .inr (.inl (if_pos c2))
    · rw [if_neg c2]
      by_cases c3:256 < (jAll x.1 x.2.2 x.2.1.toNat).length
      · exact .inr (.inr (if_pos c3))
      · exact .inl (if_neg c3)
theorem jl_len (x:Jx):(JL x).length≤256:=by
  unfold JL jL
  by_cases h:jE x.1 x.2.2 x.2.1.toNat=0
  · rw [if_pos h]
    unfold jE at h
    split at h
    · cases h
    · split at h
      · cases h
      · split at h
        · cases h
        · omega
  · rw [if_neg h];simp
theorem covers_list (us vs:List Int) (ha:us.length=4) (hb:vs.length=4):CallP Tryz.prog 75 [.agg ⟨iis us⟩,.agg ⟨iis vs⟩] (.bool (decide (∀ x∈us.zip vs,x.2≤x.1))):=by
  match us,vs,ha,hb with
  | [a0,a1,a2,a3],[b0,b1,b2,b3],_,_ =>
    have h:=covers_ok a0 a1 a2 a3 b0 b1 b2 b3
    have he:decide (b0≤a0∧b1≤a1∧b2≤a2∧b3≤a3)=decide (∀ x∈[a0,a1,a2,a3].zip [b0,b1,b2,b3],x.2≤x.1):=by
      simp
    rw [he] at h
    exact h
def zz (gs:List Lg) (d:Dl):List Jx:=(lgs gs).zip (d.map fun x=>(x.1,x.2.xs))
theorem zz_get {gs:List Lg} {d:Dl} {i:Nat} {g:Lg} {x:Int × Pi} (h1:gs[i]? = some g) (h2:d[i]? = some x):(zz gs d)[i]? = some (g.xs,x.1,x.2.xs):=by
  rw [zz,List.getElem?_zip_eq_some]
  simp [lgs,h1,h2]
theorem zz_len {gs:List Lg} {d:Dl} (h1:gs.length=4) (h2:d.length=4):(zz gs d).length=4:=by simp [zz,lgs,h1,h2]
def sumN (l:List Jx):Int:=(l.map fun x=>((JL x).length:Int) - x.1.length).sum
theorem sumN_snoc {l:List Jx} {i:Nat} {x:Jx} (h:l[i]? = some x):sumN (l.take (i+1))=sumN (l.take i)+(((JL x).length:Int) - x.1.length):=by
  unfold sumN
  rw [List.take_add_one,h]
  simp
def fullB (l:List Jx):Bool:=l.any fun x=>decide (JE x=6)
theorem fullB_snoc {l:List Jx} {i:Nat} {x:Jx} (h:l[i]? = some x):fullB (l.take (i+1))=(fullB (l.take i) || decide (JE x=6)):=by
  unfold fullB
  rw [List.take_add_one,h,List.any_append]
  simp
theorem lens_eq (gs:List Lg):lens gs=iis (gs.map fun g=>(g.xs.length:Int)):=by simp [lens,iis]
theorem sumN_le (l:List Jx) (h:∀ x∈l,x.1.length≤256) : -(256 * (l.length:Int))≤sumN l∧sumN l≤256 * (l.length:Int):=by
  induction l with
  | nil=>simp [sumN]
  | cons x l ih =>
    have h1:=h x List.mem_cons_self
    have h2:=jl_len x
    have h3:=ih fun y hy=>h y (List.mem_cons_of_mem _ hy)
    simp only [sumN,List.map_cons,List.sum_cons,List.length_cons] at *
    omega
theorem setV_all {gs:List Lg} (hl:gs.length=4):subE (setV gs) 0 4=some (setV gs):=by
  exact subE_all (by rw [setV,List.length_map,hl])
theorem set_mid {α:Type} {A:List α} {n i:Nat} {z y:α} (h:A.length=i):(A++List.replicate (n+1) z).set i y=(A++[y])++List.replicate n z:=by
  subst h
  rw [List.set_append_right _ _ (Nat.le_refl _),Nat.sub_self,List.replicate_succ,List.set_cons_zero,List.append_assoc]
  rfl
theorem apply_ok (bs:Nat) (gs:List Lg) (hg:GOk gs) (d:Dl) (hd:d.length=4) (hdb:∀ x∈d,x.2.xs.length≤1000000∧x.2.xs.length≤x.2.cap) (w:World) (hr:∀ x∈d,RdSl w x.2.p iV x.2.xs) (hoff:∀ x∈d,x.2.xs≠[]→Off x.2.p (blks (SetL bs gs))) :
    CallM Tryz.prog 73 [.pointer (some ⟨bs,0,none⟩),.agg ⟨dlV d⟩] (SetL bs gs) w fun v L=>∃ gs',v = .tuple #[.int .i64 (appN (lgs gs) (d.map fun x=>(x.1,x.2.xs))),.int .i64 (appX (lgs gs) (d.map fun x=>(x.1,x.2.xs)))]∧lgs gs'=appL (lgs gs) (d.map fun x=>(x.1,x.2.xs))∧GOk gs' ∧ L=SetL bs gs':=by
  have hrd:=fun x hx w1 (hc:Chg (blks (SetL bs gs)) w w1)=>(hr x hx).chg' hc (hoff x hx)
  have hchk:=fun w1 (hc:Chg (blks (SetL bs gs)) w w1)=>rcheck_ok d hd (fun x hx=>(hdb x hx).1) w1 (fun x hx=>hrd x hx w1 hc)
  have hdr:DOk d ↔ DR (d.map fun x=>(x.1,x.2.xs)):=by
    unfold DOk DR
    rw [List.forall_mem_map]
    exact Iff.rfl
  have hdl:(dlV d).length=8:=by simp [dlV,fl_pi,iis_len,hd]
  have hfr:=dl_froms hd
  by_cases hok:DOk d
  · rw [if_pos hok] at hchk
    have hX:appX (lgs gs) (d.map fun x=>(x.1,x.2.xs))=appE (zz gs d):=if_pos (hdr.1 hok)
    have hN:appN (lgs gs) (d.map fun x=>(x.1,x.2.xs))=if appE (zz gs d)=0 then sumN (zz gs d) else 0:=by rw [appN,hX];rfl
    have hLL:appL (lgs gs) (d.map fun x=>(x.1,x.2.xs))=if appE (zz gs d)=0 then (zz gs d).map JL else lgs gs:=by rw [appL,hX];rfl
    rw [hX,hN,hLL]
    clear hX hN hLL
    have hcov:=covers_list (gs.map fun g=>(g.xs.length:Int)) (d.map (·.1)) (by rw [List.length_map,hg.len]) (by rw [List.length_map,hd])
    rw [← lens_eq] at hcov
    have hver:∀ L w1,(∀ x∈SetL bs gs,x∈L)→Hp w (blks (SetL bs gs)) L w1→CallW Tryz.prog 70 [.pointer (some ⟨bs,0,none⟩)] w1 fun v _=>v = .agg ⟨lens gs⟩:=fun L w1 hin hw1=>versions_ok bs gs hg w1 (SetR.of hg hw1 hin)
    have hall9:(∀ x∈(gs.map fun g=>(g.xs.length:Int)).zip (d.map (·.1)),x.2≤x.1) ↔ ¬ ∃ x∈zz gs d,(x.1.length:Int) < x.2.1:=by
      unfold zz lgs
      rw [List.zip_map,List.zip_map,List.forall_mem_map]
      constructor
      · rintro h ⟨y,hy,hq⟩
        obtain ⟨z,hz,rfl⟩:=List.mem_map.1 hy
        have h5:=h z hz
        simp only [Prod.map] at h5 hq
        omega
      · intro h z hz
        refine Classical.byContradiction fun hc=>h ⟨_,List.mem_map.2 ⟨z,hz,rfl⟩,?_⟩
        simp only [Prod.map] at hc ⊢
        omega
    by_cases h9:∃ x∈zz gs d,(x.1.length:Int) < x.2.1
    · have hE:appE (zz gs d)=9:=if_pos h9
      rw [hE,if_neg (by decide),if_neg (by decide)]
      rw [decide_eq_false (fun h=>(hall9.1 h) h9)] at hcov
      refine enterK (tb:=tb) Tryz.func73 rfl Tryz.ntmps73 rfl ?_
      simp only [SetL]
      repeat' (first|(apply R.is1;first|(apply R.isBin;(apply R.pure;exact rfl;first|(apply Ok1.neq_f;exact rfl;exact rfl;omega)|(apply Ok1.eqlP;(iterate 5 exact rfl))))|(apply R.isCall;(apply R.callV (vs:=[.agg ⟨dlV d⟩]);(iterate 3 exact rfl);intro w1 hw1;exact hchk w1 hw1.chg))|(apply R.pure;exact rfl;first|(apply Ok1.load;exact rfl;(apply Ld.ownk;exact rfl;exact rfl;exact At.head;exact subE_all hdl))|(apply Ok1.move;exact rfl)|(apply Ok1.assign;exact rfl))|(apply R.box;(iterate 3 exact rfl);intro))|apply R.nil|(apply T.is;first|(apply T.drawC (id:=6) [0] (by decide);((apply A.tk 0;exact rfl;kernel_rfl;(apply Ok1.move;exact rfl))<;>(apply A.tk 2;exact rfl;kernel_rfl;(apply Ok1.fieldAddr;(iterate 5 exact rfl)))<;>(apply A.tk 3;exact rfl;kernel_rfl;(apply Ok1.load;exact rfl;(apply Ld.ownk;exact rfl;exact rfl;exact At.head;exact hfr)))<;>(apply A.one 1;kernel_rfl;exact rfl;(((apply R.callV (vs:=[.pointer (some ⟨bs,0,none⟩)]);(iterate 3 exact rfl);intro w1 hw1;exact hver _ w1 (fun x hx=>List.mem_cons_of_mem _ hx) hw1)));apply R.nil;refine ⟨?_,?_⟩;(focus ((repeat' (first|exact trivial|(refine ⟨?_,?_⟩;exact At.head))))))<;>(apply A.one 4;kernel_rfl;exact rfl;((apply R.callP rfl rfl rfl hcov));apply R.nil;refine ⟨?_,?_⟩;(focus ((repeat' (first|exact trivial|(refine ⟨?_,?_⟩;exact At.head))))))<;>(apply A.tk 5;exact rfl;kernel_rfl;(apply Ok1.not_f;exact rfl))<;>(apply A.done;kernel_rfl)))|apply T.seq|apply T.region|apply T.skip|apply T.ret|(apply T.cond_t;exact rfl)|(apply T.cond_f;exact rfl)))
      (apply RetOk.tt;exact rfl;exact rfl)
      exact ⟨_,by (focus (repeat' first|exact Ext.one _ _|exact Ext.all _|apply Keep.cons|apply Keep.last|apply Ext.cons);done),gs,rfl,rfl,hg,rfl⟩
    · have hE : appE (zz gs d)=if ∃ x∈zz gs d,JE x=3 then 3 else if ∃ x∈zz gs d,JE x=6 then 6 else 0:=if_neg h9
      rw [decide_eq_true (hall9.2 h9)] at hcov
      have hzl:=zz_len hg.len hd
      have hz256:∀ x∈zz gs d,x.1.length≤256:=by
        intro x hx
        unfold zz lgs at hx
        obtain ⟨g,hgm,he⟩:=List.mem_map.1 (List.of_mem_zip hx).1
        rw [← he]
        exact hg.le g hgm
      refine enterK (tb:=tb) Tryz.func73 rfl Tryz.ntmps73 rfl ?_
      simp only [SetL]
      repeat' (first|(apply R.is1;first|(apply R.isBin;(apply R.pure;exact rfl;first|(apply Ok1.neq_f;exact rfl;exact rfl;omega)|(apply Ok1.eqlP;(iterate 5 exact rfl))))|(apply R.isCall;first|(apply R.callV (vs:=[.agg ⟨dlV d⟩]);(iterate 3 exact rfl);intro w1 hw1;exact hchk w1 hw1.chg)|(apply R.callE (vs:=[]);(iterate 3 exact rfl);exact Ext.none _;intro w1 hw1;exact rnew_ok w1;rintro v Lo ⟨bc,rfl,rfl⟩))|(apply R.pure;exact rfl;first|(apply Ok1.load;exact rfl;(apply Ld.ownk;exact rfl;exact rfl;exact At.head;exact subE_all hdl))|(apply Ok1.move;exact rfl)|(apply Ok1.assign;exact rfl))|(apply R.box;(iterate 3 exact rfl);intro))|apply R.nil|(apply T.is;first|(apply T.drawC (id:=6) [0] (by decide);((apply A.tk 0;exact rfl;kernel_rfl;(apply Ok1.move;exact rfl))<;>(apply A.tk 2;exact rfl;kernel_rfl;(apply Ok1.fieldAddr;(iterate 5 exact rfl)))<;>(apply A.tk 3;exact rfl;kernel_rfl;(apply Ok1.load;exact rfl;(apply Ld.ownk;exact rfl;exact rfl;exact At.head;exact hfr)))<;>(apply A.one 1;kernel_rfl;exact rfl;(((apply R.callV (vs:=[.pointer (some ⟨bs,0,none⟩)]);(iterate 3 exact rfl);intro w1 hw1;exact hver _ w1 (fun x hx=>List.mem_cons_of_mem _ hx) hw1)));apply R.nil;refine ⟨?_,?_⟩;(focus ((repeat' (first|exact trivial|(refine ⟨?_,?_⟩;exact At.head))))))<;>(apply A.one 4;kernel_rfl;exact rfl;((apply R.callP rfl rfl rfl hcov));apply R.nil;refine ⟨?_,?_⟩;(focus ((repeat' (first|exact trivial|(refine ⟨?_,?_⟩;exact At.head))))))<;>(apply A.tk 5;exact rfl;kernel_rfl;(apply Ok1.not_t;exact rfl))<;>(apply A.done;kernel_rfl)))|apply T.seq|apply T.region|apply T.block|apply T.skip|(apply T.cond_f;exact rfl)))
      rename_i bd
      apply T.loopK (α:=Nat × List Lg) (I:=fun y=>y.1≤4∧GOk y.2∧lgs y.2=((zz gs d).take y.1).map JL++List.replicate (4 - y.1) []∧∀ x∈(zz gs d).take y.1,JE x≠3)
        (σi:=fun y=>[(0,.pointer (some ⟨bs,0,none⟩)),(3,.pointer (some ⟨bd,0,none⟩)),(7,.pointer (some ⟨bc,0,none⟩)),(8,.int .i64 (sumN ((zz gs d).take y.1))),(9,.bool (fullB ((zz gs d).take y.1))),(27,.int .i64 y.1)])
        (Li:=fun y=>(bd,.cells ⟨dlV d⟩ 76 (0,0))::(bs,.cells ⟨setV gs⟩ 191 (0,0))::(bc,.cells ⟨setV y.2⟩ 191 (0,0))::(LsL gs++LsL y.2)) (μ:=fun y=>4 - y.1) (i0:=(0,[lg0,lg0,lg0,lg0]))
      · exact ⟨Nat.zero_le _,GOk.new,rfl,by simp⟩
      · exact ⟨rfl,rfl,rfl,rfl,rfl,rfl,trivial⟩
      · simp only [SetL,List.cons_append]
        (focus (repeat' first|exact Keep.nil _|exact Ext.one _ _|exact Ext.all _|apply Keep.cons|apply Keep.app|apply Ext.cons);done)
      · rintro ⟨i,gs2⟩ ⟨hi,hg2,hlg2,hn3⟩
        simp only at hi hg2 hlg2 hn3 ⊢
        rcases Nat.lt_or_ge i 4 with hlt|hge
        · obtain ⟨g,hx1⟩:∃ g,gs[i]? = some g:=⟨_,List.getElem?_eq_getElem (by rw [hg.len];omega)⟩
          obtain ⟨x,hx2⟩:∃ x,d[i]? = some x:=⟨_,List.getElem?_eq_getElem (by rw [hd];omega)⟩
          obtain ⟨g2,hx3⟩:∃ g2,gs2[i]? = some g2:=⟨_,List.getElem?_eq_getElem (by rw [hg2.len];omega)⟩
          have hm:=List.mem_of_getElem? hx1
          have hgo:=hg.ok g hm
          have hgl:=hg.le g hm
          have hxm:=List.mem_of_getElem? hx2
          obtain ⟨hx0,hx256,hxl,_⟩:=hok x hxm
          have hxc:=(hdb x hxm).2
          have hz:=zz_get hx1 hx2
          have hzm:=List.mem_of_getElem? hz
          obtain ⟨k,hk⟩:∃ k:Nat,x.1=k:=⟨x.1.toNat,by omega⟩
          have hle:k≤g.xs.length:=by
            have hnl:¬ ((g.xs.length:Int) < x.1):=fun h=>h9 ⟨_,hzm,h⟩
            omega
          have hcell:=setV_get hx1 hgo
          have hf:(dlV d)[0+i * 1]? = some (.int .i64 k):=by
            have:=dl_from hx2
            rw [Nat.zero_add,dlV,List.getElem?_append_left (by rw [iis_len,List.length_map];omega),this,hk]
          have hl4:=dl_log hd hx2
          have hJE:JE (g.xs,x.1,x.2.xs)=jE g.xs x.2.xs k:=by rw [JE,hk,Int.toNat_natCast]
          have hJL:JL (g.xs,x.1,x.2.xs)=jL g.xs x.2.xs k:=by rw [JL,hk,Int.toNat_natCast]
          have hjl:=jl_len (g.xs,x.1,x.2.xs)
          have hjc:=je_cases (g.xs,x.1,x.2.xs)
          have hsn:=sumN_snoc hz
          have hfn:=fullB_snoc hz
          rw [hJL] at hjl hsn
          rw [hJE] at hjc hfn
          have hsb:=sumN_le ((zz gs d).take i) fun y hy=>hz256 y (List.mem_of_mem_take hy)
          have htl:((zz gs d).take i).length=i:=by rw [List.length_take];omega
          rw [htl] at hsb
          have hset:=fun g'=>setV_set (gs:=gs2) (i:=i) g' (by rw [hg2.len];omega)
          have hjo:∀ w1 L,Hp w (blks (SetL bs gs)) L w1→(∃ L1,Ext L (LsL gs) L1)→CallM Tryz.prog 149 [.slice (ovp g.ov) g.xs.length (ovc g.ov g.xs.length),.int .i64 k,.slice x.2.p x.2.xs.length x.2.cap] [] w1 fun v L=>∃ ov,v = .tuple #[slV ov (jL g.xs x.2.xs k).length,.int .i64 (jE g.xs x.2.xs k)]∧OvOk 1 ov (jL g.xs x.2.xs k).length (iis (jL g.xs x.2.xs k))∧L=blkL 3 ov (iis (jL g.xs x.2.xs k)):=by
            rintro w1 L hw1 ⟨L1,hL1⟩
            have hcc:g.xs.length≤ovc g.ov g.xs.length:=by
              unfold ovc
              cases hov:g.ov with
              | none=>have:=hgo.2;rw [hov] at this;simp only at this ⊢;omega
              | some q=>simp only;omega
            exact joined_ok _ _ _ g.xs rfl hcc hgl k hle _ _ _ x.2.xs rfl hxc hxl w1 (Lg.rd hgo hw1 fun z hz=>Ext.mem hL1 z (mem_LsL hm hz)) (hrd x hxm w1 hw1.chg)
          have hmem3:(g.xs,x.1,x.2.xs)∈(zz gs d).take (i+1):=by
            rw [List.take_add_one,hz]
            exact List.mem_append_right _ (List.mem_singleton.2 rfl)
          have hnext:∀ ov,OvOk 1 ov (jL g.xs x.2.xs k).length (iis (jL g.xs x.2.xs k))→jE g.xs x.2.xs k≠3→(i+1≤4∧GOk (gs2.set i ⟨ov,jL g.xs x.2.xs k⟩)∧lgs (gs2.set i ⟨ov,jL g.xs x.2.xs k⟩)=((zz gs d).take (i+1)).map JL++List.replicate (4 - (i+1)) []∧∀ x∈(zz gs d).take (i+1),JE x≠3):=by
            intro ov hov hne
            refine ⟨by omega,hg2.set i hov hjl,?_,?_⟩
            · rw [lgs,List.map_set,← lgs,hlg2,show 4 - i=(4 - (i+1))+1 by omega,set_mid (by rw [List.length_map,htl]),List.take_add_one,hz]
              simp [hJL]
            · intro y hy
              rw [List.take_add_one,hz,List.mem_append] at hy
              rcases hy with hy|hy
              · exact hn3 y hy
              · simp only [Option.toList_some,List.mem_singleton] at hy
                rw [hy,hJE]
                exact hne
          rcases hjc with hj|hj|hj
          · simp only [hj] at hjo hfn
            repeat' (first|(apply R.is1;first|(apply R.isBin;(apply R.pure;exact rfl;first|(apply Ok1.add64;exact rfl;exact rfl;omega;omega)|(apply Ok1.sub64;exact rfl;exact rfl;omega;omega)|(apply Ok1.lss_t;exact rfl;exact rfl;omega)|(apply Ok1.eql_f;exact rfl;exact rfl;omega)))|(apply R.isCall;(apply R.pure;exact rfl;(apply Ok1.lenS;(iterate 3 exact rfl))))|(apply R.pure;exact rfl;first|(apply Ok1.load;exact rfl;(apply Ld.own1;exact rfl;exact rfl;(focus (repeat' first|exact At.head|apply At.tail|apply At.right);done);exact hcell))|(apply Ok1.move;exact rfl)|(apply Ok1.fieldAddr;(iterate 5 exact rfl))|(apply Ok1.assign;exact rfl)|(apply Ok1.indexAddrA;(iterate 5 exact rfl);omega;omega)|(apply Ok1.nilCheck;exact rfl)))|(apply R.is0;(apply R.store;(iterate 6 exact rfl);(focus (repeat' first|exact Upd.head|apply Upd.tail|apply Upd.right);done);have h9:=hset ⟨ov,jL g.xs x.2.xs k⟩;rw [Lg.v_eq (g:=⟨ov,jL g.xs x.2.xs k⟩) hov] at h9;exact h9))|apply R.nil|(apply T.is;first|(apply T.drawC (id:=12) [0,1] (by decide);((apply A.tk 0;exact rfl;kernel_rfl;(apply Ok1.move;exact rfl))<;>(apply A.tk 1;exact rfl;kernel_rfl;(apply Ok1.move;exact rfl))<;>(apply A.tk 2;exact rfl;kernel_rfl;(apply Ok1.nilCheck;exact rfl))<;>(apply A.tk 3;exact rfl;kernel_rfl;(apply Ok1.fieldAddr;(iterate 5 exact rfl)))<;>(apply A.tk 4;exact rfl;kernel_rfl;(apply Ok1.indexAddrA;(iterate 5 exact rfl);omega;omega))<;>(apply A.tk 5;exact rfl;kernel_rfl;(apply Ok1.load;exact rfl;(apply Ld.own1;exact rfl;exact rfl;(focus (repeat' first|exact At.head|apply At.tail);done);exact hcell)))<;>(apply A.tk 6;exact rfl;kernel_rfl;(apply Ok1.move;exact rfl))<;>(apply A.tk 7;exact rfl;kernel_rfl;(apply Ok1.fieldAddr;(iterate 5 exact rfl)))<;>(apply A.tk 8;exact rfl;kernel_rfl;(apply Ok1.indexAddrA;(iterate 5 exact rfl);omega;omega))<;>(apply A.tk 9;exact rfl;kernel_rfl;(apply Ok1.load;exact rfl;(apply Ld.own1;exact rfl;exact rfl;exact At.head;exact hf)))<;>(apply A.tk 10;exact rfl;kernel_rfl;(apply Ok1.move;exact rfl))<;>(apply A.tk 11;exact rfl;kernel_rfl;(apply Ok1.fieldAddr;(iterate 5 exact rfl)))<;>(apply A.tk 12;exact rfl;kernel_rfl;(apply Ok1.indexAddrA;(iterate 5 exact rfl);omega;omega))<;>(apply A.tk 13;exact rfl;kernel_rfl;(apply Ok1.load;exact rfl;(apply Ld.own1;exact rfl;exact rfl;exact At.head;exact hl4)))<;>(apply A.one 14;kernel_rfl;exact rfl;(((apply R.callE (vs:=[.slice (ovp g.ov) g.xs.length (ovc g.ov g.xs.length),.int .i64 k,.slice x.2.p x.2.xs.length x.2.cap]);(iterate 3 exact rfl);exact Ext.none _;intro w1 hw1;exact hjo w1 _ hw1 ⟨_,by (focus (repeat' first|exact Ext.here _ _|apply Ext.cons);done)⟩;rintro v Lo ⟨ov,rfl,hov,rfl⟩;rw [slV_eq hov])));apply R.nil;refine ⟨?_,?_⟩;(focus (repeat' first|exact trivial|exact At.head|apply At.tail|apply At.right|refine ⟨?_,?_⟩)))<;>(apply A.tk 15;exact rfl;kernel_rfl;(apply Ok1.move;exact rfl))<;>(apply A.tk 16;exact rfl;kernel_rfl;(apply Ok1.extract;exact rfl;exact rfl))<;>(apply A.tk 17;exact rfl;kernel_rfl;(apply Ok1.extract;exact rfl;exact rfl))<;>(apply A.tk 18;exact rfl;kernel_rfl;(apply Ok1.assign;exact rfl))<;>(apply A.tk 19;exact rfl;kernel_rfl;(apply Ok1.assign;exact rfl))<;>(apply A.done;kernel_rfl)))|apply T.seq|apply T.region|apply T.block|apply T.skip|(apply T.cond_t;exact rfl)|(apply T.cond_f;exact rfl)))
            refine ⟨(i+1,gs2.set i ⟨ov,jL g.xs x.2.xs k⟩),hnext ov hov (by rw [hj];decide),by simp only;omega,⟨rfl,rfl,rfl,?_,?_,rfl,trivial⟩,?_⟩
            · simp only [hsn];rfl
            · simp only [hfn];simp;rfl
            · simp only
              rw [LsL_set _ (by rw [hg2.len];omega),LsL_at hx3]
              simp only [Lg.L]
              (focus (repeat' first|exact Ext.one _ _|exact Ext.here _ _|exact Ext.all _|apply Keep.cons|apply Keep.app|apply Keep.last|apply Ext.app);done)
          · simp only [hj] at hjo hfn
            have h3:∃ x∈zz gs d,JE x=3:=⟨_,hzm,by rw [hJE,hj]⟩
            rw [hE,if_pos h3,if_neg (by decide),if_neg (by decide)]
            repeat' (first|(apply R.is1;first|(apply R.isBin;(apply R.pure;exact rfl;first|(apply Ok1.lss_t;exact rfl;exact rfl;omega)|(apply Ok1.eql_t;exact rfl;exact rfl;omega)))|(apply R.pure;exact rfl;first|(apply Ok1.move;exact rfl)|(apply Ok1.assign;exact rfl)))|apply R.nil|(apply T.is;first|(apply T.drawC (id:=12) [0,1] (by decide);((apply A.tk 0;exact rfl;kernel_rfl;(apply Ok1.move;exact rfl))<;>(apply A.tk 1;exact rfl;kernel_rfl;(apply Ok1.move;exact rfl))<;>(apply A.tk 2;exact rfl;kernel_rfl;(apply Ok1.nilCheck;exact rfl))<;>(apply A.tk 3;exact rfl;kernel_rfl;(apply Ok1.fieldAddr;(iterate 5 exact rfl)))<;>(apply A.tk 4;exact rfl;kernel_rfl;(apply Ok1.indexAddrA;(iterate 5 exact rfl);omega;omega))<;>(apply A.tk 5;exact rfl;kernel_rfl;(apply Ok1.load;exact rfl;(apply Ld.own1;exact rfl;exact rfl;(focus (repeat' first|exact At.head|apply At.tail);done);exact hcell)))<;>(apply A.tk 6;exact rfl;kernel_rfl;(apply Ok1.move;exact rfl))<;>(apply A.tk 7;exact rfl;kernel_rfl;(apply Ok1.fieldAddr;(iterate 5 exact rfl)))<;>(apply A.tk 8;exact rfl;kernel_rfl;(apply Ok1.indexAddrA;(iterate 5 exact rfl);omega;omega))<;>(apply A.tk 9;exact rfl;kernel_rfl;(apply Ok1.load;exact rfl;(apply Ld.own1;exact rfl;exact rfl;exact At.head;exact hf)))<;>(apply A.tk 10;exact rfl;kernel_rfl;(apply Ok1.move;exact rfl))<;>(apply A.tk 11;exact rfl;kernel_rfl;(apply Ok1.fieldAddr;(iterate 5 exact rfl)))<;>(apply A.tk 12;exact rfl;kernel_rfl;(apply Ok1.indexAddrA;(iterate 5 exact rfl);omega;omega))<;>(apply A.tk 13;exact rfl;kernel_rfl;(apply Ok1.load;exact rfl;(apply Ld.own1;exact rfl;exact rfl;exact At.head;exact hl4)))<;>(apply A.one 14;kernel_rfl;exact rfl;(((apply R.callE (vs:=[.slice (ovp g.ov) g.xs.length (ovc g.ov g.xs.length),.int .i64 k,.slice x.2.p x.2.xs.length x.2.cap]);(iterate 3 exact rfl);exact Ext.none _;intro w1 hw1;exact hjo w1 _ hw1 ⟨_,by (focus (repeat' first|exact Ext.here _ _|apply Ext.cons);done)⟩;rintro v Lo ⟨ov,rfl,hov,rfl⟩;rw [slV_eq hov])));apply R.nil;refine ⟨?_,?_⟩;(focus (repeat' first|exact trivial|exact At.head|apply At.tail|apply At.right|refine ⟨?_,?_⟩)))<;>(apply A.tk 15;exact rfl;kernel_rfl;(apply Ok1.move;exact rfl))<;>(apply A.tk 16;exact rfl;kernel_rfl;(apply Ok1.extract;exact rfl;exact rfl))<;>(apply A.tk 17;exact rfl;kernel_rfl;(apply Ok1.extract;exact rfl;exact rfl))<;>(apply A.tk 18;exact rfl;kernel_rfl;(apply Ok1.assign;exact rfl))<;>(apply A.tk 19;exact rfl;kernel_rfl;(apply Ok1.assign;exact rfl))<;>(apply A.done;kernel_rfl)))|apply T.seq|apply T.region|apply T.block|apply T.skip|apply T.ret|(apply T.cond_t;exact rfl)))
            (apply RetOk.tt;exact rfl;exact rfl)
            exact ⟨_,by (focus (repeat' first|exact Ext.one _ _|exact Ext.here _ _|apply Keep.cons|apply Keep.last|apply Ext.cons|apply Ext.app);done),gs,rfl,rfl,hg,rfl⟩
          · simp only [hj] at hjo hfn
            repeat' (first|(apply R.is1;first|(apply R.isBin;(apply R.pure;exact rfl;first|(apply Ok1.add64;exact rfl;exact rfl;omega;omega)|(apply Ok1.sub64;exact rfl;exact rfl;omega;omega)|(apply Ok1.lss_t;exact rfl;exact rfl;omega)|(apply Ok1.eql_t;exact rfl;exact rfl;omega)|(apply Ok1.eql_f;exact rfl;exact rfl;omega)))|(apply R.isCall;(apply R.pure;exact rfl;(apply Ok1.lenS;(iterate 3 exact rfl))))|(apply R.pure;exact rfl;first|(apply Ok1.load;exact rfl;(apply Ld.own1;exact rfl;exact rfl;(focus (repeat' first|exact At.head|apply At.tail|apply At.right);done);exact hcell))|(apply Ok1.move;exact rfl)|(apply Ok1.fieldAddr;(iterate 5 exact rfl))|(apply Ok1.assign;exact rfl)|(apply Ok1.indexAddrA;(iterate 5 exact rfl);omega;omega)|(apply Ok1.nilCheck;exact rfl)))|(apply R.is0;(apply R.store;(iterate 6 exact rfl);(focus (repeat' first|exact Upd.head|apply Upd.tail|apply Upd.right);done);have h9:=hset ⟨ov,jL g.xs x.2.xs k⟩;rw [Lg.v_eq (g:=⟨ov,jL g.xs x.2.xs k⟩) hov] at h9;exact h9))|apply R.nil|(apply T.is;first|(apply T.drawC (id:=12) [0,1] (by decide);((apply A.tk 0;exact rfl;kernel_rfl;(apply Ok1.move;exact rfl))<;>(apply A.tk 1;exact rfl;kernel_rfl;(apply Ok1.move;exact rfl))<;>(apply A.tk 2;exact rfl;kernel_rfl;(apply Ok1.nilCheck;exact rfl))<;>(apply A.tk 3;exact rfl;kernel_rfl;(apply Ok1.fieldAddr;(iterate 5 exact rfl)))<;>(apply A.tk 4;exact rfl;kernel_rfl;(apply Ok1.indexAddrA;(iterate 5 exact rfl);omega;omega))<;>(apply A.tk 5;exact rfl;kernel_rfl;(apply Ok1.load;exact rfl;(apply Ld.own1;exact rfl;exact rfl;(focus (repeat' first|exact At.head|apply At.tail);done);exact hcell)))<;>(apply A.tk 6;exact rfl;kernel_rfl;(apply Ok1.move;exact rfl))<;>(apply A.tk 7;exact rfl;kernel_rfl;(apply Ok1.fieldAddr;(iterate 5 exact rfl)))<;>(apply A.tk 8;exact rfl;kernel_rfl;(apply Ok1.indexAddrA;(iterate 5 exact rfl);omega;omega))<;>(apply A.tk 9;exact rfl;kernel_rfl;(apply Ok1.load;exact rfl;(apply Ld.own1;exact rfl;exact rfl;exact At.head;exact hf)))<;>(apply A.tk 10;exact rfl;kernel_rfl;(apply Ok1.move;exact rfl))<;>(apply A.tk 11;exact rfl;kernel_rfl;(apply Ok1.fieldAddr;(iterate 5 exact rfl)))<;>(apply A.tk 12;exact rfl;kernel_rfl;(apply Ok1.indexAddrA;(iterate 5 exact rfl);omega;omega))<;>(apply A.tk 13;exact rfl;kernel_rfl;(apply Ok1.load;exact rfl;(apply Ld.own1;exact rfl;exact rfl;exact At.head;exact hl4)))<;>(apply A.one 14;kernel_rfl;exact rfl;(((apply R.callE (vs:=[.slice (ovp g.ov) g.xs.length (ovc g.ov g.xs.length),.int .i64 k,.slice x.2.p x.2.xs.length x.2.cap]);(iterate 3 exact rfl);exact Ext.none _;intro w1 hw1;exact hjo w1 _ hw1 ⟨_,by (focus (repeat' first|exact Ext.here _ _|apply Ext.cons);done)⟩;rintro v Lo ⟨ov,rfl,hov,rfl⟩;rw [slV_eq hov])));apply R.nil;refine ⟨?_,?_⟩;(focus (repeat' first|exact trivial|exact At.head|apply At.tail|apply At.right|refine ⟨?_,?_⟩)))<;>(apply A.tk 15;exact rfl;kernel_rfl;(apply Ok1.move;exact rfl))<;>(apply A.tk 16;exact rfl;kernel_rfl;(apply Ok1.extract;exact rfl;exact rfl))<;>(apply A.tk 17;exact rfl;kernel_rfl;(apply Ok1.extract;exact rfl;exact rfl))<;>(apply A.tk 18;exact rfl;kernel_rfl;(apply Ok1.assign;exact rfl))<;>(apply A.tk 19;exact rfl;kernel_rfl;(apply Ok1.assign;exact rfl))<;>(apply A.done;kernel_rfl)))|apply T.seq|apply T.region|apply T.block|apply T.skip|(apply T.cond_t;exact rfl)|(apply T.cond_f;exact rfl)))
            refine ⟨(i+1,gs2.set i ⟨ov,jL g.xs x.2.xs k⟩),hnext ov hov (by rw [hj];decide),by simp only;omega,⟨rfl,rfl,rfl,?_,?_,rfl,trivial⟩,?_⟩
            · simp only [hsn];rfl
            · simp only [hfn];simp;rfl
            · simp only
              rw [LsL_set _ (by rw [hg2.len];omega),LsL_at hx3]
              simp only [Lg.L]
              (focus (repeat' first|exact Ext.one _ _|exact Ext.here _ _|exact Ext.all _|apply Keep.cons|apply Keep.app|apply Keep.last|apply Ext.app);done)
        · have him:i=4:=by omega
          subst him
          have htk:(zz gs d).take 4=zz gs d:=List.take_of_length_le (by omega)
          rw [htk] at hlg2 hn3 ⊢
          rw [if_neg (fun ⟨x,hx,he⟩=>hn3 x hx he)] at hE
          rw [Nat.sub_self,List.replicate_zero,List.append_nil] at hlg2
          by_cases h6:∃ x∈zz gs d,JE x=6
          · have hfb:fullB (zz gs d)=true:=by
              obtain ⟨x,hx,he⟩:=h6
              exact List.any_eq_true.2 ⟨x,hx,decide_eq_true he⟩
            rw [if_pos h6] at hE
            rw [hfb,hE,if_neg (by decide),if_neg (by decide)]
            repeat' (first|(apply R.is1;first|(apply R.isBin;(apply R.pure;exact rfl;(apply Ok1.lss_f;exact rfl;exact rfl;omega)))|(apply R.pure;exact rfl;first|(apply Ok1.move;exact rfl)|(apply Ok1.assign;exact rfl)))|apply R.nil|(apply T.is;first|apply T.seq|apply T.region|apply T.exit|apply T.ret|(apply T.cond_t;exact rfl)|(apply T.cond_f;exact rfl)))
            (apply RetOk.tt;exact rfl;exact rfl)
            exact ⟨_,by (focus (repeat' first|exact Ext.one _ _|exact Ext.here _ _|apply Keep.cons|apply Keep.last|apply Ext.cons);done),gs,rfl,rfl,hg,rfl⟩
          · have hfb:fullB (zz gs d)=false:=by
              cases h:fullB (zz gs d) with
              | false=>rfl
              | true =>
                obtain ⟨x,hx,he⟩:=List.any_eq_true.1 h
                exact absurd ⟨x,hx,of_decide_eq_true he⟩ h6
            have hv1:(setV gs2).length=4:=by rw [setV,List.length_map,hg2.len]
            have hv0:(setV gs).length=4:=by rw [setV,List.length_map,hg.len]
            have hone:(setV gs2).all Value.oneCell'=true:=by
              rw [List.all_eq_true]
              intro v hv
              obtain ⟨q,hq,rfl⟩:=List.mem_map.1 hv
              rw [Lg.v_eq (hg2.ok q hq)]
              rfl
            rw [if_neg h6] at hE
            rw [hfb,hE,if_pos rfl,if_pos rfl]
            repeat' (first|(apply R.is1;first|(apply R.isBin;(apply R.pure;exact rfl;(apply Ok1.lss_f;exact rfl;exact rfl;omega)))|(apply R.pure;exact rfl;first|(apply Ok1.load;exact rfl;apply Ld.ownk;exact rfl;exact rfl;(focus (repeat' first|exact At.head|apply At.tail);done);exact setV_all hg2.len)|(apply Ok1.move;exact rfl)|(apply Ok1.fieldAddr;(iterate 5 exact rfl))|(apply Ok1.assign;exact rfl)|(apply Ok1.nilCheck;exact rfl)))|(apply R.is0;(apply R.store;(iterate 4 exact rfl);exact hv1;exact hone;(focus (repeat' first|exact Upd.head|apply Upd.tail);done);exact setE_all (by rw [hv0,hv1])))|apply R.nil|(apply T.is;first|apply T.seq|apply T.region|apply T.skip|apply T.exit|apply T.ret|(apply T.cond_f;exact rfl)))
            (apply RetOk.tt;exact rfl;exact rfl)
            exact ⟨_,by (focus (repeat' first|exact Ext.one _ _|exact Ext.all _|apply Keep.cons|apply Keep.last|apply Ext.cons|apply Ext.app);done),gs2,rfl,hlg2,hg2,rfl⟩
  · rw [if_neg hok] at hchk
    have hX:appX (lgs gs) (d.map fun x=>(x.1,x.2.xs))=10:=if_neg fun h=>hok (hdr.2 h)
    have hN:appN (lgs gs) (d.map fun x=>(x.1,x.2.xs))=0:=by rw [appN,hX];rfl
    have hLL:appL (lgs gs) (d.map fun x=>(x.1,x.2.xs))=lgs gs:=by rw [appL,hX];rfl
    rw [hX,hN,hLL]
    refine enterK (tb:=tb) Tryz.func73 rfl Tryz.ntmps73 rfl ?_
    simp only [SetL]
    repeat' (first|(apply R.is1;first|(apply R.isBin;(apply R.pure;exact rfl;first|(apply Ok1.neq_t;exact rfl;exact rfl;omega)|(apply Ok1.eqlP;(iterate 5 exact rfl))))|(apply R.isCall;(apply R.callV (vs:=[.agg ⟨dlV d⟩]);(iterate 3 exact rfl);intro w1 hw1;exact hchk w1 hw1.chg))|(apply R.pure;exact rfl;first|(apply Ok1.load;exact rfl;apply Ld.ownk;exact rfl;exact rfl;exact At.head;exact subE_all hdl)|(apply Ok1.move;exact rfl)|(apply Ok1.assign;exact rfl))|(apply R.box;(iterate 3 exact rfl);intro))|apply R.nil|(apply T.is;first|apply T.seq|apply T.region|apply T.skip|apply T.ret|(apply T.cond_t;exact rfl)|(apply T.cond_f;exact rfl)))
    (apply RetOk.tt;exact rfl;exact rfl)
    exact ⟨_,by (focus (repeat' first|exact Ext.one _ _|exact Ext.all _|apply Keep.cons|apply Keep.last|apply Ext.cons);done),gs,rfl,rfl,hg,rfl⟩
section
variable {X:Cx} {σ:Env} {L Lr:Lst} {d:Option Nat} {ty:TypeId} {pos:String} {af:Array Edge} {g:Option (Nat × Bool)} {x:Operand} {t e:TypeId} {r re:TRow} {p:Option Addr} {n cap i j:Nat}
theorem Ok1.mid3 {lo hi mx:Operand} {sz:Nat} (ht:X.tb.row t=some r) (hk:r.k = .slice e) (he:X.tb.row e=some re) (hsz:re.size=sz) (hx:ev σ x=some (.slice p n cap)) (hl:ev σ lo=some (.int .i64 i)) (hh:ev σ hi=some (.int .i64 j)) (hm:ev σ mx=some (.int .i64 j)) (h1:i≤j) (h2:j≤cap) :
    Ok1 X ⟨d,.slice t x (some lo) (some hi) (some mx),ty,pos,af,g⟩ σ L (.slice (sufP p j i sz) (j - i) (j - i)):=.mk fun a w ha hw=>by
  subst hsz
  rw [slice_run (l:=(i:Int)) (h:=(j:Int)) (m:=(j:Int)) X.tb ht hk he ha hx (by simp [bd,hm]) (by simp [bd,hh]) (by simp [bd,hl]) (by omega) (by omega) (by omega) (by omega) (.inr (by simp))]
  simp [sufP]
end
theorem ovc_le {n:Nat} {ov:Ov} {xs:List Value} (h:OvOk 1 ov n xs):n≤ovc ov n:=by
  unfold ovc
  cases ov with
  | none=>have:=h.2;simp only at this ⊢;omega
  | some q=>simp only;omega
/-- A delta whose logs lie in the blocks of L. -/
structure DlO (d:Dl) (L:Lst):Prop where
  cap:∀ x∈d,x.2.xs.length≤x.2.cap
  adr:∀ x∈d,x.2.xs≠[]→∃ b o,x.2.p=some ⟨b,o,none⟩∧b∈blks L
  rd:∀ (w0 w:World) (S:List Nat) (L':Lst),Hp w0 S L' w→(∀ z∈L,z∈L')→∀ x∈d,RdSl w x.2.p iV x.2.xs
theorem DlO.nil (L:Lst):DlO [] L:=⟨by simp,by simp,by simp⟩
theorem DlO.snoc {d:Dl} {L:Lst} (h:DlO d L) {ov:Ov} {xs:List Int} (hov:OvOk 1 ov xs.length (iis xs)) (f:Int) {k c:Nat} (hk:k≤xs.length) (hc:xs.length≤c) {m:Nat} (hm:xs.length - k≤m) :
    DlO (d++[(f,⟨sufP (ovp ov) c k 1,m,xs.drop k⟩)]) (blkL 3 ov (iis xs)++L):=by
  refine ⟨fun x hx=>?_,fun x hx hne=>?_,fun w0 w S L' hw hin x hx=>?_⟩
  · rcases List.mem_append.1 hx with h1|h1
    · exact h.cap x h1
    · rw [List.mem_singleton.1 h1]
      simp only [List.length_drop]
      exact hm
  · rcases List.mem_append.1 hx with h1|h1
    · obtain ⟨b,o,h2,h3⟩:=h.adr x h1 hne
      refine ⟨b,o,h2,?_⟩
      rw [blks,List.map_append]
      exact List.mem_append_right _ h3
    · rw [List.mem_singleton.1 h1] at hne ⊢
      simp only at hne ⊢
      cases ov with
      | none =>
        have h0:xs.length=0:=hov.2
        have:xs=[]:=List.eq_nil_of_length_eq_zero h0
        subst this
        simp at hne
      | some q =>
        obtain ⟨b,j,junk⟩:=q
        have hb:b∈blks (blkL 3 (some (b,j,junk)) (iis xs)++L):=by simp [blks,blkL]
        unfold sufP ovp
        by_cases hck:c=k
        · exact ⟨b,0,by rw [if_pos hck],hb⟩
        · exact ⟨b,0+k * 1,by rw [if_neg hck];simp [Addr.add];omega,hb⟩
  · rcases List.mem_append.1 hx with h1|h1
    · exact h.rd w0 w S L' hw (fun z hz=>hin z (List.mem_append_right _ hz)) x h1
    · rw [List.mem_singleton.1 h1]
      exact (irdown hov hw fun z hz=>hin z (List.mem_append_left _ hz)).suf iV_len hk hc
def pur (d:Dl):List (Int × List Int):=d.map fun x=>(x.1,x.2.xs)
def noD:List Value:=[.int .i64 0,.int .i64 0,.int .i64 0,.int .i64 0,.slice none 0 0,.slice none 0 0,.slice none 0 0,.slice none 0 0]
/-- The versions are such as the set has. -/
def VOk (ls:List (List Int)) (vs:List Int):Prop:=∀ x∈ls.zip vs,0≤x.2∧x.2≤(x.1.length:Int)
instance (ls:List (List Int)) (vs:List Int):Decidable (VOk ls vs):=by unfold VOk;infer_instance
def sinD (ls:List (List Int)) (vs:List Int):List (Int × List Int):=(ls.zip vs).map fun x=>(x.2,x.1.drop x.2.toNat)
def dPart (vs:List Int) (d:Dl):List Value:=iis vs++(fl Pi.v (d.map (·.2))++List.replicate (4 - d.length) (.slice none 0 0))
theorem dPart_set {vs:List Int} (hv:vs.length=4) {d:Dl} {i:Nat} (hd:d.length=i) (hi:i < 4) (x:Int × Pi):setE (dPart vs d) (4+i * 1) [.slice x.2.p x.2.xs.length x.2.cap]=some (dPart vs (d++[x])):=by
  have hl:(iis vs++fl Pi.v (d.map (·.2))).length=4+i * 1:=by rw [List.length_append,iis_len,fl_pi,List.length_map,List.length_map,hv,hd,Nat.mul_one]
  unfold dPart
  rw [← List.append_assoc,← hl,setE_mid _ (by rw [List.length_singleton,List.length_replicate];omega),hd,List.length_append,List.length_singleton,hd,List.map_append,fl_pi,fl_pi,List.map_append]
  rw [show 4 - i=(4 - (i+1))+1 by omega,List.replicate_succ]
  simp
theorem sin_get {ls:List (List Int)} {vs:List Int} {i:Nat} {xs:List Int} {v:Int} (h1:ls[i]? = some xs) (h2:vs[i]? = some v):(sinD ls vs)[i]? = some (v,xs.drop v.toNat):=by
  have h3:(ls.zip vs)[i]? = some (xs,v):=by rw [List.getElem?_zip_eq_some];exact ⟨h1,h2⟩
  rw [sinD,List.getElem?_map,h3];rfl
theorem sin_fst {ls:List (List Int)} {vs:List Int} (h:vs.length≤ls.length):(sinD ls vs).map (·.1)=vs:=by
  unfold sinD
  rw [List.map_map]
  exact List.map_snd_zip h
theorem since_ok (bs:Nat) (gs:List Lg) (hg:GOk gs) (vs:List Int) (hv:vs.length=4) (w:World) (hs:SetR w bs gs) :
    CallM Tryz.prog 152 [.pointer (some ⟨bs,0,none⟩),.agg ⟨iis vs⟩] [] w fun v L=>(VOk (lgs gs) vs∧∃ d,v = .tuple #[.agg ⟨dlV d⟩,.int .i64 0]∧pur d=sinD (lgs gs) vs∧DlO d L) ∨ (¬ VOk (lgs gs) vs∧v = .tuple #[.agg ⟨noD⟩,.int .i64 10]):=by
  have hlog:=fun i g hi w1 (hc:Chg [] w w1)=>log_ok bs gs hg i g hi w1 (hs.chg hc)
  match vs,hv with
  | [v0,v1,v2,v3],hv =>
  refine enterK (tb:=tb) Tryz.func152 rfl Tryz.ntmps152 rfl ?_
  simp only [iis,List.map_cons,List.map_nil]
  repeat' (first|(apply R.is1;first|(apply R.isBin;(apply R.pure;exact rfl;(apply Ok1.eqlP;(iterate 5 exact rfl))))|(apply R.pure;exact rfl;first|(apply Ok1.move;exact rfl)|(apply Ok1.load;exact rfl;(apply Ld.ownk;exact rfl;exact rfl;(focus (repeat' first|exact At.head|apply At.tail);done);exact rfl))|(apply Ok1.assign;exact rfl)|(apply Ok1.build;(iterate 5 exact rfl)))|(apply R.box;(iterate 3 exact rfl);intro)|(apply R.alloc;(iterate 3 exact rfl);intro))|(apply R.is0;(apply R.store;(iterate 6 exact rfl);exact Upd.head;exact rfl))|apply R.nil|(apply T.is;first|apply T.seq|apply T.region|apply T.block|apply T.skip|(apply T.cond_f;exact rfl)))
  rename_i b3 b4 b6
  obtain ⟨vs,hvs⟩:∃ vs,vs=[v0,v1,v2,v3]:=⟨_,rfl⟩
  have hiv:[Value.int .i64 v0,.int .i64 v1,.int .i64 v2,.int .i64 v3]=iis vs:=by rw [hvs];rfl
  have hd0:[Value.int .i64 v0,.int .i64 v1,.int .i64 v2,.int .i64 v3,.slice none 0 0,.slice none 0 0,.slice none 0 0,.slice none 0 0]=dPart vs []:=by rw [hvs];rfl
  rw [hiv,hd0]
  rw [← hvs] at hv ⊢
  clear hiv hd0 hvs
  apply T.loopK (α:=Nat × Dl × Lst) (I:=fun y=>y.1≤4∧y.2.1.length=y.1∧pur y.2.1=(sinD (lgs gs) vs).take y.1∧DlO y.2.1 y.2.2∧∀ x∈((lgs gs).zip vs).take y.1,0≤x.2∧x.2≤(x.1.length:Int))
    (σi:=fun y=>[(0,.pointer (some ⟨bs,0,none⟩)),(4,.pointer (some ⟨b4,0,none⟩)),(6,.pointer (some ⟨b6,0,none⟩)),(15,.agg ⟨iis vs⟩),(16,.int .i64 y.1)]) (Li:=fun y=>(b4,.cells ⟨noD⟩ 76 (0,0))::(b6,.cells ⟨dPart vs y.2.1⟩ 76 (0,0))::y.2.2) (μ:=fun y=>4 - y.1) (i0:=(0,[],[]))
  · exact ⟨Nat.zero_le _,rfl,rfl,DlO.nil _,by simp⟩
  · exact ⟨rfl,rfl,rfl,rfl,rfl,trivial⟩
  · (focus (repeat' first|exact Keep.nil _|exact Ext.one _ _|apply Keep.cons|apply Ext.cons);done)
  · rintro ⟨i,d,M⟩ ⟨hi,hdl,hpur,hdo,hall⟩
    simp only at hi hdl hpur hdo hall ⊢
    rcases Nat.lt_or_ge i 4 with hlt|hge
    · obtain ⟨g,hx1⟩:∃ g,gs[i]? = some g:=⟨_,List.getElem?_eq_getElem (by rw [hg.len];omega)⟩
      obtain ⟨v,hx2⟩:∃ v,vs[i]? = some v:=⟨_,List.getElem?_eq_getElem (by omega)⟩
      have hgl:=hg.le g (List.mem_of_getElem? hx1)
      have h1:=hlog i g hx1
      have hlx:(lgs gs)[i]? = some g.xs:=by rw [lgs,List.getElem?_map,hx1];rfl
      have hzx:((lgs gs).zip vs)[i]? = some (g.xs,v):=by rw [List.getElem?_zip_eq_some];exact ⟨hlx,hx2⟩
      have hzm:=List.mem_of_getElem? hzx
      have hf:(iis vs)[i * 1]? = some (.int .i64 v):=by rw [Nat.mul_one,iis,List.getElem?_map,hx2];rfl
      by_cases c1:v < 0
      · repeat' (first|(apply R.is1;first|(apply R.isBin;(apply R.pure;exact rfl;(apply Ok1.lss_t;exact rfl;exact rfl;omega)))|(apply R.isCall;(apply R.callE (vs:=[.pointer (some ⟨bs,0,none⟩),.int .i64 i]);(iterate 3 exact rfl);exact Ext.none _;intro w1 hw1;exact h1 w1 hw1.chg;rintro z Lo ⟨ov,hov,rfl,rfl⟩;rw [slV_eq hov]))|(apply R.pure;exact rfl;first|(apply Ok1.index1;(iterate 6 exact rfl);omega;omega;exact hf)|(apply Ok1.move;exact rfl)|(apply Ok1.assign;exact rfl)|(apply Ok1.build;(iterate 5 exact rfl))|(apply Ok1.pick_t;exact rfl;exact rfl)))|(apply R.is0;(apply R.store;(iterate 6 exact rfl);(focus (repeat' first|exact Upd.head|apply Upd.right);done);exact rfl))|(apply R.isG;(apply R.guard_not;(iterate 3 exact rfl)))|apply R.nil|(apply T.is;first|apply T.seq|apply T.region|apply T.block|apply T.skip|apply T.ret|(apply T.cond_t;exact rfl)))
        (apply RetOk.ct;exact rfl;((apply Ld.ownk;exact rfl;exact rfl;(focus (repeat' first|exact At.head|apply At.right);done);exact rfl));exact rfl)
        refine ⟨_,Keep.nil _,.inr ⟨fun h=>?_,rfl⟩⟩
        have:=(h _ hzm).1
        simp only at this
        omega
      · obtain ⟨k,rfl⟩:∃ k:Nat,v=k:=⟨v.toNat,by omega⟩
        by_cases c2:g.xs.length < k
        · repeat' (first|(apply R.is1;first|(apply R.isBin;(apply R.pure;exact rfl;first|(apply Ok1.lss_t;exact rfl;exact rfl;omega)|(apply Ok1.lss_f;exact rfl;exact rfl;omega)|(apply Ok1.gtr_t;exact rfl;exact rfl;omega)))|(apply R.isCall;first|(apply R.callE (vs:=[.pointer (some ⟨bs,0,none⟩),.int .i64 i]);(iterate 3 exact rfl);exact Ext.none _;intro w1 hw1;exact h1 w1 hw1.chg;rintro z Lo ⟨ov,hov,rfl,rfl⟩;rw [slV_eq hov])|(apply R.pure;exact rfl;(apply Ok1.lenS;(iterate 3 exact rfl))))|(apply R.pure;exact rfl;first|(apply Ok1.index1;(iterate 6 exact rfl);omega;omega;exact hf)|(apply Ok1.move;exact rfl)|(apply Ok1.assign;exact rfl)|(apply Ok1.build;(iterate 5 exact rfl))|(apply Ok1.pick_f;exact rfl;exact rfl)))|(apply R.is0;(apply R.store;(iterate 6 exact rfl);(focus (repeat' first|exact Upd.head|apply Upd.right);done);exact rfl))|(apply R.isG;(apply R.guard_run;exact rfl;exact rfl))|apply R.nil|(apply T.is;first|apply T.seq|apply T.region|apply T.block|apply T.skip|apply T.ret|(apply T.cond_t;exact rfl)))
          (apply RetOk.ct;exact rfl;((apply Ld.ownk;exact rfl;exact rfl;(focus (repeat' first|exact At.head|apply At.right);done);exact rfl));exact rfl)
          refine ⟨_,Keep.nil _,.inr ⟨fun h=>?_,rfl⟩⟩
          have:=(h _ hzm).2
          simp only at this
          omega
        · have hset:=fun x=>dPart_set hv hdl hlt x
          repeat' (first|(apply R.is1;first|(apply R.isBin;(apply R.pure;exact rfl;first|(apply Ok1.add64;exact rfl;exact rfl;omega;omega)|(apply Ok1.lss_t;exact rfl;exact rfl;omega)|(apply Ok1.lss_f;exact rfl;exact rfl;omega)|(apply Ok1.gtr_f;exact rfl;exact rfl;omega)))|(apply R.isCall;first|(apply R.callE (vs:=[.pointer (some ⟨bs,0,none⟩),.int .i64 i]);(iterate 3 exact rfl);exact Ext.none _;intro w1 hw1;exact h1 w1 hw1.chg;rintro z Lo ⟨ov,hov,rfl,rfl⟩;rw [slV_eq hov])|(apply R.pure;exact rfl;(apply Ok1.lenS;(iterate 3 exact rfl))))|(apply R.pure;exact rfl;first|(apply Ok1.index1;(iterate 6 exact rfl);omega;omega;exact hf)|(apply Ok1.mid3 (i:=k) (j:=g.xs.length) (sz:=1);(iterate 8 exact rfl);omega;exact ovc_le hov)|(apply Ok1.move;exact rfl)|(apply Ok1.fieldAddr;(iterate 5 exact rfl))|(apply Ok1.assign;exact rfl)|(apply Ok1.indexAddrA;(iterate 5 exact rfl);omega;omega)|(apply Ok1.pick_f;exact rfl;exact rfl)))|(apply R.is0;(apply R.store;(iterate 6 exact rfl);(focus (repeat' first|exact Upd.head|apply Upd.tail|apply Upd.right);done);have h9:=hset ((k:Int),⟨sufP (ovp ov) g.xs.length k 1,g.xs.length - k,g.xs.drop k⟩);simp only [List.length_drop] at h9;exact h9))|(apply R.isG;(apply R.guard_run;exact rfl;exact rfl))|apply R.nil|(apply T.is;first|apply T.seq|apply T.region|apply T.block|apply T.skip|(apply T.cond_t;exact rfl)|(apply T.cond_f;exact rfl)))
          refine ⟨(i+1,d++[((k:Int),⟨sufP (ovp ov) g.xs.length k 1,g.xs.length - k,g.xs.drop k⟩)],blkL 3 ov (iis g.xs)++M),⟨by omega,by rw [List.length_append,hdl];rfl,?_,hdo.snoc hov k (by omega) (Nat.le_refl _) (Nat.le_refl _),?_⟩,by simp only;omega,⟨rfl,rfl,rfl,rfl,rfl,trivial⟩,?_⟩
          · rw [List.take_add_one,sin_get hlx hx2,← hpur,pur,List.map_append]
            rfl
          · intro x hx
            rw [List.take_add_one,hzx,List.mem_append] at hx
            rcases hx with hx|hx
            · exact hall x hx
            · simp only [Option.toList_some,List.mem_singleton] at hx
              rw [hx]
              simp only
              omega
          · simp only
            (focus (repeat' first|exact Ext.one _ _|exact Ext.here _ _|exact Ext.all _|apply Keep.cons|apply Keep.app|apply Keep.last|apply Ext.app);done)
    · have him:i=4:=by omega
      subst him
      have hsl:(sinD (lgs gs) vs).length=4:=by simp [sinD,lgs,hg.len,hv]
      rw [List.take_of_length_le (by omega)] at hpur
      rw [List.take_of_length_le (by simp [lgs,hg.len,hv])] at hall
      have hfst:d.map (·.1)=vs:=by
        have:=congrArg (List.map (·.1)) hpur
        rw [sin_fst (by simp [lgs,hg.len,hv]),pur,List.map_map] at this
        exact this
      have hdd:dPart vs d=dlV d:=by
        rw [dPart,hdl,Nat.sub_self,List.replicate_zero,List.append_nil,dlV,hfst]
      have hlen:(dlV d).length=8:=by simp [dlV,fl_pi,iis_len,hdl]
      have hone:(dlV d).all Value.oneCell'=true:=by
        rw [dlV,List.all_append,iis_one,fl_pi]
        simp [Value.oneCell']
      rw [hdd]
      repeat' (first|(apply R.is1;first|(apply R.isBin;(apply R.pure;exact rfl;(apply Ok1.lss_f;exact rfl;exact rfl;omega)))|(apply R.pure;exact rfl;first|(apply Ok1.load;exact rfl;apply Ld.ownk;exact rfl;exact rfl;(focus (repeat' first|exact At.head|apply At.tail);done);exact subE_all hlen)|(apply Ok1.assign;exact rfl)))|(apply R.is0;(apply R.store;(iterate 4 exact rfl);exact hlen;exact hone;exact Upd.head;exact setE_all (by rw [hlen];rfl)))|apply R.nil|(apply T.is;first|apply T.seq|apply T.region|apply T.exit|apply T.ret|(apply T.cond_f;exact rfl)))
      all_goals apply RetOk.ct
      all_goals first|exact rfl|skip
      all_goals first|(apply Ld.ownk;exact rfl;exact rfl;exact At.head;exact subE_all hlen)|skip
      exact ⟨_,by (focus (repeat' first|exact Ext.all _|apply Keep.last|apply Ext.cons);done),.inl ⟨hall,d,rfl,hpur,hdo⟩⟩
theorem lens_of {gs:List Lg} {ls:List (List Int)} (h:lgs gs=ls):lens gs=iis (ls.map fun x=>(x.length:Int)):=by
  rw [lens_eq,← h,lgs,List.map_map];rfl
/-- Logs as they must be. -/
def LOk (ls:List (List Int)):Prop:=∀ xs∈ls,SR xs∧xs.Nodup∧xs.length≤256
theorem LOk.rev {ls:List (List Int)} (h:LOk ls) (seed:Int) (xs:List Int):LOk (revL ls seed xs):=by
  unfold revL
  by_cases h0:revE ls seed xs=0
  · rw [if_pos h0]
    unfold revE at h0
    split at h0
    · cases h0
    · rename_i hr
      split at h0
      · cases h0
      · rename_i hn
        split at h0
        · cases h0
        · rename_i hf
          intro ys hy
          rcases List.mem_or_eq_of_mem_set hy with h1|rfl
          · exact h ys h1
          · refine ⟨fun y hy=>?_,Classical.not_not.1 hn,by omega⟩
            rcases List.mem_append.1 hy with h2|h2
            · rw [List.getD_eq_getElem?_getD] at h2
              cases hg:ls[seed.toNat]? with
              | none=>rw [hg] at h2;simp at h2
              | some zs =>
                rw [hg] at h2
                exact (h zs (List.mem_of_getElem? hg)).1 y h2
            · exact (Classical.not_not.1 fun hs=>hr (.inr (.inr hs))) y h2
  · rw [if_neg h0];exact h
theorem je_whole {xs:List Int} {k:Nat} (hk:k≤xs.length) (hn:xs.Nodup) (hl:xs.length≤256):jE xs (xs.drop k) k=0∧jL xs (xs.drop k) k=xs:=by
  have hb:both xs (xs.drop k) k=xs.length - k:=by unfold both;rw [List.length_drop];omega
  have ha:jAll xs (xs.drop k) k=xs:=by rw [jAll,hb,List.drop_drop,List.drop_of_length_le (by omega),List.append_nil]
  have he:jE xs (xs.drop k) k=0:=by
    unfold jE
    rw [hb,ha,if_neg (fun h=>h rfl),if_neg (fun h=>h hn),if_neg (by omega)]
  exact ⟨he,by rw [jL,if_pos he,ha]⟩
theorem app_eq {ls:List (List Int)} {dd:List (Int × List Int)} (hd:DR dd) (h9:∀ x∈ls.zip dd,x.2.1≤(x.1.length:Int)) (h0:∀ x∈ls.zip dd,JE x=0):appX ls dd=0:=by
  unfold appX
  rw [if_pos hd,appE,if_neg,if_neg,if_neg]
  · rintro ⟨x,hx,h⟩;rw [h0 x hx] at h;cases h
  · rintro ⟨x,hx,h⟩;rw [h0 x hx] at h;cases h
  · rintro ⟨x,hx,h⟩;have:=h9 x hx;omega
theorem sin_dr {ls:List (List Int)} {vs:List Int} (h:LOk ls) (hv:VOk ls vs):DR (sinD ls vs):=by
  intro y hy
  obtain ⟨x,hx,rfl⟩:=List.mem_map.1 hy
  have h1:=h x.1 (List.of_mem_zip hx).1
  have h2:=hv x hx
  refine ⟨h2.1,by omega,by simp only [List.length_drop];omega,fun z hz=>h1.1 z (List.mem_of_mem_drop hz)⟩
theorem app_whole {ls:List (List Int)} {vs:List Int} (hl:vs.length=ls.length) (h:LOk ls) (hv:VOk ls vs):appX ls (sinD ls vs)=0∧appL ls (sinD ls vs)=ls∧appN ls (sinD ls vs)=0:=by
  have hz:ls.zip (sinD ls vs)=(ls.zip vs).map fun x=>(x.1,x.2,x.1.drop x.2.toNat):=by
    have:ls=(ls.zip vs).map (·.1):=by rw [List.map_fst_zip (by omega)]
    conv=>lhs;rw [this];arg 2;unfold sinD;rw [← this]
    rw [List.zip_map']
  have hk:∀ x∈ls.zip vs,x.2.toNat≤x.1.length∧(x.2.toNat:Int)=x.2:=fun x hx=>by have:=hv x hx;omega
  have hj:∀ x∈ls.zip vs,JE (x.1,x.2,x.1.drop x.2.toNat)=0∧JL (x.1,x.2,x.1.drop x.2.toNat)=x.1:=fun x hx=>by
    have h1:=h x.1 (List.of_mem_zip hx).1
    exact je_whole (hk x hx).1 h1.2.1 h1.2.2
  have hx0:appX ls (sinD ls vs)=0:=by
    refine app_eq (sin_dr h hv) ?_ ?_
    · rw [hz]
      intro y hy
      obtain ⟨x,hx,rfl⟩:=List.mem_map.1 hy
      exact (hv x hx).2
    · rw [hz]
      intro y hy
      obtain ⟨x,hx,rfl⟩:=List.mem_map.1 hy
      exact (hj x hx).1
  refine ⟨hx0,?_,?_⟩
  · rw [appL,if_pos hx0,hz,List.map_map]
    have:(ls.zip vs).map (JL ∘ fun x=>(x.1,x.2,x.1.drop x.2.toNat))=(ls.zip vs).map (·.1):=List.map_congr_left fun x hx=>(hj x hx).2
    rw [this,List.map_fst_zip (by omega)]
  · rw [appN,if_pos hx0,hz,List.map_map]
    have:(ls.zip vs).map ((fun x:Jx=>((JL x).length:Int) - x.1.length) ∘ fun x=>(x.1,x.2,x.1.drop x.2.toNat))=(ls.zip vs).map fun _=>(0:Int):=List.map_congr_left fun x hx=>by simp only [Function.comp_apply,(hj x hx).2];omega
    rw [this]
    generalize ls.zip vs=l
    induction l with
    | nil=>rfl
    | cons a l ih=>simpa using ih
def encL (x:Int × List Int):List Int:=numsI 1 [x.1,(x.2.length:Int)]++numsI 1 x.2
def encD (dd:List (Int × List Int)):List Int:=dd.flatMap encL
theorem nums1_len (xs:List Int):(numsI 1 xs).length=2 * xs.length:=by
  induction xs with
  | nil=>rfl
  | cons x l ih =>
    simp only [numsI,List.flatMap_cons,List.length_append,List.length_cons] at *
    simp only [numI,List.length_cons,List.length_nil]
    omega
theorem encL_len (x:Int × List Int):(encL x).length=4+2 * x.2.length:=by
  rw [encL,List.length_append,nums1_len,nums1_len];rfl
theorem encD_snoc {dd:List (Int × List Int)} {i:Nat} {x:Int × List Int} (h:dd[i]? = some x):encD (dd.take (i+1))=encD (dd.take i)++encL x:=by
  unfold encD
  rw [List.take_add_one,h,List.flatMap_append]
  simp
theorem nums_byt (s:Nat) (xs:List Int):Byt (numsI s xs):=by
  intro y hy
  obtain ⟨x,hx,h⟩:=List.mem_flatMap.1 hy
  exact num_byt s x y h
theorem encD_byt (dd:List (Int × List Int)):Byt (encD dd):=by
  intro y hy
  obtain ⟨x,hx,h⟩:=List.mem_flatMap.1 hy
  rcases List.mem_append.1 h with h|h
  · exact nums_byt _ _ y h
  · exact nums_byt _ _ y h
theorem i_at {xs:List Int} {i:Nat} {x:Int} (h:xs[i]? = some x):(iis xs)[i * 1]? = some (.int .i64 x):=by rw [Nat.mul_one,iis,List.getElem?_map,h];rfl
theorem dok_fits {x:Int × Pi} (h:DOk1 x):(∀ y∈[x.1,(x.2.xs.length:Int)],Fits 1 y)∧∀ y∈x.2.xs,Fits 1 y:=by
  obtain ⟨h1,h2,h3,h4⟩:=h
  refine ⟨fun y hy=>?_,fun y hy=>?_⟩
  · simp only [List.mem_cons,List.not_mem_nil,or_false] at hy
    rcases hy with rfl|rfl
    · exact ⟨h1,.inr (.inl ⟨rfl,by omega⟩)⟩
    · exact ⟨by omega,.inr (.inl ⟨rfl,by omega⟩)⟩
  · have:=h4 y hy
    exact ⟨by omega,.inr (.inl ⟨rfl,this.2⟩)⟩
def BRes (bs:List Int) (v:Value) (L:Lst):Prop:=∃ ov,OvOk 1 ov bs.length (u8s bs)∧v = .tuple #[slV ov bs.length,.int .i64 0]∧L=blkL 5 ov (u8s bs)
theorem wbytes_c (d:Dl) (hl:d.length=4) (h40:∀ x∈d,x.2.xs.length≤160) (hle:∀ i,(encD ((pur d).take i)).length≤336) (hd:DOk d) (w:World) (hr:∀ x∈d,RdSl w x.2.p iV x.2.xs) :
    CallM Tryz.prog 80 [.agg ⟨dlV d⟩] [] w (BRes (encD (pur d))):=by
  have hck:=fun w1 (hc:Chg [] w w1)=>rcheck_ok d hl (fun x hx=>by have:=h40 x hx;omega) w1 fun x hx=>(hr x hx).chg' hc (fun _=>Off.nil _)
  rw [if_pos hd] at hck
  have hl8:(dlV d).length=8:=by simp [dlV,fl_pi,iis_len,hl]
  have hfr:=dl_froms hl
  have hcells:=fun i x h=>dl_log hl (i:=i) (x:=x) h
  unfold BRes
  refine enterK (tb:=tb) Tryz.func80 rfl Tryz.ntmps80 rfl ?_
  repeat' (first|(apply R.is1;first|(apply R.isBin;(apply R.pure;exact rfl;(apply Ok1.neq_f;exact rfl;exact rfl;omega)))|(apply R.isCall;(apply R.callV (vs:=[.agg ⟨dlV d⟩]);(iterate 3 exact rfl);intro w1 hw1;exact hck w1 hw1.chg))|(apply R.pure;exact rfl;first|(apply Ok1.load;exact rfl;first|(apply Ld.ownk;exact rfl;exact rfl;(focus (repeat' first|exact At.head|apply At.tail);done);exact subE_all hl8)|(apply Ld.ownk;exact rfl;exact rfl;(focus (repeat' first|exact At.head|apply At.tail);done);exact hfr))|(apply Ok1.move;exact rfl)|(apply Ok1.fieldAddr;(iterate 5 exact rfl))|(apply Ok1.assign;exact rfl))|(apply R.box;(iterate 3 exact rfl);intro)|(apply R.alloc;(iterate 3 exact rfl);intro))|apply R.nil|(apply T.is;first|apply T.seq|apply T.region|apply T.block|apply T.skip|(apply T.cond_f;exact rfl)))
  rename_i bd bw
  have hpl:(pur d).length=4:=by rw [pur,List.length_map,hl]
  apply T.loopK (α:=Nat × Ov) (I:=fun y=>y.1≤4∧OvOk 1 y.2 (encD ((pur d).take y.1)).length (u8s (encD ((pur d).take y.1)))) (σi:=fun y=>[(1,.pointer (some ⟨bd,0,none⟩)),(5,.pointer (some ⟨bw,0,none⟩)),(14,.agg ⟨iis (d.map (·.1))⟩),(15,.int .i64 y.1)])
    (Li:=fun y=>(bd,.cells ⟨dlV d⟩ 76 (0,0))::WL bw y.2 (encD ((pur d).take y.1))) (μ:=fun y=>4 - y.1) (i0:=(0,none))
  · exact ⟨Nat.zero_le _,OvOk.start 1⟩
  · exact ⟨rfl,rfl,rfl,rfl,trivial⟩
  · (focus (repeat' first|exact Keep.nil _|exact Ext.one _ _|apply Keep.cons|apply Ext.cons);done)
  · rintro ⟨i,ov⟩ ⟨hi,hov⟩
    simp only at hi hov ⊢
    rcases Nat.lt_or_ge i 4 with hlt|hge
    · obtain ⟨x,hx⟩:∃ x,d[i]? = some x:=⟨_,List.getElem?_eq_getElem (by omega)⟩
      have hxm:=List.mem_of_getElem? hx
      have hxp:(pur d)[i]? = some (x.1,x.2.xs):=by rw [pur,List.getElem?_map,hx];rfl
      have hfx:(iis (d.map (·.1)))[i * 1]? = some (.int .i64 x.1):=i_at (by rw [List.getElem?_map,hx];rfl)
      have hlx:=hcells i x hx
      have hx40:=h40 x hxm
      obtain ⟨f1,f2⟩:=dok_fits (hd x hxm)
      have hrx:=hr x hxm
      have hli:=hle i
      have hn1:=fun p w1 h1 h2=>numbers_ok bw ov (encD ((pur d).take i)) hov 1 p 2 2 [x.1,(x.2.xs.length:Int)] rfl f1 (by simp only [List.length_cons,List.length_nil];omega) w1 h1 h2
      have hn2:=fun ov1 hov1 w1 h1 h2=>numbers_ok bw ov1 (encD ((pur d).take i)++numsI 1 [x.1,(x.2.xs.length:Int)]) hov1 1 x.2.p x.2.xs.length x.2.cap x.2.xs rfl f2 (by rw [List.length_append,nums1_len];simp only [List.length_cons,List.length_nil];omega) w1 h1 h2
      have hsn:=encD_snoc hxp
      rw [encL,← List.append_assoc] at hsn
      simp only [← hsn] at hn2
      generalize encD ((pur d).take i)=B0 at *
      generalize hB2:encD ((pur d).take (i+1))=B2 at *
      generalize B0++numsI 1 [x.1,(x.2.xs.length:Int)]=B1 at *
      repeat' (first|(apply R.is1;first|(apply R.isBin;(apply R.pure;exact rfl;first|(apply Ok1.add64;exact rfl;exact rfl;omega;omega)|(apply Ok1.lss_t;exact rfl;exact rfl;omega)))|(apply R.pure;exact rfl;first|(apply Ok1.index1;(iterate 6 exact rfl);omega;omega;exact hfx)|(apply Ok1.move;exact rfl)|(apply Ok1.assign;exact rfl)))|apply R.nil|(apply T.is;first|(apply T.drawC (id:=8) [0] (by decide);((apply A.tk 0;exact rfl;kernel_rfl;(apply Ok1.move;exact rfl))<;>(apply A.tk 1;exact rfl;kernel_rfl;(apply Ok1.move;exact rfl))<;>(apply A.tk 2;exact rfl;kernel_rfl;(apply Ok1.fieldAddr;(iterate 5 exact rfl)))<;>(apply A.tk 3;exact rfl;kernel_rfl;(apply Ok1.indexAddrA;(iterate 5 exact rfl);omega;omega))<;>(apply A.tk 4;exact rfl;kernel_rfl;(apply Ok1.load;exact rfl;apply Ld.own1;exact rfl;exact rfl;exact At.head;exact hlx))<;>(apply A.tk 5;exact rfl;kernel_rfl;(apply Ok1.lenS;(iterate 3 exact rfl)))<;>(apply A.tk 8;exact rfl;kernel_rfl;(apply Ok1.move;exact rfl))<;>(apply A.tk 9;exact rfl;kernel_rfl;(apply Ok1.fieldAddr;(iterate 5 exact rfl)))<;>(apply A.tk 10;exact rfl;kernel_rfl;(apply Ok1.indexAddrA;(iterate 5 exact rfl);omega;omega))<;>(apply A.tk 11;exact rfl;kernel_rfl;(apply Ok1.load;exact rfl;apply Ld.own1;exact rfl;exact rfl;exact At.head;exact hlx))<;>(apply A.one 6;kernel_rfl;exact rfl;(((apply R.buildSlice;(iterate 12 exact rfl);intro)));apply R.nil;refine ⟨?_,?_⟩;(focus (repeat' first|exact trivial|exact At.head|apply At.tail|refine ⟨?_,?_⟩)))<;>(apply A.one 7;kernel_rfl;exact rfl;(((apply R.callE (Li:=WL bw ov B0) (vs:=[.pointer (some ⟨bw,0,none⟩),.int .i64 1,.slice (some ⟨_,0,none⟩) 2 2]);(iterate 3 exact rfl);(focus (repeat' first|exact Ext.all _|apply Ext.cons);done);intro w1 hw1;exact hn1 _ w1 (RdSl.of (junk:=[]) hw1 (by exact At.head) rfl) (fun _=>Off.of hw1 (by (focus (repeat' first|exact Ext.all _|apply Ext.cons);done)) (by exact At.head));rintro v Lo ⟨ov1,rfl,hov1,rfl⟩)));apply R.nil;refine ⟨?_,?_⟩;(focus (repeat' first|exact trivial|exact At.head|apply At.tail|apply At.right|refine ⟨?_,?_⟩)))<;>(apply A.one 12;kernel_rfl;exact rfl;(((apply R.callE (Li:=WL bw ov1 B1) (vs:=[.pointer (some ⟨bw,0,none⟩),.int .i64 1,.slice x.2.p x.2.xs.length x.2.cap]);(iterate 3 exact rfl);(focus ((repeat' (exact Ext.here _ _));done));intro w1 hw1;exact hn2 ov1 hov1 w1 (hrx.chg' hw1.chg (fun _=>Off.nil _)) (RdSl.old iV_len (by decide) hrx (fun _=>Off.nil _) hw1 (by (focus ((repeat' (exact Ext.here _ _));done))));rintro v Lo ⟨ov2,rfl,hov2,rfl⟩)));apply R.nil;refine ⟨?_,?_⟩;(focus (repeat' first|exact trivial|exact At.head|apply At.tail|apply At.right|refine ⟨?_,?_⟩)))<;>(apply A.done;kernel_rfl)))|apply T.seq|apply T.region|apply T.block|apply T.skip|(apply T.cond_t;exact rfl)))
      subst hB2
      exact ⟨(i+1,ov2),⟨by simp only;omega,hov2⟩,by simp only;omega,⟨rfl,rfl,rfl,rfl,trivial⟩,by (focus (repeat' first|exact Ext.one _ _|exact Ext.here _ _|apply Keep.cons|apply Keep.last|apply Ext.cons|apply Ext.app);done)⟩
    · have hi4:i=4:=by omega
      subst hi4
      have hli:=hle 4
      rw [List.take_of_length_le (by omega)] at hov hli ⊢
      have hwo:=fun w1 h1 h2=>wout_ok bw ov (encD (pur d)) hov (by omega) w1 h1 h2
      generalize encD (pur d)=B at *
      simp only [WL]
      repeat' (first|(apply R.is1;first|(apply R.isBin;(apply R.pure;exact rfl;(apply Ok1.lss_f;exact rfl;exact rfl;omega)))|(apply R.isCall;(apply R.callE (vs:=[.pointer (some ⟨bw,0,none⟩)]);(iterate 3 exact rfl);exact Ext.none _;intro w1 hw1;exact hwo w1 (hw1.get _ _ (At.mem (by (focus (repeat' first|exact At.head|apply At.tail);done)))) (rdown hov hw1 (Ext.mem (by (focus (repeat' first|exact Ext.all _|apply Ext.cons);done))));rintro v Lo ⟨ov2,hov2,rfl,rfl⟩))|(apply R.pure;exact rfl;first|(apply Ok1.assign;exact rfl)|(apply Ok1.extract;exact rfl;exact rfl)))|apply R.nil|(apply T.is;first|apply T.seq|apply T.region|apply T.exit|apply T.ret|(apply T.cond_f;exact rfl)))
      (apply RetOk.tt;exact rfl;exact rfl)
      exact ⟨_,by (focus (repeat' first|exact Ext.here _ _|apply Keep.last);done),ov2,hov2,rfl,rfl⟩
theorem dbytes_c (d:Dl) (hl:d.length=4) (h40:∀ x∈d,x.2.xs.length≤160) (hle:∀ i,(encD ((pur d).take i)).length≤336) (hd:DOk d) (w:World) (hr:∀ x∈d,RdSl w x.2.p iV x.2.xs) :
    CallM Tryz.prog 95 [.agg ⟨dlV d⟩] [] w fun v L=>∃ ov,OvOk 1 ov (encD (pur d)).length (u8s (encD (pur d)))∧v=slV ov (encD (pur d)).length∧L=blkL 5 ov (u8s (encD (pur d))):=by
  have hl8:(dlV d).length=8:=by simp [dlV,fl_pi,iis_len,hl]
  have hcells:=fun i x h=>dl_log hl (i:=i) (x:=x) h
  have hpl:(pur d).length=4:=by rw [pur,List.length_map,hl]
  refine enterK (tb:=tb) Tryz.func95 rfl Tryz.ntmps95 rfl ?_
  repeat' (first|(apply R.is1;first|(apply R.pure;exact rfl;(apply Ok1.assign;exact rfl))|(apply R.box;(iterate 3 exact rfl);intro))|apply R.nil|(apply T.is;first|apply T.seq|apply T.region|apply T.block))
  rename_i bd
  apply T.loopK (α:=Nat × Ov) (I:=fun y=>y.1≤4∧OvOk 1 y.2 (encD ((pur d).take y.1)).length (u8s (encD ((pur d).take y.1)))) (σi:=fun y=>[(1,.pointer (some ⟨bd,0,none⟩)),(3,slV y.2 (encD ((pur d).take y.1)).length),(4,.int .i64 y.1)])
    (Li:=fun y=>(bd,.cells ⟨dlV d⟩ 82 (0,0))::blkL 5 y.2 (u8s (encD ((pur d).take y.1)))) (μ:=fun y=>4 - y.1) (i0:=(0,none))
  · exact ⟨Nat.zero_le _,OvOk.start 1⟩
  · exact ⟨rfl,rfl,rfl,trivial⟩
  · (focus (repeat' first|exact Keep.nil _|exact Ext.one _ _|apply Keep.cons);done)
  · rintro ⟨i,ov⟩ ⟨hi,hov⟩
    simp only at hi hov ⊢
    rcases Nat.lt_or_ge i 4 with hlt|hge
    · obtain ⟨x,hx⟩:∃ x,d[i]? = some x:=⟨_,List.getElem?_eq_getElem (by omega)⟩
      have hxm:=List.mem_of_getElem? hx
      have hxp:(pur d)[i]? = some (x.1,x.2.xs):=by rw [pur,List.getElem?_map,hx];rfl
      have hfx:(dlV d)[0+i * 1]? = some (.int .i64 x.1):=by
        rw [Nat.zero_add,dlV,List.getElem?_append_left (by rw [iis_len,List.length_map,hl];omega)]
        exact i_at (by rw [List.getElem?_map,hx];rfl)
      have hlx:=hcells i x hx
      have hx40:=h40 x hxm
      obtain ⟨f1,f2⟩:=dok_fits (hd x hxm)
      have hrx:=hr x hxm
      have hli:=hle i
      have ha:=fun w1=>dout_ok 1 x.1 (f1 _ (by simp)) w1
      have hb:=fun w1=>dout_ok 1 x.2.xs.length (f1 _ (by simp)) w1
      have hla:=num_len 1 x.1
      have hlb:=num_len 1 (x.2.xs.length:Int)
      have hsn:=encD_snoc hxp
      rw [encL,numsI,List.flatMap_cons,List.flatMap_cons,List.flatMap_nil,List.append_nil,← List.append_assoc,← List.append_assoc] at hsn
      simp only at hsn
      generalize encD ((pur d).take i)=B0 at *
      generalize hB2:encD ((pur d).take (i+1))=B2 at *
      generalize numI 1 x.1=N1 at *
      generalize numI 1 (x.2.xs.length:Int)=N2 at *
      repeat' (first|(apply R.is1;first|(apply R.isBin;(apply R.pure;exact rfl;(apply Ok1.lss_t;exact rfl;exact rfl;omega)))|(apply R.isCall;first|(apply R.callE (vs:=[.agg ⟨fldV 1 x.1⟩]);(iterate 3 exact rfl);exact Ext.none _;intro w1 hw1;exact ha w1;rintro v Lo ⟨ova,hova,rfl,rfl⟩)|(apply R.callE (vs:=[.agg ⟨fldV 1 x.2.xs.length⟩]);(iterate 3 exact rfl);exact Ext.none _;intro w1 hw1;exact hb w1;rintro v Lo ⟨ovb,hovb,rfl,rfl⟩)|(apply R.appendSl (ov:=ov) (n:=B0.length) (old:=u8s B0) (ov2:=ova) (m:=N1.length) (news:=u8s N1) (e3:=5);(iterate 12 exact rfl);exact hov;exact hova;(focus (repeat' first|exact Ext.all _|apply Ext.cons|apply Ext.app);done);exact Ext.mem (by (focus ((repeat' (exact Ext.here _ _));done)));exact u8s_one _;omega;intro ov1 hov1;rw [← u8s_app,← List.length_append];rw [← u8s_app,← List.length_append] at hov1)|(apply R.appendSl (ov:=ov1) (n:=(B0++N1).length) (old:=u8s (B0++N1)) (ov2:=ovb) (m:=N2.length) (news:=u8s N2) (e3:=5);(iterate 12 exact rfl);exact hov1;exact hovb;(focus (repeat' first|exact Ext.here _ _|apply Ext.app);done);exact Ext.mem (by (focus ((repeat' (exact Ext.here _ _));done)));exact u8s_one _;(rw [List.length_append];omega);intro ov2 hov2;rw [← u8s_app,← List.length_append];rw [← u8s_app,← List.length_append] at hov2)|(apply R.pure;exact rfl;(apply Ok1.lenS;(iterate 3 exact rfl))))|(apply R.pure;exact rfl;first|(apply Ok1.load;exact rfl;first|(apply Ld.own1;exact rfl;exact rfl;(focus (repeat' first|exact At.head|apply At.right);done);exact hfx)|(apply Ld.own1;exact rfl;exact rfl;(focus (repeat' first|exact At.head|apply At.right);done);exact hlx))|(apply Ok1.move;exact rfl)|(apply Ok1.fieldAddr;(iterate 5 exact rfl))|(apply Ok1.assign;exact rfl)|(apply Ok1.indexAddrA;(iterate 5 exact rfl);omega;omega)|(apply Ok1.build;(iterate 5 exact rfl))))|apply R.nil|(apply T.is;first|apply T.seq|apply T.region|apply T.block|apply T.skip|(apply T.cond_t;exact rfl)))
      have hsn2:B2=(B0++N1++N2)++numsI 1 (x.2.xs.take x.2.xs.length):=by rw [List.take_length];exact hsn.symm ▸ rfl
      have hb3:(B0++N1++N2).length≤420:=by simp only [List.length_append];omega
      generalize B0++N1++N2=B3 at *
      apply T.loopK (α:=Nat × Ov) (I:=fun y=>y.1≤x.2.xs.length∧OvOk 1 y.2 (B3++numsI 1 (x.2.xs.take y.1)).length (u8s (B3++numsI 1 (x.2.xs.take y.1)))) (σi:=fun y=>[(1,.pointer (some ⟨bd,0,none⟩)),(3,slV y.2 (B3++numsI 1 (x.2.xs.take y.1)).length),(4,.int .i64 i),(5,.int .i64 y.1)])
        (Li:=fun y=>(bd,.cells ⟨dlV d⟩ 82 (0,0))::blkL 5 y.2 (u8s (B3++numsI 1 (x.2.xs.take y.1)))) (μ:=fun y=>x.2.xs.length - y.1) (i0:=(0,ov2))
      · refine ⟨Nat.zero_le _,?_⟩
        simpa [numsI] using hov2
      · simp only [List.take_zero,numsI,List.flatMap_nil,List.append_nil]
        exact ⟨rfl,rfl,rfl,rfl,trivial⟩
      · simp only [List.take_zero,numsI,List.flatMap_nil,List.append_nil]
        (focus (repeat' first|exact Ext.one _ _|exact Ext.here _ _|apply Keep.cons|apply Keep.last|apply Ext.app);done)
      · rintro ⟨k,ov3⟩ ⟨hk,hov3⟩
        simp only at hk hov3 ⊢
        rcases Nat.lt_or_ge k x.2.xs.length with hkl|hkg
        · obtain ⟨y,hy⟩:∃ y,x.2.xs[k]? = some y:=⟨_,List.getElem?_eq_getElem (by omega)⟩
          obtain ⟨b,o,hpe,H⟩:=hrx.at hy
          replace H:=H 1 iV_len
          have hyf:=f2 y (List.mem_of_getElem? hy)
          have hc:=fun w1=>dout_ok 1 y hyf w1
          have hnl:=nums1_len (x.2.xs.take k)
          have htl:(x.2.xs.take k).length=k:=by rw [List.length_take];omega
          have hlc:=num_len 1 y
          have htk:=nums_take (s:=1) hy
          have hbl:(B3++numsI 1 (x.2.xs.take k)).length≤760:=by rw [List.length_append];omega
          have htk2:B3++numsI 1 (x.2.xs.take (k+1))=B3++numsI 1 (x.2.xs.take k)++numI 1 y:=by rw [htk,List.append_assoc]
          generalize B3++numsI 1 (x.2.xs.take k)=B4 at *
          generalize numI 1 y=N3 at *
          repeat' (first|(apply R.is1;first|(apply R.isBin;(apply R.pure;exact rfl;first|(apply Ok1.add64;exact rfl;exact rfl;omega;omega)|(apply Ok1.lss_t;exact rfl;exact rfl;omega)))|(apply R.isCall;first|(apply R.callE (vs:=[.agg ⟨fldV 1 y⟩]);(iterate 3 exact rfl);exact Ext.none _;intro w1 hw1;exact hc w1;rintro v Lo ⟨ovc,hovc,rfl,rfl⟩)|(apply R.appendSl (ov:=ov3) (n:=B4.length) (old:=u8s B4) (ov2:=ovc) (m:=N3.length) (news:=u8s N3) (e3:=5);(iterate 12 exact rfl);exact hov3;exact hovc;(focus (repeat' first|exact Ext.all _|apply Ext.cons|apply Ext.app);done);exact Ext.mem (by (focus ((repeat' (exact Ext.here _ _));done)));exact u8s_one _;omega;intro ov4 hov4;rw [← u8s_app,← List.length_append];rw [← u8s_app,← List.length_append] at hov4)|(apply R.pure;exact rfl;(apply Ok1.lenS;(iterate 3 exact rfl))))|(apply R.pure;exact rfl;first|(apply Ok1.load;exact rfl;first|(apply Ld.own1;exact rfl;exact rfl;(focus (repeat' first|exact At.head|apply At.tail);done);exact hlx)|(apply Ld.row1 (f:=0) H;exact rfl;exact List.not_mem_nil;(iterate 3 exact rfl)))|(apply Ok1.indexAddrP;(iterate 4 exact rfl);exact hpe;exact rfl;omega;omega)|(apply Ok1.move;exact rfl)|(apply Ok1.fieldAddr;(iterate 5 exact rfl))|(apply Ok1.assign;exact rfl)|(apply Ok1.indexAddrA;(iterate 5 exact rfl);omega;omega)|(apply Ok1.build;(iterate 5 exact rfl))))|apply R.nil|(apply T.is;first|apply T.seq|apply T.region|apply T.block|apply T.skip|(apply T.cond_t;exact rfl)))
          refine ⟨(k+1,ov4),?_⟩
          simp only [htk2]
          exact ⟨⟨by omega,hov4⟩,by omega,⟨rfl,rfl,rfl,rfl,trivial⟩,by (focus (repeat' first|exact Ext.one _ _|exact Ext.here _ _|apply Keep.cons|apply Keep.last|apply Ext.app);done)⟩
        · have hkk:k=x.2.xs.length:=by omega
          subst hkk
          rw [← hsn2] at hov3 ⊢
          subst hB2
          repeat' (first|(apply R.is1;first|(apply R.isBin;(apply R.pure;exact rfl;first|(apply Ok1.add64;exact rfl;exact rfl;omega;omega)|(apply Ok1.lss_f;exact rfl;exact rfl;omega)))|(apply R.isCall;(apply R.pure;exact rfl;(apply Ok1.lenS;(iterate 3 exact rfl))))|(apply R.pure;exact rfl;first|(apply Ok1.load;exact rfl;(apply Ld.own1;exact rfl;exact rfl;exact At.head;exact hlx))|(apply Ok1.move;exact rfl)|(apply Ok1.fieldAddr;(iterate 5 exact rfl))|(apply Ok1.assign;exact rfl)|(apply Ok1.indexAddrA;(iterate 5 exact rfl);omega;omega)))|apply R.nil|(apply T.is;first|apply T.seq|apply T.region|apply T.exit|(apply T.cond_f;exact rfl)))
          exact ⟨(i+1,ov3),⟨by simp only;omega,hov3⟩,by simp only;omega,⟨rfl,rfl,rfl,trivial⟩,by (focus (repeat' first|exact Ext.one _ _|exact Ext.all _|apply Keep.cons|apply Keep.last);done)⟩
    · have hi4:i=4:=by omega
      subst hi4
      have hli:=hle 4
      rw [List.take_of_length_le (by omega)] at hov hli ⊢
      generalize encD (pur d)=B at *
      repeat' (first|(apply R.is1;first|(apply R.isBin;(apply R.pure;exact rfl;(apply Ok1.lss_f;exact rfl;exact rfl;omega)))|(apply R.pure;exact rfl;first|(apply Ok1.move;exact rfl)|(apply Ok1.assign;exact rfl)))|apply R.nil|(apply T.is;first|apply T.seq|apply T.region|apply T.exit|apply T.ret|(apply T.cond_f;exact rfl)))
      (apply RetOk.t;exact rfl)
      exact ⟨_,by (focus (repeat' first|exact Ext.all _|apply Keep.last|apply Ext.cons);done),ov,hov,rfl,rfl⟩
/-- A delta's cells of which the first so many are there. -/
def padV (d:Dl):List Value:=iis (d.map (·.1)++List.replicate (4 - d.length) 0)++(fl Pi.v (d.map (·.2))++List.replicate (4 - d.length) (.slice none 0 0))
theorem pad_all {d:Dl} (h:d.length=4):padV d=dlV d:=by simp [padV,dlV,h]
theorem pad0:padV []=noD:=rfl
theorem pad_from {d:Dl} {i:Nat} (hd:d.length=i) (hi:i < 4) (f:Int):setE (padV d) (0+i * 1) [.int .i64 f]=some (padV (d++[(f,⟨none,0,[]⟩)])):=by
  have e:padV d=iis (d.map (·.1))++([.int .i64 0]++(iis (List.replicate (3 - i) 0)++(fl Pi.v (d.map (·.2))++List.replicate (4 - i) (.slice none 0 0)))):=by
    rw [padV,iis_app,hd,show 4 - i=(3 - i)+1 by omega,List.replicate_succ,List.append_assoc]
    rfl
  have hl:(iis (d.map (·.1))).length=0+i * 1:=by rw [iis_len,List.length_map,hd];omega
  rw [e,← hl,setE_mid _ (by simp)]
  congr 1
  simp only [padV,List.length_append,hd,List.length_singleton,List.map_append,iis_app,fl_pi,show 4 - (i+1)=3 - i by omega,show 4 - i=(3 - i)+1 by omega,List.replicate_succ]
  simp [iis]
theorem pad_log {d:Dl} {i:Nat} (hd:d.length=i) (hi:i < 4) (f:Int) (x:Pi) (y:Pi):setE (padV (d++[(f,x)])) (4+i * 1) [.slice y.p y.xs.length y.cap]=some (padV (d++[(f,y)])):=by
  have e:∀ z:Pi,padV (d++[(f,z)])=(iis (d.map (·.1)++[f]++List.replicate (3 - i) 0)++fl Pi.v (d.map (·.2)))++([.slice z.p z.xs.length z.cap]++List.replicate (3 - i) (.slice none 0 0)):=by
    intro z
    rw [padV,List.length_append,hd,List.length_singleton,List.map_append,List.map_append,fl_pi,fl_pi,List.map_append,show 4 - (i+1)=3 - i by omega]
    simp
  have hl:(iis (d.map (·.1)++[f]++List.replicate (3 - i) 0)++fl Pi.v (d.map (·.2))).length=4+i * 1:=by
    rw [List.length_append,iis_len,fl_pi,List.length_map,List.length_append,List.length_append,List.length_map,List.length_replicate,List.length_map,List.length_singleton,hd]
    omega
  rw [e x,e y,← hl,setE_mid _ (by simp)]
  simp
theorem pad_at {d:Dl} {i:Nat} (hd:d.length=i) (hi:i < 4) (f:Int) (y:Pi):(padV (d++[(f,y)]))[4+i * 1]? = some (.slice y.p y.xs.length y.cap):=by
  have h:=setE_spec (pad_log hd hi f y y)
  rw [h.2.2,if_pos ⟨Nat.le_refl _,by simp⟩]
  simp
def ru0:RS:=⟨false,⟨0,0,0,0,0,0,0,0⟩,none,[],none,0,0,[],0⟩
theorem ru0_ok:RuI ru0 []:=⟨OvOk.start 1,Sfx.refl _ _,rfl,Nat.le_refl _,rfl,rfl,(fun x hx=>by cases hx),(fun h=>by cases h),fun _=>rfl⟩
/-- A number's two bytes;those of a log;those of all logs. -/
def pB (n:Int):List Int:=[IntKind.u8.wrap (n / 256),IntKind.u8.wrap n]
def lB (xs:List Int):List Int:=((xs.length:Int)::xs).flatMap pB
def prI (ls:List (List Int)):List Int:=ls.flatMap lB
theorem pB_byt (n:Int):Byt (pB n):=by
  intro x hx
  simp only [pB,List.mem_cons,List.not_mem_nil,or_false] at hx
  rcases hx with rfl|rfl<;>(rw [u8_mod];omega)
theorem fpB_len (zs:List Int):(zs.flatMap pB).length=2 * zs.length:=by
  induction zs with
  | nil=>rfl
  | cons z zs ih=>rw [List.flatMap_cons,List.length_append,ih];simp [pB];omega
theorem pr_len {ls:List (List Int)} (h:∀ xs∈ls,xs.length≤256):(prI ls).length≤514 * ls.length:=by
  induction ls with
  | nil=>simp [prI]
  | cons x ls ih =>
    have h1:=h x List.mem_cons_self
    have h2:=ih fun y hy=>h y (List.mem_cons_of_mem _ hy)
    have h3:(lB x).length=2 * (x.length+1):=by rw [lB,fpB_len,List.length_cons]
    simp only [prI,List.flatMap_cons,List.length_append,List.length_cons] at *
    omega
theorem pr_snoc {ls:List (List Int)} {i:Nat} {xs:List Int} (h:ls[i]? = some xs):prI (ls.take (i+1))=prI (ls.take i)++lB xs:=by
  unfold prI
  rw [List.take_add_one,h,List.flatMap_append]
  simp
theorem print_gen (s:Value) (ls:List (List Int)) (hl:ls.length=4) (hle:∀ xs∈ls,xs.length≤256) (w:World)
    (hlog:∀ (i:Nat) (xs:List Int),ls[i]? = some xs→∀ w1,Chg [] w w1→CallM Tryz.prog 106 [s,.int .i64 i] [] w1 fun v L=>∃ ov,OvOk 1 ov xs.length (iis xs)∧v=slV ov xs.length∧L=blkL 3 ov (iis xs)) :
    CallW Tryz.prog 103 [s] w fun v _=>v = .agg ⟨u8s (shaI (prI ls))⟩:=by
  refine enterW (tb:=tb) Tryz.func103 rfl Tryz.ntmps103 rfl ?_
  repeat' (first|(apply R.is1;first|(apply R.pure;exact rfl;(apply Ok1.move;exact rfl))|(apply R.alloc;(iterate 3 exact rfl);intro))|apply R.nil|(apply T.is;first|apply T.seq|apply T.region|apply T.block))
  rename_i b2 b3
  apply T.loopK (α:=Nat × RS) (I:=fun y=>y.1≤4∧RuI y.2 (prI (ls.take y.1))) (σi:=fun y=>[(0,s),(2,.pointer (some ⟨b2,0,none⟩)),(3,.pointer (some ⟨b3,0,none⟩)),(8,.int .i64 y.1)])
    (Li:=fun y=>(b2,.cells ⟨List.replicate 32 (.int .u8 0)⟩ 98 (0,0))::RL b3 y.2) (μ:=fun y=>4 - y.1) (i0:=(0,ru0))
  · exact ⟨Nat.zero_le _,ru0_ok⟩
  · exact ⟨rfl,rfl,rfl,rfl,trivial⟩
  · simp only [RL]
    (focus (repeat' first|exact Keep.nil _|exact Ext.one _ _|apply Keep.cons|apply Ext.cons);done)
  · rintro ⟨i,st⟩ ⟨hi,hI⟩
    simp only at hi hI ⊢
    have hpl:=pr_len (ls:=ls.take i) fun xs hx=>hle xs (List.mem_of_mem_take hx)
    have htl:(ls.take i).length≤4:=by rw [List.length_take,hl];omega
    rcases Nat.lt_or_ge i 4 with hlt|hge
    · obtain ⟨xs,hx⟩:∃ xs,ls[i]? = some xs:=⟨_,List.getElem?_eq_getElem (by omega)⟩
      have hxl:=hle xs (List.mem_of_getElem? hx)
      have h1:=hlog i xs hx
      have hsn:=pr_snoc hx
      have hlb:lB xs=((xs.length:Int)::xs).flatMap pB:=rfl
      rw [hlb] at hsn
      have hcat:∀ p1 p2 c2,icat [⟨p1,1,[(xs.length:Int)]⟩,⟨p2,c2,xs⟩]=(xs.length:Int)::xs:=fun _ _ _=>by simp [icat]
      have hcon:∀ (bq b1:Nat) (ov:Ov) w1,OvOk 1 ov xs.length (iis xs)→RdSl w1 (some ⟨bq,0,none⟩) Pi.v [⟨some ⟨b1,0,none⟩,1,[(xs.length:Int)]⟩,⟨ovp ov,ovc ov xs.length,xs⟩]→RdSl w1 (some ⟨b1,0,none⟩) iV [(xs.length:Int)]→RdSl w1 (ovp ov) iV xs→CallM Tryz.prog 87 [.slice (some ⟨bq,0,none⟩) 2 2] [] w1 fun v L=>∃ ov',OvOk 1 ov' ((xs.length:Int)::xs).length (iis ((xs.length:Int)::xs))∧v=slV ov' ((xs.length:Int)::xs).length∧L=blkL 3 ov' (iis ((xs.length:Int)::xs)):=by
        intro bq b1 ov w1 hov h2 h3 h4
        have:=iconcat_ok (some ⟨bq,0,none⟩) 2 2 [⟨some ⟨b1,0,none⟩,1,[(xs.length:Int)]⟩,⟨ovp ov,ovc ov xs.length,xs⟩] rfl (by rw [hcat,List.length_cons];omega) (by decide) w1 h2 (by
          intro z hz
          simp only [List.mem_cons,List.not_mem_nil,or_false] at hz
          rcases hz with rfl|rfl
          · exact h3
          · exact h4)
        rw [hcat] at this
        exact this
      have hzl:((xs.length:Int)::xs).length≤257:=by rw [List.length_cons];omega
      repeat' (first|(apply R.is1;first|(apply R.isBin;(apply R.pure;exact rfl;(apply Ok1.lss_t;exact rfl;exact rfl;omega)))|(apply R.isCall;first|(apply R.callE (vs:=[s,.int .i64 i]);(iterate 3 exact rfl);exact Ext.none _;intro w1 hw1;exact h1 w1 hw1.chg;rintro v Lo ⟨ov,hov,rfl,rfl⟩;rw [slV_eq hov])|(apply R.callE (vs:=[.slice (some ⟨_,0,none⟩) 2 2]);(iterate 3 exact rfl);exact Ext.none _;intro w1 hw1;exact hcon _ _ ov w1 hov (RdSl.of (junk:=[]) hw1 (by exact At.head) rfl) (RdSl.of (junk:=[]) hw1 (by (focus (repeat' first|exact At.head|apply At.tail);done)) rfl) (irdown hov hw1 (Ext.mem (by (focus (repeat' first|exact Ext.here _ _|apply Ext.cons);done))));rintro v Lo ⟨ovz,hovz,rfl,rfl⟩;rw [slV_eq hovz])|(apply R.pure;exact rfl;(apply Ok1.lenS;(iterate 3 exact rfl))))|(apply R.pure;exact rfl;first|(apply Ok1.move;exact rfl)|(apply Ok1.assign;exact rfl))|(apply R.buildSlice;(iterate 12 exact rfl);intro))|apply R.nil|(apply T.is;first|apply T.seq|apply T.region|apply T.block|apply T.skip|(apply T.cond_t;exact rfl)))
      generalize ((xs.length:Int)::xs)=zs at *
      apply T.loopK (α:=Nat × RS) (I:=fun y=>y.1≤zs.length∧RuI y.2 (prI (ls.take i)++(zs.take y.1).flatMap pB)) (σi:=fun y=>[(0,s),(2,.pointer (some ⟨b2,0,none⟩)),(3,.pointer (some ⟨b3,0,none⟩)),(8,.int .i64 i),(19,.slice (ovp ovz) zs.length (ovc ovz zs.length)),(20,.int .i64 zs.length),(21,.int .i64 y.1)])
        (Li:=fun y=>(b2,.cells ⟨List.replicate 32 (.int .u8 0)⟩ 98 (0,0))::(RL b3 y.2++blkL 3 ovz (iis zs))) (μ:=fun y=>zs.length - y.1) (i0:=(0,st))
      · exact ⟨Nat.zero_le _,by simpa using hI⟩
      · exact ⟨rfl,rfl,rfl,rfl,rfl,rfl,rfl,trivial⟩
      · (focus (repeat' first|exact Ext.one _ _|exact Ext.here _ _|exact Ext.all _|apply Keep.cons|apply Keep.app|apply Keep.last|apply Ext.cons|apply Ext.app);done)
      · rintro ⟨j,st1⟩ ⟨hj,hI1⟩
        simp only at hj hI1 ⊢
        rcases Nat.lt_or_ge j zs.length with hjl|hjg
        · obtain ⟨y,hy⟩:∃ y,zs[j]? = some y:=⟨_,List.getElem?_eq_getElem (by omega)⟩
          obtain ⟨b9,j9,k9,rfl⟩:=ovsome hovz (by omega)
          have hcy:∀ w1,RdSl w1 (ovp (some (b9,j9,k9))) iV zs→w1.cell? ⟨b9,0+j * 1,none⟩=some (.int .i64 y):=by
            intro w1 h1
            obtain ⟨b',o',hpe',H'⟩:=h1.at hy
            cases hpe'
            exact H' 1 iV_len 0 (by decide)
          have hbl:(prI (ls.take i)++(zs.take j).flatMap pB).length≤3000:=by
            rw [List.length_append,fpB_len,List.length_take]
            omega
          have hca:∀ bp:Nat,cat [⟨some ⟨bp,0,none⟩,2,pB y⟩]=pB y:=fun _=>by simp [cat]
          have hpl2:(pB y).length=2:=rfl
          have hbd:∀ bp:Nat,((prI (ls.take i)++(zs.take j).flatMap pB)++cat [⟨some ⟨bp,0,none⟩,2,pB y⟩]).length≤1000000000:=fun bp=>by rw [hca,List.length_append,hpl2];omega
          have hadd:=fun (bp bq:Nat) w1 h2 h3 h4 h5=>rAdd_ok b3 st1 (prI (ls.take i)++(zs.take j).flatMap pB) hI1 (some ⟨bq,0,none⟩) 1 1 [⟨some ⟨bp,0,none⟩,2,pB y⟩] rfl (by rw [hca];exact pB_byt y) (hbd bp) (by decide) w1 h2 h3 (fun z hz=>by rw [List.mem_singleton.1 hz];exact ⟨h4,h5⟩)
          have hnx:prI (ls.take i)++(zs.take (j+1)).flatMap pB=(prI (ls.take i)++(zs.take j).flatMap pB)++pB y:=by
            rw [List.take_add_one,hy,List.flatMap_append,List.append_assoc]
            simp
          repeat' (first|(apply R.is1;first|(apply R.isBin;(apply R.pure;exact rfl;first|(apply Ok1.lss_t;exact rfl;exact rfl;omega)|(apply Ok1.shr;exact rfl;exact rfl;omega;exact Nat.le_of_ble_eq_true rfl;(exact pwE8))))|(apply R.pure;exact rfl;first|(apply Ok1.indexAddrP (b:=b9) (o:=0);(iterate 6 exact rfl);omega;omega)|(apply Ok1.load;exact rfl;apply Ld.of1;exact rfl;exact rfl;intro w1 hw1;exact hcy w1 (irdown hovz hw1 (Ext.mem (by (focus (repeat' first|exact Ext.one _ _|apply Ext.cons|apply Ext.app);done)))))|(apply Ok1.move;exact rfl)|(apply Ok1.assign;exact rfl)|(apply Ok1.conv;(iterate 5 exact rfl)))|(apply R.buildSlice;(iterate 12 exact rfl);intro))|apply R.nil|(apply T.is;first|apply T.seq|apply T.region|apply T.block|apply T.skip|(apply T.cond_t;exact rfl)))
          rename_i bp bq
          repeat' (first|(apply R.is1;first|(apply R.isBin;(apply R.pure;exact rfl;(apply Ok1.add64;exact rfl;exact rfl;omega;omega)))|(apply R.isCall;(apply R.callE (Li:=RL b3 st1) (vs:=[.pointer (some ⟨b3,0,none⟩),.slice (some ⟨bq,0,none⟩) 1 1]);(iterate 3 exact rfl);(focus (repeat' first|exact Ext.here _ _|apply Ext.cons);done);intro w1 hw1;exact hadd bp bq w1 (RdSl.of (junk:=[]) hw1 (by exact At.head) rfl) (fun _=>Off.of (k:=0) hw1 (by (focus (repeat' first|exact Ext.here _ _|apply Ext.cons);done)) (by exact At.head)) (RdSl.of (v:=u8V) (rs:=pB y) (junk:=[]) hw1 (by (focus (repeat' first|exact At.head|apply At.tail);done)) rfl) (fun _=>Off.of (k:=0) hw1 (by (focus (repeat' first|exact Ext.here _ _|apply Ext.cons);done)) (by (focus (repeat' first|exact At.head|apply At.tail);done)));rintro v Lo ⟨st2,rfl,rfl,hI2,hon2⟩;rw [hca] at hI2))|(apply R.pure;exact rfl;(apply Ok1.move;exact rfl)))|apply R.nil|(apply T.is;apply T.region))
          exact ⟨(j+1,st2),⟨by simp only;omega,by simp only [hnx];exact hI2⟩,by simp only;omega,⟨rfl,rfl,rfl,rfl,rfl,rfl,rfl,trivial⟩,by (focus (repeat' first|exact Keep.nil _|exact Ext.one _ _|exact Ext.here _ _|apply Keep.cons|apply Keep.app|apply Ext.cons|apply Ext.app);done)⟩
        · have hjz:j=zs.length:=by omega
          subst hjz
          rw [List.take_length,← hsn] at hI1
          repeat' (first|(apply R.is1;first|(apply R.isBin;(apply R.pure;exact rfl;first|(apply Ok1.add64;exact rfl;exact rfl;omega;omega)|(apply Ok1.lss_f;exact rfl;exact rfl;omega)))|(apply R.pure;exact rfl;(apply Ok1.move;exact rfl)))|apply R.nil|(apply T.is;first|apply T.seq|apply T.region|apply T.exit|(apply T.cond_f;exact rfl)))
          exact ⟨(i+1,st1),⟨by simp only;omega,hI1⟩,by simp only;omega,⟨rfl,rfl,rfl,rfl,trivial⟩,by (focus (repeat' first|exact Ext.one _ _|exact Ext.here _ _|apply Keep.cons|apply Keep.last);done)⟩
    · have him:i=4:=by omega
      subst him
      rw [List.take_of_length_le (by omega)] at hI hpl
      have hsum:=fun w1 hb h2=>rSum_ok b3 st (prI ls) hI (by omega) w1 hb h2
      have hls:(u8s (shaI (prI ls))).length=32:=by rw [u8s_len,sha_len]
      have hone:=u8s_one (shaI (prI ls))
      have hset:∀ cs:List Value,cs.length=32→setE cs 0 (u8s (shaI (prI ls)))=some (u8s (shaI (prI ls))):=fun cs h=>setE_all (by rw [hls,h])
      have hsub:=subE_all hls
      generalize shaI (prI ls)=d0 at *
      repeat' (first|(apply R.is1;first|(apply R.isBin;(apply R.pure;exact rfl;(apply Ok1.lss_f;exact rfl;exact rfl;omega)))|(apply R.isCall;(apply R.callV (vs:=[.pointer (some ⟨b3,0,none⟩)]);(iterate 3 exact rfl);intro w1 hw1;exact hsum w1 (hw1.get _ _ (List.mem_cons_of_mem _ List.mem_cons_self)) (hI.rd hw1 (fun z hz=>List.mem_cons_of_mem _ (List.mem_cons_of_mem _ hz))))))|(apply R.is0;(apply R.store;(iterate 4 exact rfl);exact hls;exact hone;exact Upd.head;exact hset _ rfl))|apply R.nil|(apply T.is;first|apply T.seq|apply T.region|apply T.exit|apply T.ret|(apply T.cond_f;exact rfl)))
      all_goals apply RetOk.c
      all_goals first|exact rfl|skip
      all_goals (apply Ld.ownk;exact rfl;exact rfl;exact At.head;exact hsub)
theorem print_ok (bs:Nat) (gs:List Lg) (hg:GOk gs) (w:World) (hs:SetR w bs gs):CallW Tryz.prog 103 [.pointer (some ⟨bs,0,none⟩)] w fun v _=>v = .agg ⟨u8s (shaI (prI (lgs gs)))⟩ :=
  print_gen _ (lgs gs) (by rw [lgs,List.length_map,hg.len]) (fun xs hx=>by obtain ⟨g,hgm,rfl⟩:=List.mem_map.1 hx;exact hg.le g hgm) w fun i xs hi w1 hc=>by
    rw [lgs,List.getElem?_map] at hi
    cases hgi:gs[i]? with
    | none=>rw [hgi] at hi;cases hi
    | some g =>
      rw [hgi] at hi
      cases hi
      exact log_ok bs gs hg i g hgi w1 (hs.chg hc)
theorem lst32 {α:Type}:∀ (l:List α),l.length=32→∃ x0 x1 x2 x3 x4 x5 x6 x7 x8 x9 x10 x11 x12 x13 x14 x15 x16 x17 x18 x19 x20 x21 x22 x23 x24 x25 x26 x27 x28 x29 x30 x31,l=[x0,x1,x2,x3,x4,x5,x6,x7,x8,x9,x10,x11,x12,x13,x14,x15,x16,x17,x18,x19,x20,x21,x22,x23,x24,x25,x26,x27,x28,x29,x30,x31]:=by
  intro l h
  match l,h with
  | [x0,x1,x2,x3,x4,x5,x6,x7,x8,x9,x10,x11,x12,x13,x14,x15,x16,x17,x18,x19,x20,x21,x22,x23,x24,x25,x26,x27,x28,x29,x30,x31],_=>exact ⟨x0,x1,x2,x3,x4,x5,x6,x7,x8,x9,x10,x11,x12,x13,x14,x15,x16,x17,x18,x19,x20,x21,x22,x23,x24,x25,x26,x27,x28,x29,x30,x31,rfl⟩
theorem allc32 (l:List Int) (h:l.length=32):allOk (repK [.int .u8] 32) (u8s l)=true:=by
  obtain ⟨x0,x1,x2,x3,x4,x5,x6,x7,x8,x9,x10,x11,x12,x13,x14,x15,x16,x17,x18,x19,x20,x21,x22,x23,x24,x25,x26,x27,x28,x29,x30,x31,rfl⟩:=lst32 l h
  rfl
/-- A digest: versions,and eight bytes. -/
def dgV (vs p8:List Int):List Value:=iis vs++u8s p8
theorem dg_len {vs p8:List Int} (hv:vs.length=4) (hp:p8.length=8):(dgV vs p8).length=12:=by simp [dgV,iis_len,u8s_len,hv,hp]
theorem dg_one (vs p8:List Int):(dgV vs p8).all Value.oneCell'=true:=by rw [dgV,List.all_append,iis_one,u8s_one];rfl
theorem fill_dg (a b:Nat) {vs p8:List Int} (hv:vs.length=4) (hp:p8.length=8):fillE (fldPl [(a,0,4),(b,4,8)]) (dgV [0,0,0,0] [0,0,0,0,0,0,0,0]) [(0,.agg ⟨iis vs⟩),(1,.agg ⟨u8s p8⟩)]=some (dgV vs p8):=by
  match vs,hv,p8,hp with
  | [v0,v1,v2,v3],_,[x0,x1,x2,x3,x4,x5,x6,x7],_=>rfl
theorem u8i_inj:∀ {a b:List Int},u8s a=u8s b→a=b
  | [],[],_=>rfl
  | [],_::_,h=>by cases h
  | _::_,[],h=>by cases h
  | x::a,y::b,h=>by
    simp only [u8s,List.map_cons,List.cons.injEq,Value.int.injEq,true_and] at h
    obtain ⟨h1,h2⟩:=h
    have h3:a=b:=u8i_inj h2
    rw [h1,h3]
theorem dOf_gen (s:Value) (vs pr:List Int) (hv:vs.length=4) (hp:pr.length=32) (w:World) (hpr:∀ w1,Chg [] w w1→CallW Tryz.prog 103 [s] w1 fun v _=>v = .agg ⟨u8s pr⟩) (hve:∀ w1,Chg [] w w1→CallW Tryz.prog 70 [s] w1 fun v _=>v = .agg ⟨iis vs⟩) :
    CallW Tryz.prog 79 [s] w fun v _=>v = .agg ⟨dgV vs (pr.take 8)⟩:=by
  have hpl:(u8s pr).length=32:=by rw [u8s_len,hp]
  have hpo:=u8s_one pr
  have h8:(pr.take 8).length=8:=by rw [List.length_take,hp];rfl
  have hs8:subE (u8s pr) 0 8=some (u8s (pr.take 8)):=by
    have:u8s pr=u8s (pr.take 8)++u8s (pr.drop 8):=by rw [← u8s_app,List.take_append_drop]
    rw [this]
    exact subE_app _ _ (by rw [u8s_len,h8])
  have hset:∀ cs:List Value,cs.length=32→setE cs 0 (u8s pr)=some (u8s pr):=fun cs h=>setE_all (by rw [hpl,h])
  have hfill:=fun a b=>fill_dg a b hv h8
  have hdl:=dg_len hv h8
  have hdo:=dg_one vs (pr.take 8)
  have hset2:∀ cs:List Value,cs.length=12→setE cs 0 (dgV vs (pr.take 8))=some (dgV vs (pr.take 8)):=fun cs h=>setE_all (by rw [hdl,h])
  have hsub:=subE_all hdl
  generalize dgV vs (pr.take 8)=D at *
  generalize pr.take 8=p8 at *
  generalize u8s pr=P at *
  refine enterW (tb:=tb) Tryz.func79 rfl Tryz.ntmps79 rfl ?_
  repeat' (first|(apply R.is1;first|(apply R.isCall;(apply R.callV (vs:=[s]);(iterate 3 exact rfl);intro w1 hw1;exact hpr w1 hw1.chg))|(apply R.pure;exact rfl;(apply Ok1.move;exact rfl))|(apply R.alloc;(iterate 3 exact rfl);intro))|(apply R.is0;(apply R.store;(iterate 4 exact rfl);(exact hpl);(exact hpo);exact Upd.head;(exact hset _ rfl)))|apply R.nil|(apply T.is;first|(apply T.drawC (id:=2) [0] (by decide);((apply A.tk 0;exact rfl;kernel_rfl;(apply Ok1.move;exact rfl))<;>(apply A.call 1;exact rfl;exact rfl;kernel_rfl;kernel_rfl;kernel_rfl;exact rfl;exact rfl;(exact fun w1 hw1=>hve w1 hw1.chg))<;>(apply A.tk 2;exact rfl;kernel_rfl;(apply Ok1.sliceArrTo (i:=8);(iterate 5 exact rfl);decide))<;>(apply A.tk 3;exact rfl;kernel_rfl;(apply Ok1.arrAt;(iterate 3 exact rfl);decide))<;>(apply A.tk 4;exact rfl;kernel_rfl;(apply Ok1.load;exact rfl;apply Ld.ownk;exact rfl;exact rfl;exact At.head;exact hs8))<;>(apply A.tk 5;exact rfl;kernel_rfl;(apply Ok1.build;(iterate 4 exact rfl);exact hfill _ _))<;>(apply A.one 6;kernel_rfl;exact rfl;(((apply R.store;(iterate 4 exact rfl);(exact hdl);(exact hdo);(focus (repeat' first|exact Upd.head|apply Upd.tail);done);(exact hset2 _ rfl))));apply R.nil;refine ⟨?_,?_⟩;(focus ((repeat' (first|exact trivial|(refine ⟨?_,?_⟩;exact At.head))))))<;>(apply A.done;kernel_rfl)))|apply T.seq|apply T.region|apply T.ret))
  all_goals apply RetOk.c
  all_goals first|exact rfl|skip
  all_goals (apply Ld.ownk;exact rfl;exact rfl;(focus (repeat' first|exact At.head|apply At.tail);done);exact hsub)
theorem dOf_ok (bs:Nat) (gs:List Lg) (hg:GOk gs) (w:World) (hs:SetR w bs gs):CallW Tryz.prog 79 [.pointer (some ⟨bs,0,none⟩)] w fun v _=>v = .agg ⟨dgV ((lgs gs).map fun x=>(x.length:Int)) ((shaI (prI (lgs gs))).take 8)⟩:=by
  refine dOf_gen _ _ _ (by rw [List.length_map,lgs,List.length_map,hg.len]) (sha_len _) w (fun w1 hc=>print_ok bs gs hg w1 (hs.chg hc)) (fun w1 hc=>?_)
  have h:=versions_ok bs gs hg w1 (hs.chg hc)
  rw [lens_of rfl] at h
  exact h
theorem dright_ok (p:Option Addr) (n cap:Nat) (xs:List Int) (hn:n=xs.length) (hbig:n≤1000000000) (w:World) (h1:RdSl w p iV xs):CallW Tryz.prog 89 [.slice p n cap] w fun v _=>v = .bool (decide (SR xs)):=by
  subst hn
  refine enterW (tb:=tb) Tryz.func89 rfl Tryz.ntmps89 rfl ?_
  repeat' (first|(apply R.is1;(apply R.pure;exact rfl;(apply Ok1.assign;exact rfl)))|apply R.nil|(apply T.is;first|apply T.seq|apply T.region|apply T.block))
  apply T.loopK (α:=Nat) (I:=fun i=>i≤xs.length∧SR (xs.take i)) (σi:=fun i=>[(0,.slice p xs.length cap),(3,.int .i64 i)]) (Li:=fun _=>[]) (μ:=fun i=>xs.length - i) (i0:=0)
  · exact ⟨Nat.zero_le _,fun x hx=>by simp at hx⟩
  · exact ⟨rfl,rfl,trivial⟩
  · (focus ((repeat' (exact Keep.nil _));done))
  · intro i ⟨hi,htk⟩
    rcases Nat.lt_or_ge i xs.length with hlt|hge
    · obtain ⟨x,hx⟩:∃ x,xs[i]? = some x:=⟨_,List.getElem?_eq_getElem (by omega)⟩
      have hm:=List.mem_of_getElem? hx
      obtain ⟨b1,o1,hpe1,H1⟩:=h1.at hx
      replace H1:=H1 1 iV_len
      by_cases c1:x < 1
      · repeat' (first|(apply R.is1;first|(apply R.isBin;(apply R.pure;exact rfl;(apply Ok1.lss_t;exact rfl;exact rfl;omega)))|(apply R.isCall;(apply R.pure;exact rfl;(apply Ok1.lenS;(iterate 3 exact rfl))))|(apply R.pure;exact rfl;first|(apply Ok1.indexAddrP;(iterate 4 exact rfl);exact hpe1;exact rfl;omega;omega)|(apply Ok1.load;exact rfl;apply Ld.row0 H1;exact rfl;exact List.not_mem_nil;(iterate 3 exact rfl))|(apply Ok1.move;exact rfl)|(apply Ok1.assign;exact rfl)|(apply Ok1.pick_t;exact rfl;exact rfl)))|(apply R.isG;(apply R.guard_not;(iterate 3 exact rfl)))|apply R.nil|(apply T.is;first|apply T.seq|apply T.region|apply T.block|apply T.skip|apply T.ret|(apply T.cond_t;exact rfl)))
        all_goals (apply RetOk.t;exact rfl)
        all_goals rw [decide_eq_false]
        exact fun h=>by have:=(h x hm).1;omega
      · by_cases c2:65535 < x
        · repeat' (first|(apply R.is1;first|(apply R.isBin;(apply R.pure;exact rfl;first|(apply Ok1.lss_t;exact rfl;exact rfl;omega)|(apply Ok1.lss_f;exact rfl;exact rfl;omega)|(apply Ok1.gtr_t;exact rfl;exact rfl;omega)))|(apply R.isCall;(apply R.pure;exact rfl;(apply Ok1.lenS;(iterate 3 exact rfl))))|(apply R.pure;exact rfl;first|(apply Ok1.indexAddrP;(iterate 4 exact rfl);exact hpe1;exact rfl;omega;omega)|(apply Ok1.load;exact rfl;apply Ld.row0 H1;exact rfl;exact List.not_mem_nil;(iterate 3 exact rfl))|(apply Ok1.move;exact rfl)|(apply Ok1.assign;exact rfl)|(apply Ok1.pick_f;exact rfl;exact rfl)))|(apply R.isG;(apply R.guard_run;exact rfl;exact rfl))|apply R.nil|(apply T.is;first|apply T.seq|apply T.region|apply T.block|apply T.skip|apply T.ret|(apply T.cond_t;exact rfl)))
          all_goals (apply RetOk.t;exact rfl)
          all_goals rw [decide_eq_false]
          exact fun h=>by have:=(h x hm).2;omega
        · repeat' (first|(apply R.is1;first|(apply R.isBin;(apply R.pure;exact rfl;first|(apply Ok1.add64;exact rfl;exact rfl;omega;omega)|(apply Ok1.lss_t;exact rfl;exact rfl;omega)|(apply Ok1.lss_f;exact rfl;exact rfl;omega)|(apply Ok1.gtr_f;exact rfl;exact rfl;omega)))|(apply R.isCall;(apply R.pure;exact rfl;(apply Ok1.lenS;(iterate 3 exact rfl))))|(apply R.pure;exact rfl;first|(apply Ok1.indexAddrP;(iterate 4 exact rfl);exact hpe1;exact rfl;omega;omega)|(apply Ok1.load;exact rfl;apply Ld.row0 H1;exact rfl;exact List.not_mem_nil;(iterate 3 exact rfl))|(apply Ok1.move;exact rfl)|(apply Ok1.assign;exact rfl)|(apply Ok1.pick_f;exact rfl;exact rfl)))|(apply R.isG;(apply R.guard_run;exact rfl;exact rfl))|apply R.nil|(apply T.is;first|apply T.seq|apply T.region|apply T.block|apply T.skip|(apply T.cond_t;exact rfl)|(apply T.cond_f;exact rfl)))
          refine ⟨i+1,⟨by omega,?_⟩,by omega,⟨rfl,rfl,trivial⟩,by (focus ((repeat' (exact Keep.nil _));done))⟩
          intro y hy
          rw [List.take_add_one,hx,List.mem_append] at hy
          rcases hy with hy|hy
          · exact htk y hy
          · simp only [Option.toList_some,List.mem_singleton] at hy
            subst hy
            exact ⟨by omega,by omega⟩
    · repeat' (first|(apply R.is1;first|(apply R.isBin;(apply R.pure;exact rfl;(apply Ok1.lss_f;exact rfl;exact rfl;omega)))|(apply R.isCall;(apply R.pure;exact rfl;(apply Ok1.lenS;(iterate 3 exact rfl))))|(apply R.pure;exact rfl;first|(apply Ok1.move;exact rfl)|(apply Ok1.assign;exact rfl)))|apply R.nil|(apply T.is;first|apply T.seq|apply T.region|apply T.exit|apply T.ret|(apply T.cond_f;exact rfl)))
      (apply RetOk.t;exact rfl)
      rw [List.take_of_length_le hge] at htk
      rw [decide_eq_true htk]
theorem nodup_snoc {xs:List Int} {i:Nat} {x:Int} (h:xs[i]? = some x):(xs.take (i+1)).Nodup ↔ (xs.take i).Nodup∧x ∉ xs.take i:=by
  rw [List.take_add_one,h,Option.toList_some,List.nodup_append]
  constructor
  · intro ⟨h1,_,h3⟩
    exact ⟨h1,fun hm=>h3 x hm x (List.mem_singleton.2 rfl) rfl⟩
  · intro ⟨h1,h2⟩
    refine ⟨h1,by simp,fun a ha b hb he=>?_⟩
    rw [List.mem_singleton] at hb
    subst hb he
    exact h2 ha
theorem dtwice_ok (p:Option Addr) (n cap:Nat) (xs:List Int) (hn:n=xs.length) (hbig:n≤1000000000) (w:World) (h1:RdSl w p iV xs):CallW Tryz.prog 90 [.slice p n cap] w fun v _=>v = .bool (decide (¬ xs.Nodup)):=by
  subst hn
  refine enterW (tb:=tb) Tryz.func90 rfl Tryz.ntmps90 rfl ?_
  repeat' (first|(apply R.is1;(apply R.pure;exact rfl;(apply Ok1.assign;exact rfl)))|apply R.nil|(apply T.is;first|apply T.seq|apply T.region|apply T.block))
  apply T.loopK (α:=Nat) (I:=fun i=>i≤xs.length∧(xs.take i).Nodup) (σi:=fun i=>[(0,.slice p xs.length cap),(3,.int .i64 i)]) (Li:=fun _=>[]) (μ:=fun i=>xs.length - i) (i0:=0)
  · exact ⟨Nat.zero_le _,List.nodup_nil⟩
  · exact ⟨rfl,rfl,trivial⟩
  · (focus ((repeat' (exact Keep.nil _));done))
  · intro i ⟨hi,htk⟩
    rcases Nat.lt_or_ge i xs.length with hlt|hge
    · obtain ⟨x,hx⟩:∃ x,xs[i]? = some x:=⟨_,List.getElem?_eq_getElem (by omega)⟩
      obtain ⟨b1,o1,hpe1,H1⟩:=h1.at hx
      replace H1:=H1 1 iV_len
      repeat' (first|(apply R.is1;first|(apply R.isBin;(apply R.pure;exact rfl;(apply Ok1.lss_t;exact rfl;exact rfl;omega)))|(apply R.isCall;(apply R.pure;exact rfl;(apply Ok1.lenS;(iterate 3 exact rfl))))|(apply R.pure;exact rfl;first|(apply Ok1.move;exact rfl)|(apply Ok1.assign;exact rfl)))|apply R.nil|(apply T.is;first|apply T.seq|apply T.region|apply T.block|apply T.skip|(apply T.cond_t;exact rfl)))
      apply T.loopK (α:=Nat) (I:=fun k=>k≤i∧x ∉ xs.take k) (σi:=fun k=>[(0,.slice p xs.length cap),(3,.int .i64 i),(4,.int .i64 k)]) (Li:=fun _=>[]) (μ:=fun k=>i - k) (i0:=0)
      · exact ⟨Nat.zero_le _,by simp⟩
      · exact ⟨rfl,rfl,rfl,trivial⟩
      · (focus ((repeat' (exact Keep.nil _));done))
      · intro k ⟨hk,hnk⟩
        rcases Nat.lt_or_ge k i with hlk|hgk
        · obtain ⟨y,hy⟩:∃ y,xs[k]? = some y:=⟨_,List.getElem?_eq_getElem (by omega)⟩
          obtain ⟨b2,o2,hpe2,H2⟩:=h1.at hy
          replace H2:=H2 1 iV_len
          have hb2:=hpe2.symm.trans hpe1
          cases hb2
          by_cases hxy:x=y
          · repeat' (first|(apply R.is1;first|(apply R.isBin;(apply R.pure;exact rfl;(apply Ok1.lss_t;exact rfl;exact rfl;omega)))|(apply R.pure;exact rfl;first|(apply Ok1.move;exact rfl)|(apply Ok1.assign;exact rfl)))|apply R.nil|(apply T.is;first|(apply T.drawC (id:=7) [] (by decide);((apply A.tk 0;exact rfl;kernel_rfl;(apply Ok1.move;exact rfl))<;>(apply A.tk 1;exact rfl;kernel_rfl;(apply Ok1.move;exact rfl))<;>(apply A.tk 2;exact rfl;kernel_rfl;(apply Ok1.indexAddrP;(iterate 4 exact rfl);exact hpe1;exact rfl;omega;omega))<;>(apply A.tk 3;exact rfl;kernel_rfl;(apply Ok1.load;exact rfl;(apply Ld.row0 H1;exact rfl;exact List.not_mem_nil;(iterate 3 exact rfl))))<;>(apply A.tk 4;exact rfl;kernel_rfl;(apply Ok1.move;exact rfl))<;>(apply A.tk 5;exact rfl;kernel_rfl;(apply Ok1.move;exact rfl))<;>(apply A.tk 6;exact rfl;kernel_rfl;(apply Ok1.indexAddrP;(iterate 4 exact rfl);exact hpe1;exact rfl;omega;omega))<;>(apply A.tk 7;exact rfl;kernel_rfl;(apply Ok1.load;exact rfl;(apply Ld.row0 H2;exact rfl;exact List.not_mem_nil;(iterate 3 exact rfl))))<;>((apply A.tk 8;exact rfl;kernel_rfl;(apply Ok1.eql_t;exact rfl;exact rfl;omega)))<;>(apply A.done;kernel_rfl)))|apply T.seq|apply T.region|apply T.block|apply T.skip|apply T.ret|(apply T.cond_t;exact rfl)))
            all_goals (apply RetOk.t;exact rfl)
            all_goals rw [decide_eq_true]
            intro hnd
            have h3:=(List.getElem?_inj (l:=xs) (i:=k) (j:=i) (by omega) hnd).1 (by rw [hy,hx,hxy])
            omega
          · repeat' (first|(apply R.is1;first|(apply R.isBin;(apply R.pure;exact rfl;first|(apply Ok1.add64;exact rfl;exact rfl;omega;omega)|(apply Ok1.lss_t;exact rfl;exact rfl;omega)))|(apply R.pure;exact rfl;first|(apply Ok1.move;exact rfl)|(apply Ok1.assign;exact rfl)))|apply R.nil|(apply T.is;first|(apply T.drawC (id:=7) [] (by decide);((apply A.tk 0;exact rfl;kernel_rfl;(apply Ok1.move;exact rfl))<;>(apply A.tk 1;exact rfl;kernel_rfl;(apply Ok1.move;exact rfl))<;>(apply A.tk 2;exact rfl;kernel_rfl;(apply Ok1.indexAddrP;(iterate 4 exact rfl);exact hpe1;exact rfl;omega;omega))<;>(apply A.tk 3;exact rfl;kernel_rfl;(apply Ok1.load;exact rfl;(apply Ld.row0 H1;exact rfl;exact List.not_mem_nil;(iterate 3 exact rfl))))<;>(apply A.tk 4;exact rfl;kernel_rfl;(apply Ok1.move;exact rfl))<;>(apply A.tk 5;exact rfl;kernel_rfl;(apply Ok1.move;exact rfl))<;>(apply A.tk 6;exact rfl;kernel_rfl;(apply Ok1.indexAddrP;(iterate 4 exact rfl);exact hpe1;exact rfl;omega;omega))<;>(apply A.tk 7;exact rfl;kernel_rfl;(apply Ok1.load;exact rfl;(apply Ld.row0 H2;exact rfl;exact List.not_mem_nil;(iterate 3 exact rfl))))<;>((apply A.tk 8;exact rfl;kernel_rfl;(apply Ok1.eql_f;exact rfl;exact rfl;omega)))<;>(apply A.done;kernel_rfl)))|apply T.seq|apply T.region|apply T.block|apply T.skip|(apply T.cond_t;exact rfl)|(apply T.cond_f;exact rfl)))
            refine ⟨k+1,⟨by omega,?_⟩,by omega,⟨rfl,rfl,rfl,trivial⟩,by (focus ((repeat' (exact Keep.nil _));done))⟩
            rw [List.take_add_one,hy,Option.toList_some,List.mem_append,List.mem_singleton]
            rintro (h|h)
            · exact hnk h
            · exact hxy h
        · have hki:k=i:=by omega
          subst hki
          repeat' (first|(apply R.is1;first|(apply R.isBin;(apply R.pure;exact rfl;first|(apply Ok1.add64;exact rfl;exact rfl;omega;omega)|(apply Ok1.lss_f;exact rfl;exact rfl;omega)))|(apply R.pure;exact rfl;first|(apply Ok1.move;exact rfl)|(apply Ok1.assign;exact rfl)))|apply R.nil|(apply T.is;first|apply T.seq|apply T.region|apply T.exit|(apply T.cond_f;exact rfl)))
          exact ⟨k+1,⟨by omega,(nodup_snoc hx).2 ⟨htk,hnk⟩⟩,by omega,⟨rfl,rfl,trivial⟩,by (focus ((repeat' (exact Keep.nil _));done))⟩
    · repeat' (first|(apply R.is1;first|(apply R.isBin;(apply R.pure;exact rfl;(apply Ok1.lss_f;exact rfl;exact rfl;omega)))|(apply R.isCall;(apply R.pure;exact rfl;(apply Ok1.lenS;(iterate 3 exact rfl))))|(apply R.pure;exact rfl;first|(apply Ok1.move;exact rfl)|(apply Ok1.assign;exact rfl)))|apply R.nil|(apply T.is;first|apply T.seq|apply T.region|apply T.exit|apply T.ret|(apply T.cond_f;exact rfl)))
      (apply RetOk.t;exact rfl)
      rw [List.take_of_length_le hge] at htk
      rw [decide_eq_false (by simp [htk])]
/-- The document's set: four logs. -/
def DSL (bs:Nat) (gs:List Lg):Lst:=(bs,.cells ⟨setV gs⟩ 48 (0,0))::LsL gs
structure DSR (w:World) (bs:Nat) (gs:List Lg):Prop where
  b:w.heap[bs]? = some (.cells ⟨setV gs⟩ 48 (0,0))
  rd:∀ g∈gs,RdSl w (ovp g.ov) iV g.xs
theorem DSR.of {bs:Nat} {gs:List Lg} (hg:GOk gs) {w0 w:World} {S:List Nat} {L:Lst} (hw:Hp w0 S L w) (hin:∀ x∈DSL bs gs,x∈L):DSR w bs gs :=
  ⟨hw.get _ _ (hin _ List.mem_cons_self),fun g h=>Lg.rd (hg.ok g h) hw fun x hx=>hin _ (List.mem_cons_of_mem _ (mem_LsL h hx))⟩
theorem drevoke_ok (bs:Nat) (gs:List Lg) (hg:GOk gs) (seed:Int) (p:Option Addr) (n cap:Nat) (xs:List Int) (hn:n=xs.length) (hbig:n≤1000) (w:World) (hp:RdSl w p iV xs) (hoff:xs≠[]→Off p (blks (DSL bs gs))) :
    CallM Tryz.prog 22 [.pointer (some ⟨bs,0,none⟩),.int .i64 seed,.slice p n cap] (DSL bs gs) w fun v L=>∃ gs',v = .int .i64 (revE (lgs gs) seed xs)∧lgs gs'=revL (lgs gs) seed xs∧GOk gs' ∧ L=DSL bs gs':=by
  subst hn
  have hse:=fun w1 (hc:Chg (blks (DSL bs gs)) w w1)=>dright_ok p xs.length cap xs rfl (by omega) w1 (hp.chg' hc hoff)
  by_cases hr:seed < 0 ∨ 4≤seed ∨ ¬ SR xs
  · have he:revE (lgs gs) seed xs=10:=by rw [revE,if_pos hr]
    have hl:revL (lgs gs) seed xs=lgs gs:=by rw [revL,he,if_neg (by decide)]
    rw [he,hl]
    by_cases h0:seed < 0
    · refine enterK (tb:=tb) Tryz.func22 rfl Tryz.ntmps22 rfl ?_
      repeat' (first|(apply R.is1;first|(apply R.isBin;(apply R.pure;exact rfl;(apply Ok1.lss_t;exact rfl;exact rfl;omega)))|(apply R.pure;exact rfl;first|(apply Ok1.move;exact rfl)|(apply Ok1.assign;exact rfl)|(apply Ok1.pick_t;exact rfl;exact rfl)))|(apply R.isG;(apply R.guard_not;(iterate 3 exact rfl)))|apply R.nil|(apply T.is;first|apply T.seq|apply T.region|apply T.ret|(apply T.cond_t;exact rfl)))
      (apply RetOk.t;exact rfl)
      exact ⟨_,Keep.last (.all _),gs,rfl,rfl,hg,rfl⟩
    · by_cases h4:4≤seed
      · have h3:3 < seed:=by omega
        refine enterK (tb:=tb) Tryz.func22 rfl Tryz.ntmps22 rfl ?_
        repeat' (first|(apply R.is1;first|(apply R.isBin;(apply R.pure;exact rfl;first|(apply Ok1.lss_f;exact rfl;exact rfl;omega)|(apply Ok1.gtr_t;exact rfl;exact rfl;omega)))|(apply R.pure;exact rfl;first|(apply Ok1.move;exact rfl)|(apply Ok1.assign;exact rfl)|(apply Ok1.pick_t;exact rfl;exact rfl)|(apply Ok1.pick_f;exact rfl;exact rfl)))|(apply R.isG;first|(apply R.guard_run;exact rfl;exact rfl)|(apply R.guard_not;(iterate 3 exact rfl)))|apply R.nil|(apply T.is;first|apply T.seq|apply T.region|apply T.ret|(apply T.cond_t;exact rfl)))
        (apply RetOk.t;exact rfl)
        exact ⟨_,Keep.last (.all _),gs,rfl,rfl,hg,rfl⟩
      · have h3:¬ 3 < seed:=by omega
        have hs:¬ SR xs:=by rcases hr with h|h|h;exact absurd h h0;exact absurd h h4;exact h
        rw [decide_eq_false hs] at hse
        refine enterK (tb:=tb) Tryz.func22 rfl Tryz.ntmps22 rfl ?_
        repeat' (first|(apply R.is1;first|(apply R.isBin;(apply R.pure;exact rfl;first|(apply Ok1.lss_f;exact rfl;exact rfl;omega)|(apply Ok1.gtr_f;exact rfl;exact rfl;omega)))|(apply R.isCall;(apply R.callV (vs:=[.slice p xs.length cap]);(iterate 3 exact rfl);intro w1 hw1;exact hse w1 hw1.chg))|(apply R.pure;exact rfl;first|(apply Ok1.move;exact rfl)|(apply Ok1.assign;exact rfl)|(apply Ok1.pick_f;exact rfl;exact rfl)|(apply Ok1.not_f;exact rfl)))|(apply R.isG;(apply R.guard_run;exact rfl;exact rfl))|apply R.nil|(apply T.is;first|apply T.seq|apply T.region|apply T.ret|(apply T.cond_t;exact rfl)))
        (apply RetOk.t;exact rfl)
        exact ⟨_,Keep.last (.all _),gs,rfl,rfl,hg,rfl⟩
  · have h0:¬ seed < 0:=fun h=>hr (.inl h)
    have h4:¬ 4≤seed:=fun h=>hr (.inr (.inl h))
    have h3:¬ 3 < seed:=by omega
    have hs:SR xs:=Classical.not_not.1 fun h=>hr (.inr (.inr h))
    rw [decide_eq_true hs] at hse
    obtain ⟨i,rfl⟩:∃ i:Nat,seed=i:=⟨seed.toNat,by omega⟩
    have hi4:i < 4:=by omega
    obtain ⟨g,hx⟩:∃ g,gs[i]? = some g:=⟨_,List.getElem?_eq_getElem (by rw [hg.len];omega)⟩
    have hm:=List.mem_of_getElem? hx
    have hgo:=hg.ok g hm
    have hgl:=hg.le g hm
    have hcell:=setV_get hx hgo
    have hgd:(lgs gs).getD (i:Int).toNat []=g.xs:=by
      rw [Int.toNat_natCast,List.getD_eq_getElem?_getD,lgs,List.getElem?_map,hx]
      rfl
    have hrev:revE (lgs gs) i xs=if ¬ (g.xs++xs).Nodup then 8 else if 256 < (g.xs++xs).length then 6 else 0:=by rw [revE,if_neg hr,hgd]
    have hrl:revL (lgs gs) i xs=if revE (lgs gs) i xs=0 then (lgs gs).set i (g.xs++xs) else lgs gs:=by rw [revL,hgd,Int.toNat_natCast]
    have hset:=fun g'=>setV_set (gs:=gs) (i:=i) g' (by rw [hg.len];exact hi4)
    have hrd:=fun w1 (hc:Chg (blks (DSL bs gs)) w w1)=>hp.chg' hc hoff
    have hall:(g.xs++xs).length=g.xs.length+xs.length:=List.length_append
    have htw:=fun p cap w1 h1=>dtwice_ok p (g.xs++xs).length cap (g.xs++xs) rfl (by omega) w1 h1
    rw [hrl,hrev]
    clear hrl hrev hgd
    by_cases hnd:(g.xs++xs).Nodup
    · rw [decide_eq_false (fun h=>h hnd)] at htw
      rw [if_neg (fun h=>h hnd)]
      by_cases hf:256 < (g.xs++xs).length
      · rw [if_pos hf,if_neg (by decide)]
        refine enterK (tb:=tb) Tryz.func22 rfl Tryz.ntmps22 rfl ?_
        simp only [DSL]
        repeat' (first|(apply R.is1;first|(apply R.buildSlice0;(iterate 4 exact rfl);intro b0)|(apply R.isBin;(apply R.pure;exact rfl;first|(apply Ok1.lss_f;exact rfl;exact rfl;omega)|(apply Ok1.gtr_t;exact rfl;exact rfl;omega)|(apply Ok1.gtr_f;exact rfl;exact rfl;omega)))|(apply R.isCall;first|(apply R.callV (vs:=[.slice p xs.length cap]);(iterate 3 exact rfl);intro w1 hw1;exact hse w1 hw1.chg)|(focus (apply R.appendRd (xs:=g.xs) (v:=iV) (sz:=1) (ov:=some (b0,0,[])) (n:=0) (old:=[]) (m:=g.xs.length);(iterate 12 exact rfl);exact ⟨rfl,rfl⟩;(focus ((repeat' (exact Ext.one _ _));done));exact rfl;exact iV_len;exact rfl;(intro w1 hw1;exact Lg.rd hgo hw1 fun x hx=>List.mem_cons_of_mem _ (List.mem_cons_of_mem _ (mem_LsL hm hx)));(focus (rw [fl_i];exact iis_one _));omega;intro ov1 hov1 hsome;rw [Nat.zero_add,List.nil_append,fl_i] at hov1;rw [Nat.zero_add,List.nil_append,fl_i]))|(focus (apply R.appendRd (xs:=xs) (v:=iV) (sz:=1) (ov:=ov1) (n:=g.xs.length) (old:=iis g.xs) (m:=xs.length);(iterate 12 exact rfl);exact hov1;(focus ((repeat' (exact Ext.here _ _));done));exact rfl;exact iV_len;exact rfl;(intro w1 hw1;exact hrd w1 hw1.chg);(focus (rw [fl_i];exact iis_one _));omega;intro ov2 hov2 hsome2;rw [fl_i,← iis_app,← hall] at hov2;rw [fl_i,← iis_app,← hall,slV_eq hov2]))|(apply R.callV (vs:=[.slice (ovp ov2) (g.xs++xs).length (ovc ov2 (g.xs++xs).length)]);(iterate 3 exact rfl);intro w1 hw1;exact htw (ovp ov2) (ovc ov2 _) w1 (irdown hov2 hw1 (Ext.mem (by (focus ((repeat' (exact Ext.here _ _));done))))))|(apply R.pure;exact rfl;(apply Ok1.lenS;(iterate 3 exact rfl))))|(apply R.pure;exact rfl;first|(apply Ok1.load;exact rfl;apply Ld.own1;exact rfl;exact rfl;(focus (repeat' first|exact At.head|apply At.tail);done);exact hcell)|(apply Ok1.move;exact rfl)|(apply Ok1.fieldAddr;(iterate 5 exact rfl))|(apply Ok1.assign;exact rfl)|(apply Ok1.indexAddrA;(iterate 5 exact rfl);omega;omega)|(apply Ok1.pick_f;exact rfl;exact rfl)|(apply Ok1.not_t;exact rfl)|(apply Ok1.nilCheck;exact rfl)))|(apply R.isG;(apply R.guard_run;exact rfl;exact rfl))|apply R.nil|(apply T.is;first|apply T.seq|apply T.region|apply T.skip|apply T.ret|(apply T.cond_t;exact rfl)|(apply T.cond_f;exact rfl)))
        (apply RetOk.t;exact rfl)
        refine ⟨_,?_,gs,rfl,rfl,hg,rfl⟩
        (focus (repeat' first|exact Ext.one _ _|exact Ext.all _|apply Keep.cons|apply Keep.last|apply Ext.app);done)
      · rw [if_neg hf,if_pos rfl]
        refine enterK (tb:=tb) Tryz.func22 rfl Tryz.ntmps22 rfl ?_
        simp only [DSL]
        repeat' (first|(apply R.is1;first|(apply R.buildSlice0;(iterate 4 exact rfl);intro b0)|(apply R.isBin;(apply R.pure;exact rfl;first|(apply Ok1.lss_f;exact rfl;exact rfl;omega)|(apply Ok1.gtr_f;exact rfl;exact rfl;omega)))|(apply R.isCall;first|(apply R.callV (vs:=[.slice p xs.length cap]);(iterate 3 exact rfl);intro w1 hw1;exact hse w1 hw1.chg)|(focus (apply R.appendRd (xs:=g.xs) (v:=iV) (sz:=1) (ov:=some (b0,0,[])) (n:=0) (old:=[]) (m:=g.xs.length);(iterate 12 exact rfl);exact ⟨rfl,rfl⟩;(focus ((repeat' (exact Ext.one _ _));done));exact rfl;exact iV_len;exact rfl;(intro w1 hw1;exact Lg.rd hgo hw1 fun x hx=>List.mem_cons_of_mem _ (List.mem_cons_of_mem _ (mem_LsL hm hx)));(focus (rw [fl_i];exact iis_one _));omega;intro ov1 hov1 hsome;rw [Nat.zero_add,List.nil_append,fl_i] at hov1;rw [Nat.zero_add,List.nil_append,fl_i]))|(focus (apply R.appendRd (xs:=xs) (v:=iV) (sz:=1) (ov:=ov1) (n:=g.xs.length) (old:=iis g.xs) (m:=xs.length);(iterate 12 exact rfl);exact hov1;(focus ((repeat' (exact Ext.here _ _));done));exact rfl;exact iV_len;exact rfl;(intro w1 hw1;exact hrd w1 hw1.chg);(focus (rw [fl_i];exact iis_one _));omega;intro ov2 hov2 hsome2;rw [fl_i,← iis_app,← hall] at hov2;rw [fl_i,← iis_app,← hall,slV_eq hov2]))|(apply R.callV (vs:=[.slice (ovp ov2) (g.xs++xs).length (ovc ov2 (g.xs++xs).length)]);(iterate 3 exact rfl);intro w1 hw1;exact htw (ovp ov2) (ovc ov2 _) w1 (irdown hov2 hw1 (Ext.mem (by (focus ((repeat' (exact Ext.here _ _));done))))))|(apply R.pure;exact rfl;(apply Ok1.lenS;(iterate 3 exact rfl))))|(apply R.pure;exact rfl;first|(apply Ok1.load;exact rfl;apply Ld.own1;exact rfl;exact rfl;(focus (repeat' first|exact At.head|apply At.tail);done);exact hcell)|(apply Ok1.move;exact rfl)|(apply Ok1.fieldAddr;(iterate 5 exact rfl))|(apply Ok1.assign;exact rfl)|(apply Ok1.indexAddrA;(iterate 5 exact rfl);omega;omega)|(apply Ok1.pick_f;exact rfl;exact rfl)|(apply Ok1.not_t;exact rfl)|(apply Ok1.nilCheck;exact rfl)))|(apply R.is0;(apply R.store;(iterate 6 exact rfl);(focus (repeat' first|exact Upd.head|apply Upd.right);done);have h9:=hset ⟨ov2,g.xs++xs⟩;rw [Lg.v_eq (g:=⟨ov2,g.xs++xs⟩) hov2] at h9;exact h9))|(apply R.isG;(apply R.guard_run;exact rfl;exact rfl))|apply R.nil|(apply T.is;first|apply T.seq|apply T.region|apply T.skip|apply T.ret|(apply T.cond_f;exact rfl)))
        (apply RetOk.t;exact rfl)
        refine ⟨_,?_,gs.set i ⟨ov2,g.xs++xs⟩,rfl,by rw [lgs,List.map_set];rfl,hg.set i hov2 (by show (g.xs++xs).length≤256;omega),rfl⟩
        rw [LsL_at hx,LsL_set _ (by rw [hg.len];exact hi4)]
        simp only [Lg.L]
        (focus (repeat' first|exact Ext.one _ _|exact Ext.here _ _|exact Ext.all _|apply Keep.cons|apply Keep.app|apply Keep.last|apply Ext.app);done)
    · rw [decide_eq_true hnd] at htw
      rw [if_pos hnd,if_neg (by decide)]
      refine enterK (tb:=tb) Tryz.func22 rfl Tryz.ntmps22 rfl ?_
      simp only [DSL]
      repeat' (first|(apply R.is1;first|(apply R.buildSlice0;(iterate 4 exact rfl);intro b0)|(apply R.isBin;(apply R.pure;exact rfl;first|(apply Ok1.lss_f;exact rfl;exact rfl;omega)|(apply Ok1.gtr_f;exact rfl;exact rfl;omega)))|(apply R.isCall;first|(apply R.callV (vs:=[.slice p xs.length cap]);(iterate 3 exact rfl);intro w1 hw1;exact hse w1 hw1.chg)|(focus (apply R.appendRd (xs:=g.xs) (v:=iV) (sz:=1) (ov:=some (b0,0,[])) (n:=0) (old:=[]) (m:=g.xs.length);(iterate 12 exact rfl);exact ⟨rfl,rfl⟩;(focus ((repeat' (exact Ext.one _ _));done));exact rfl;exact iV_len;exact rfl;(intro w1 hw1;exact Lg.rd hgo hw1 fun x hx=>List.mem_cons_of_mem _ (List.mem_cons_of_mem _ (mem_LsL hm hx)));(focus (rw [fl_i];exact iis_one _));omega;intro ov1 hov1 hsome;rw [Nat.zero_add,List.nil_append,fl_i] at hov1;rw [Nat.zero_add,List.nil_append,fl_i]))|(focus (apply R.appendRd (xs:=xs) (v:=iV) (sz:=1) (ov:=ov1) (n:=g.xs.length) (old:=iis g.xs) (m:=xs.length);(iterate 12 exact rfl);exact hov1;(focus ((repeat' (exact Ext.here _ _));done));exact rfl;exact iV_len;exact rfl;(intro w1 hw1;exact hrd w1 hw1.chg);(focus (rw [fl_i];exact iis_one _));omega;intro ov2 hov2 hsome2;rw [fl_i,← iis_app,← hall] at hov2;rw [fl_i,← iis_app,← hall,slV_eq hov2]))|(apply R.callV (vs:=[.slice (ovp ov2) (g.xs++xs).length (ovc ov2 (g.xs++xs).length)]);(iterate 3 exact rfl);intro w1 hw1;exact htw (ovp ov2) (ovc ov2 _) w1 (irdown hov2 hw1 (Ext.mem (by (focus ((repeat' (exact Ext.here _ _));done)))))))|(apply R.pure;exact rfl;first|(apply Ok1.load;exact rfl;apply Ld.own1;exact rfl;exact rfl;(focus (repeat' first|exact At.head|apply At.tail);done);exact hcell)|(apply Ok1.move;exact rfl)|(apply Ok1.fieldAddr;(iterate 5 exact rfl))|(apply Ok1.assign;exact rfl)|(apply Ok1.indexAddrA;(iterate 5 exact rfl);omega;omega)|(apply Ok1.pick_f;exact rfl;exact rfl)|(apply Ok1.not_t;exact rfl)|(apply Ok1.nilCheck;exact rfl)))|(apply R.isG;(apply R.guard_run;exact rfl;exact rfl))|apply R.nil|(apply T.is;first|apply T.seq|apply T.region|apply T.skip|apply T.ret|(apply T.cond_t;exact rfl)|(apply T.cond_f;exact rfl)))
      (apply RetOk.t;exact rfl)
      refine ⟨_,?_,gs,rfl,rfl,hg,rfl⟩
      (focus (repeat' first|exact Ext.one _ _|exact Ext.all _|apply Keep.cons|apply Keep.last|apply Ext.app);done)
theorem dl_from0 {d:Dl} {i:Nat} {x:Int × Pi} (h:d[i]? = some x):(dlV d)[0+i * 1]? = some (.int .i64 x.1):=by
  have h2:=dl_from h
  have hlt:=(List.getElem?_eq_some_iff.1 h).1
  rw [Nat.zero_add,dlV,List.getElem?_append_left (by rw [iis_len,List.length_map];omega),h2]
theorem dcheck_ok (d:Dl) (hl:d.length=4) (hbig:∀ x∈d,x.2.xs.length≤1000000) (w:World) (hr:∀ x∈d,RdSl w x.2.p iV x.2.xs) :
    CallW Tryz.prog 164 [.agg ⟨dlV d⟩] w fun v _=>v = .bool (decide (DOk d)):=by
  have hse:=fun x (hx:x∈d) w1 (hc:Chg [] w w1)=>dright_ok x.2.p x.2.xs.length x.2.cap x.2.xs rfl (by have:=hbig x hx;omega) w1 ((hr x hx).chg' hc (fun _=>Off.nil _))
  have hdl:(dlV d).length=8:=by simp [dlV,fl_pi,iis_len,hl]
  refine enterW (tb:=tb) Tryz.func164 rfl Tryz.ntmps164 rfl ?_
  repeat' (first|(apply R.is1;first|(apply R.pure;exact rfl;(apply Ok1.assign;exact rfl))|(apply R.box;(iterate 3 exact rfl);intro))|apply R.nil|(apply T.is;first|apply T.seq|apply T.region|apply T.block))
  rename_i b
  apply T.loopK (α:=Nat) (I:=fun i=>i≤4∧∀ x∈d.take i,DOk1 x) (σi:=fun i=>[(1,.pointer (some ⟨b,0,none⟩)),(3,.int .i64 i)]) (Li:=fun _=>[(b,.cells ⟨dlV d⟩ 82 (0,0))]) (μ:=fun i=>4 - i) (i0:=0)
  · exact ⟨Nat.zero_le _,by simp⟩
  · exact ⟨rfl,rfl,trivial⟩
  · (focus (repeat' first|exact Keep.nil _|exact Ext.one _ _|apply Keep.cons);done)
  · intro i ⟨hi,hall⟩
    rcases Nat.lt_or_ge i 4 with hlt|hge
    · obtain ⟨x,hx⟩:∃ x,d[i]? = some x:=⟨_,List.getElem?_eq_getElem (by omega)⟩
      have hm:=List.mem_of_getElem? hx
      have h1:=hse x hm
      have hf:=dl_from0 hx
      have hg:=dl_log hl hx
      have hb:=hbig x hm
      have hbad:¬ DOk1 x→decide (DOk d)=false:=fun h=>decide_eq_false fun hd=>h (hd x hm)
      by_cases c1:x.1 < 0
      · rw [hbad (fun h=>by have:=h.1;omega)]
        repeat' (first|(apply R.is1;first|(apply R.isBin;(apply R.pure;exact rfl;(apply Ok1.lss_t;exact rfl;exact rfl;omega)))|(apply R.pure;exact rfl;first|(apply Ok1.load;exact rfl;(apply Ld.own1;exact rfl;exact rfl;exact At.head;exact hf))|(apply Ok1.move;exact rfl)|(apply Ok1.fieldAddr;(iterate 5 exact rfl))|(apply Ok1.assign;exact rfl)|(apply Ok1.indexAddrA;(iterate 5 exact rfl);omega;omega)|(apply Ok1.pick_t;exact rfl;exact rfl)))|(apply R.isG;(apply R.guard_not;(iterate 3 exact rfl)))|apply R.nil|(apply T.is;first|apply T.seq|apply T.region|apply T.block|apply T.skip|apply T.ret|(apply T.cond_t;exact rfl)))
        (apply RetOk.t;exact rfl)
        rfl
      · by_cases c2:256 < x.1
        · rw [hbad (fun h=>by have:=h.2.1;omega)]
          repeat' (first|(apply R.is1;first|(apply R.isBin;(apply R.pure;exact rfl;first|(apply Ok1.lss_t;exact rfl;exact rfl;omega)|(apply Ok1.lss_f;exact rfl;exact rfl;omega)|(apply Ok1.gtr_t;exact rfl;exact rfl;omega)))|(apply R.pure;exact rfl;first|(apply Ok1.load;exact rfl;(apply Ld.own1;exact rfl;exact rfl;exact At.head;exact hf))|(apply Ok1.move;exact rfl)|(apply Ok1.fieldAddr;(iterate 5 exact rfl))|(apply Ok1.assign;exact rfl)|(apply Ok1.indexAddrA;(iterate 5 exact rfl);omega;omega)|(apply Ok1.pick_t;exact rfl;exact rfl)|(apply Ok1.pick_f;exact rfl;exact rfl)))|(apply R.isG;first|(apply R.guard_run;exact rfl;exact rfl)|(apply R.guard_not;(iterate 3 exact rfl)))|apply R.nil|(apply T.is;first|apply T.seq|apply T.region|apply T.block|apply T.skip|apply T.ret|(apply T.cond_t;exact rfl)))
          (apply RetOk.t;exact rfl)
          rfl
        · by_cases c3:256 < x.2.xs.length
          · rw [hbad (fun h=>by have:=h.2.2.1;omega)]
            repeat' (first|(apply R.is1;first|(apply R.isBin;(apply R.pure;exact rfl;first|(apply Ok1.lss_t;exact rfl;exact rfl;omega)|(apply Ok1.lss_f;exact rfl;exact rfl;omega)|(apply Ok1.gtr_t;exact rfl;exact rfl;omega)|(apply Ok1.gtr_f;exact rfl;exact rfl;omega)))|(apply R.isCall;(apply R.pure;exact rfl;(apply Ok1.lenS;(iterate 3 exact rfl))))|(apply R.pure;exact rfl;first|(apply Ok1.load;exact rfl;first|(apply Ld.own1;exact rfl;exact rfl;exact At.head;exact hf)|(apply Ld.own1;exact rfl;exact rfl;exact At.head;exact hg))|(apply Ok1.move;exact rfl)|(apply Ok1.fieldAddr;(iterate 5 exact rfl))|(apply Ok1.assign;exact rfl)|(apply Ok1.indexAddrA;(iterate 5 exact rfl);omega;omega)|(apply Ok1.pick_t;exact rfl;exact rfl)|(apply Ok1.pick_f;exact rfl;exact rfl)))|(apply R.isG;first|(apply R.guard_run;exact rfl;exact rfl)|(apply R.guard_not;(iterate 3 exact rfl)))|apply R.nil|(apply T.is;first|apply T.seq|apply T.region|apply T.block|apply T.skip|apply T.ret|(apply T.cond_t;exact rfl)))
            (apply RetOk.t;exact rfl)
            rfl
          · by_cases c4:SR x.2.xs
            · rw [decide_eq_true c4] at h1
              repeat' (first|(apply R.is1;first|(apply R.isBin;(apply R.pure;exact rfl;first|(apply Ok1.add64;exact rfl;exact rfl;omega;omega)|(apply Ok1.lss_t;exact rfl;exact rfl;omega)|(apply Ok1.lss_f;exact rfl;exact rfl;omega)|(apply Ok1.gtr_f;exact rfl;exact rfl;omega)))|(apply R.isCall;first|(apply R.callV (vs:=[.slice x.2.p x.2.xs.length x.2.cap]);(iterate 3 exact rfl);intro w1 hw1;exact h1 w1 hw1.chg)|(apply R.pure;exact rfl;(apply Ok1.lenS;(iterate 3 exact rfl))))|(apply R.pure;exact rfl;first|(apply Ok1.load;exact rfl;first|(apply Ld.own1;exact rfl;exact rfl;exact At.head;exact hf)|(apply Ld.own1;exact rfl;exact rfl;exact At.head;exact hg))|(apply Ok1.move;exact rfl)|(apply Ok1.fieldAddr;(iterate 5 exact rfl))|(apply Ok1.assign;exact rfl)|(apply Ok1.indexAddrA;(iterate 5 exact rfl);omega;omega)|(apply Ok1.pick_f;exact rfl;exact rfl)|(apply Ok1.not_t;exact rfl)))|(apply R.isG;(apply R.guard_run;exact rfl;exact rfl))|apply R.nil|(apply T.is;first|apply T.seq|apply T.region|apply T.block|apply T.skip|(apply T.cond_t;exact rfl)|(apply T.cond_f;exact rfl)))
              refine ⟨i+1,⟨by omega,?_⟩,by omega,⟨rfl,rfl,trivial⟩,by (focus (repeat' first|exact Keep.nil _|exact Ext.one _ _|apply Keep.cons);done)⟩
              intro y hy
              rw [List.take_add_one,hx,List.mem_append] at hy
              rcases hy with hy|hy
              · exact hall y hy
              · simp only [Option.toList_some,List.mem_singleton] at hy
                subst hy
                exact ⟨by omega,by omega,by omega,c4⟩
            · rw [decide_eq_false c4] at h1
              rw [hbad (fun h=>c4 h.2.2.2)]
              repeat' (first|(apply R.is1;first|(apply R.isBin;(apply R.pure;exact rfl;first|(apply Ok1.lss_t;exact rfl;exact rfl;omega)|(apply Ok1.lss_f;exact rfl;exact rfl;omega)|(apply Ok1.gtr_f;exact rfl;exact rfl;omega)))|(apply R.isCall;first|(apply R.callV (vs:=[.slice x.2.p x.2.xs.length x.2.cap]);(iterate 3 exact rfl);intro w1 hw1;exact h1 w1 hw1.chg)|(apply R.pure;exact rfl;(apply Ok1.lenS;(iterate 3 exact rfl))))|(apply R.pure;exact rfl;first|(apply Ok1.load;exact rfl;first|(apply Ld.own1;exact rfl;exact rfl;exact At.head;exact hf)|(apply Ld.own1;exact rfl;exact rfl;exact At.head;exact hg))|(apply Ok1.move;exact rfl)|(apply Ok1.fieldAddr;(iterate 5 exact rfl))|(apply Ok1.assign;exact rfl)|(apply Ok1.indexAddrA;(iterate 5 exact rfl);omega;omega)|(apply Ok1.pick_f;exact rfl;exact rfl)|(apply Ok1.not_f;exact rfl)))|(apply R.isG;(apply R.guard_run;exact rfl;exact rfl))|apply R.nil|(apply T.is;first|apply T.seq|apply T.region|apply T.block|apply T.skip|apply T.ret|(apply T.cond_t;exact rfl)))
              (apply RetOk.t;exact rfl)
              rfl
    · repeat' (first|(apply R.is1;first|(apply R.isBin;(apply R.pure;exact rfl;(apply Ok1.lss_f;exact rfl;exact rfl;omega)))|(apply R.pure;exact rfl;first|(apply Ok1.move;exact rfl)|(apply Ok1.assign;exact rfl)))|apply R.nil|(apply T.is;first|apply T.seq|apply T.region|apply T.exit|apply T.ret|(apply T.cond_f;exact rfl)))
      (apply RetOk.t;exact rfl)
      rw [List.take_of_length_le (by omega)] at hall
      rw [decide_eq_true (show DOk d from hall)]
def dM (log l:List Int) (f k:Nat):Prop:=(log.drop f).take (min k (log.length - f))=l.take (min k (log.length - f))
def dA (log l:List Int) (f k:Nat):List Int:=log++(l.take k).drop (log.length - f)
theorem dM_zero (log l:List Int) (f:Nat):dM log l f 0:=by simp [dM]
theorem dA_zero (log l:List Int) (f:Nat):dA log l f 0=log:=by simp [dA]
theorem dA_len (log l:List Int) (f k:Nat):(dA log l f k).length≤log.length+k:=by
  simp only [dA,List.length_append,List.length_drop,List.length_take];omega
theorem dA_app {log l:List Int} {f k:Nat} {x:Int} (hk:log.length≤f+k) (hx:l[k]? = some x):dA log l f (k+1)=dA log l f k++[x]:=by
  have hlt:=(List.getElem?_eq_some_iff.1 hx).1
  have h:log.length - f≤(l.take k).length:=by rw [List.length_take];omega
  rw [dA,dA,List.take_add_one,hx,Option.toList_some,List.drop_append_of_le_length h,List.append_assoc]
theorem dM_app {log l:List Int} {f k:Nat} (hk:log.length≤f+k) (h:dM log l f k):dM log l f (k+1):=by
  unfold dM at *
  rwa [show min (k+1) (log.length - f)=min k (log.length - f) by omega]
theorem dM_step {log l:List Int} {f k:Nat} {x:Int} (hk:f+k < log.length) (hy:log[f+k]? = some x) (hx:l[k]? = some x) (h:dM log l f k):dM log l f (k+1):=by
  unfold dM at *
  rw [show min k (log.length - f)=k by omega] at h
  rw [show min (k+1) (log.length - f)=k+1 by omega,List.take_add_one,List.take_add_one,h,List.getElem?_drop,hy,hx]
theorem dA_step {log l:List Int} {f k:Nat} (hk:f+k < log.length):dA log l f (k+1)=dA log l f k:=by
  have h1:(l.take (k+1)).drop (log.length - f)=[]:=List.drop_of_length_le (by rw [List.length_take];omega)
  have h2:(l.take k).drop (log.length - f)=[]:=List.drop_of_length_le (by rw [List.length_take];omega)
  rw [dA,dA,h1,h2]
theorem dM_bad {log l:List Int} {f k:Nat} {x y:Int} (hk:f+k < log.length) (hy:log[f+k]? = some y) (hx:l[k]? = some x) (hne:y≠x):jE log l f=3:=by
  have hlt:=(List.getElem?_eq_some_iff.1 hx).1
  refine if_pos fun h=>hne ?_
  have hb:k < both log l f:=by unfold both;omega
  have h2:=congrArg (·[k]?) h
  simp only [List.getElem?_take,if_pos hb,List.getElem?_drop,hy,hx] at h2
  exact Option.some.inj h2
theorem dA_all {log l:List Int} {f:Nat}:jAll log l f=dA log l f l.length:=by
  rw [jAll,dA,List.take_length,both]
  rcases Nat.le_total (log.length - f) l.length with h|h
  · rw [Nat.min_eq_left h]
  · rw [Nat.min_eq_right h,List.drop_of_length_le (Nat.le_refl _),List.drop_of_length_le h]
theorem dM_all {log l:List Int} {f:Nat} (h:dM log l f l.length):jE log l f=if ¬ (dA log l f l.length).Nodup then 3 else if 256 < (dA log l f l.length).length then 6 else 0:=by
  have hb:(log.drop f).take (both log l f)=l.take (both log l f):=by
    unfold dM at h
    rw [both,Nat.min_comm]
    exact h
  rw [jE,if_neg (fun hn=>hn hb),dA_all]
/-- What a log would be. -/
def JA (x:Jx):List Int:=jAll x.1 x.2.2 x.2.1.toNat
def sumA (l:List Jx):Int:=(l.map fun x=>((JA x).length:Int) - x.1.length).sum
theorem sumA_snoc {l:List Jx} {i:Nat} {x:Jx} (h:l[i]? = some x):sumA (l.take (i+1))=sumA (l.take i)+(((JA x).length:Int) - x.1.length):=by
  unfold sumA
  rw [List.take_add_one,h]
  simp
theorem JA_len (x:Jx):(JA x).length≤x.1.length+x.2.2.length∧x.1.length≤(JA x).length:=by
  simp only [JA,jAll,List.length_append,List.length_drop];omega
theorem JA_eq {x:Jx} (h:JE x=0):JA x=JL x:=by
  unfold JE at h
  rw [JL,jL,if_pos h,JA]
theorem sumA_bd (l:List Jx) (h:∀ x∈l,x.2.2.length≤256):0≤sumA l∧sumA l≤256 * l.length:=by
  induction l with
  | nil=>simp [sumA]
  | cons a l ih =>
    have h1:=ih fun x hx=>h x (List.mem_cons_of_mem _ hx)
    have h2:=h a List.mem_cons_self
    have h3:=JA_len a
    simp only [sumA,List.map_cons,List.sum_cons,List.length_cons] at *
    omega
theorem copy_ok (bs:Nat) (gs:List Lg) (hg:GOk gs) (w:World) (hs:SetR w bs gs) :
    CallM Tryz.prog 81 [.pointer (some ⟨bs,0,none⟩)] [] w fun v L=>∃ bc gs',v = .pointer (some ⟨bc,0,none⟩)∧lgs gs'=lgs gs∧GOk gs' ∧ L=SetL bc gs':=by
  have hlog:=fun i g hi w1 (hc:Chg [] w w1)=>log_ok bs gs hg i g hi w1 (hs.chg hc)
  refine enterK (tb:=tb) Tryz.func81 rfl Tryz.ntmps81 rfl ?_
  repeat' (first|(apply R.is1;first|(apply R.isBin;(apply R.pure;exact rfl;(apply Ok1.eqlP;(iterate 5 exact rfl))))|(apply R.isCall;(apply R.callE (vs:=[]);(iterate 3 exact rfl);exact Ext.none _;intro w1 hw1;exact rnew_ok w1;rintro v Lo ⟨bc,rfl,rfl⟩))|(apply R.pure;exact rfl;first|(apply Ok1.move;exact rfl)|(apply Ok1.assign;exact rfl)))|apply R.nil|(apply T.is;first|apply T.seq|apply T.region|apply T.block|apply T.skip|(apply T.cond_f;exact rfl)))
  apply T.loopK (α:=Nat × List Lg) (I:=fun y=>y.1≤4∧GOk y.2∧lgs y.2=(lgs gs).take y.1++List.replicate (4 - y.1) []) (σi:=fun y=>[(0,.pointer (some ⟨bs,0,none⟩)),(3,.pointer (some ⟨bc,0,none⟩)),(8,.int .i64 y.1)]) (Li:=fun y=>SetL bc y.2) (μ:=fun y=>4 - y.1) (i0:=(0,[lg0,lg0,lg0,lg0]))
  · exact ⟨Nat.zero_le _,GOk.new,rfl⟩
  · exact ⟨rfl,rfl,rfl,trivial⟩
  · (focus (repeat' first|exact Keep.nil _|exact Ext.one _ _|apply Keep.cons);done)
  · rintro ⟨i,gs2⟩ ⟨hi,hg2,hlg⟩
    simp only at hi hg2 hlg ⊢
    simp only [SetL]
    rcases Nat.lt_or_ge i 4 with hlt|hge
    · obtain ⟨g,hx⟩:∃ g,gs[i]? = some g:=⟨_,List.getElem?_eq_getElem (by rw [hg.len];omega)⟩
      obtain ⟨g2,hx3⟩:∃ g2,gs2[i]? = some g2:=⟨_,List.getElem?_eq_getElem (by rw [hg2.len];omega)⟩
      have h1:=hlog i g hx
      have hgl:=hg.le g (List.mem_of_getElem? hx)
      have hset:=fun g'=>setV_set (gs:=gs2) (i:=i) g' (by rw [hg2.len];omega)
      repeat' (first|(apply R.is1;first|(apply R.isBin;(apply R.pure;exact rfl;first|(apply Ok1.add64;exact rfl;exact rfl;omega;omega)|(apply Ok1.lss_t;exact rfl;exact rfl;omega)))|(apply R.pure;exact rfl;first|(apply Ok1.move;exact rfl)|(apply Ok1.assign;exact rfl)))|apply R.nil|(apply T.is;first|(apply T.drawC (id:=7) [] (by decide);((apply A.tk 0;exact rfl;kernel_rfl;(apply Ok1.move;exact rfl))<;>(apply A.tk 1;exact rfl;kernel_rfl;(apply Ok1.move;exact rfl))<;>(apply A.tk 2;exact rfl;kernel_rfl;(apply Ok1.move;exact rfl))<;>(apply A.tk 3;exact rfl;kernel_rfl;(apply Ok1.move;exact rfl))<;>(apply A.tk 5;exact rfl;kernel_rfl;(apply Ok1.nilCheck;exact rfl))<;>(apply A.tk 6;exact rfl;kernel_rfl;(apply Ok1.fieldAddr;(iterate 5 exact rfl)))<;>(apply A.one 4;kernel_rfl;exact rfl;(((apply R.callE (vs:=[.pointer (some ⟨bs,0,none⟩),.int .i64 i]);(iterate 3 exact rfl);exact Ext.none _;intro w1 hw1;exact h1 w1 hw1.chg;rintro v Lo ⟨ov,hov,rfl,rfl⟩;rw [slV_eq hov])));apply R.nil;refine ⟨?_,?_⟩;(focus ((repeat' (exact trivial)))))<;>(apply A.tk 7;exact rfl;kernel_rfl;(apply Ok1.indexAddrA;(iterate 5 exact rfl);omega;omega))<;>(apply A.one 8;kernel_rfl;exact rfl;(((apply R.store;(iterate 6 exact rfl);(focus (repeat' first|exact Upd.head|apply Upd.right);done);have h9:=hset ⟨ov,g.xs⟩;rw [Lg.v_eq (g:=⟨ov,g.xs⟩) hov] at h9;exact h9)));apply R.nil;refine ⟨?_,?_⟩;(focus ((repeat' (exact trivial)))))<;>(apply A.done;kernel_rfl)))|apply T.seq|apply T.region|apply T.block|apply T.skip|(apply T.cond_t;exact rfl)))
      refine ⟨(i+1,gs2.set i ⟨ov,g.xs⟩),⟨by simp only;omega,hg2.set i hov hgl,?_⟩,by simp only;omega,⟨rfl,rfl,rfl,trivial⟩,?_⟩
      · have hl:(lgs gs)[i]? = some g.xs:=by rw [lgs,List.getElem?_map,hx];rfl
        rw [lgs,List.map_set,← lgs,hlg,show 4 - i=(4 - (i+1))+1 by omega,set_mid (by rw [List.length_take,lgs,List.length_map,hg.len];omega),List.take_add_one,hl]
        simp
      · simp only
        rw [LsL_set _ (by rw [hg2.len];omega),LsL_at hx3]
        simp only [Lg.L]
        (focus (repeat' first|exact Ext.one _ _|exact Ext.here _ _|exact Ext.all _|apply Keep.cons|apply Keep.app|apply Keep.last|apply Ext.app);done)
    · have him:i=4:=by omega
      subst him
      rw [List.take_of_length_le (by rw [lgs,List.length_map,hg.len];omega),Nat.sub_self,List.replicate_zero,List.append_nil] at hlg
      repeat' (first|(apply R.is1;first|(apply R.isBin;(apply R.pure;exact rfl;(apply Ok1.lss_f;exact rfl;exact rfl;omega)))|(apply R.pure;exact rfl;first|(apply Ok1.move;exact rfl)|(apply Ok1.assign;exact rfl)))|apply R.nil|(apply T.is;first|apply T.seq|apply T.region|apply T.exit|apply T.ret|(apply T.cond_f;exact rfl)))
      (apply RetOk.t;exact rfl)
      exact ⟨_,by (focus (repeat' first|exact Ext.one _ _|exact Ext.all _|apply Keep.cons|apply Keep.last);done),bc,gs2,rfl,hlg,hg2,rfl⟩
theorem or8 (m c:Nat) (hm:m < 72057594037927936) (hc:c < 256):orI .u64 ((m:Int) * 256) c=(m:Int) * 256+c:=by
  unfold orI
  have e1:((m:Int) * 256)=((m * 256:Nat):Int):=by omega
  rw [e1,BitVec.ofInt_natCast,BitVec.ofInt_natCast,BitVec.toNat_or,BitVec.toNat_ofNat,BitVec.toNat_ofNat]
  have hb:IntKind.u64.bits=64:=rfl
  rw [hb,Nat.mod_eq_of_lt (by omega),Nat.mod_eq_of_lt (by omega)]
  have h:=Nat.shiftLeft_add_eq_or_of_lt (b:=c) (i:=8) (by omega) m
  rw [Nat.shiftLeft_eq] at h
  rw [← h,wrap_u64 (by omega) (by omega)]
  omega
section
variable {X:Cx} {σ:Env} {L:Lst} {ty t:TypeId} {pos:String} {af:Array Edge} {x:Operand} {r re:TRow} {d:Option Nat} {g:Option (Nat × Bool)} {e:TypeId} {p:Option Addr} {n cap j:Nat}
theorem Ok1.pre3 {hi mx:Operand} (ht:X.tb.row t=some r) (hk:r.k = .slice e) (he:X.tb.row e=some re) (hx:ev σ x=some (.slice p n cap)) (hh:ev σ hi=some (.int .i64 j)) (hm:ev σ mx=some (.int .i64 j)) (h2:j≤cap) :
    Ok1 X ⟨d,.slice t x none (some hi) (some mx),ty,pos,af,g⟩ σ L (.slice p j j):=.mk fun a w ha hw=>by
  rw [slice_run (l:=0) (h:=(j:Int)) (m:=(j:Int)) X.tb ht hk he ha hx (by simp [bd,hm]) (by simp [bd,hh]) rfl (by omega) (by omega) (by omega) (by omega) (.inr (by simp))]
  have:p.map (·.add (0 * re.size))=p:=by cases p<;>simp [Addr.add]
  simp only [Int.toNat_zero,this,ite_self,Int.toNat_natCast,Nat.sub_zero]
end
/-- The number that bytes make,the highest first. -/
def beN (xs:List Int):Int:=xs.foldl (fun a c=>a * 256+c) 0
theorem be_snoc {xs:List Int} {i:Nat} {x:Int} (h:xs[i]? = some x):beN (xs.take (i+1))=beN (xs.take i) * 256+x:=by
  unfold beN
  rw [List.take_add_one,h,List.foldl_append]
  rfl
theorem be_range:∀ (n:Nat) (xs:List Int),xs.length=n→Byt xs→0≤beN xs∧beN xs < 256 ^ n:=by
  intro n
  induction n with
  | zero=>intro xs h _;rw [List.length_eq_zero_iff.1 h];exact ⟨Int.le_refl _,by decide⟩
  | succ n ih =>
    intro xs h hb
    obtain ⟨x,hx⟩:∃ x,xs[n]? = some x:=⟨_,List.getElem?_eq_getElem (by omega)⟩
    have h1:=ih (xs.take n) (by rw [List.length_take];omega) fun y hy=>hb y (List.mem_of_mem_take hy)
    have h2:=be_snoc hx
    rw [List.take_of_length_le (by omega)] at h2
    have h3:=hb x (List.mem_of_getElem? hx)
    have h4:(256:Int) ^ (n+1)=256 ^ n * 256:=Int.pow_succ ..
    omega
/-- What is left to be read,and the first error. -/
structure Rs where
  q:Option Addr
  cap:Nat
  xs:List Int
  e:Int
def Rs.L (s:Rs) (br:Nat):Lst:=[(br,.cells ⟨[.slice s.q s.xs.length s.cap,.int .i64 s.e]⟩ 205 (0,0))]
def Rs.fail (s:Rs) (e:Int):Rs:=if s.e=0 then ⟨none,0,[],e⟩ else s
def Rs.drop (s:Rs) (k:Nat):Rs:=⟨sufP s.q s.cap k 1,s.cap - k,s.xs.drop k,s.e⟩
structure Rs.ok (s:Rs) (br:Nat) (w:World):Prop where
  rd:RdSl w s.q u8V s.xs
  cap:s.xs.length≤s.cap
  off:s.xs≠[]→Off s.q [br]
  byt:Byt s.xs
  big:s.xs.length≤1000000000
theorem rfail_ok (br:Nat) (s:Rs) (e:Int) (w:World):CallM Tryz.prog 99 [.pointer (some ⟨br,0,none⟩),.int .i64 e] (s.L br) w fun v L=>v = .tuple #[]∧L=(s.fail e).L br:=by
  by_cases h:s.e=0
  · refine enterK (tb:=tb) Tryz.func99 rfl Tryz.ntmps99 rfl ?_
    rw [Rs.fail,if_pos h]
    simp only [Rs.L,h]
    repeat' (first|(apply R.is1;first|(apply R.isBin;(apply R.pure;exact rfl;(apply Ok1.eql_t;exact rfl;exact rfl;omega)))|(apply R.pure;exact rfl;first|(apply Ok1.move;exact rfl)|(apply Ok1.fieldAddr;(iterate 5 exact rfl))|(apply Ok1.load;exact rfl;(apply Ld.own1;exact rfl;exact rfl;exact At.head;exact rfl))|(apply Ok1.nilCheck;exact rfl)))|(apply R.is0;(apply R.store;(iterate 6 exact rfl);exact Upd.head;exact rfl))|apply R.nil|(apply T.is;first|apply T.seq|apply T.region|(apply T.cond_t;exact rfl)))
    (apply RetOk.n)
    exact ⟨_,by (focus (repeat' first|exact Keep.nil _|exact Ext.one _ _|apply Keep.cons);done),rfl,rfl⟩
  · refine enterK (tb:=tb) Tryz.func99 rfl Tryz.ntmps99 rfl ?_
    rw [Rs.fail,if_neg h]
    simp only [Rs.L]
    repeat' (first|(apply R.is1;first|(apply R.isBin;(apply R.pure;exact rfl;(apply Ok1.eql_f;exact rfl;exact rfl;omega)))|(apply R.pure;exact rfl;first|(apply Ok1.move;exact rfl)|(apply Ok1.fieldAddr;(iterate 5 exact rfl))|(apply Ok1.load;exact rfl;(apply Ld.own1;exact rfl;exact rfl;exact At.head;exact rfl))|(apply Ok1.nilCheck;exact rfl)))|apply R.nil|(apply T.is;first|apply T.seq|apply T.region|apply T.skip|(apply T.cond_f;exact rfl)))
    (apply RetOk.n)
    exact ⟨_,by (focus (repeat' first|exact Keep.nil _|exact Ext.one _ _|apply Keep.cons);done),rfl,rfl⟩
theorem rtake_no (br:Nat) (s:Rs) (k:Nat) (h:s.e≠0 ∨ s.xs.length < k) (w:World):CallM Tryz.prog 203 [.pointer (some ⟨br,0,none⟩),.int .i64 k] (s.L br) w fun v L=>v = .slice none 0 0∧L=(s.fail 4).L br:=by
  have hf:=fun w1=>rfail_ok br s 4 w1
  refine enterK (tb:=tb) Tryz.func203 rfl Tryz.ntmps203 rfl ?_
  generalize (s.fail 4).L br=L4 at *
  by_cases he:s.e=0
  · have hk:s.xs.length < k:=h.resolve_left fun h=>h he
    simp only [Rs.L,he] at hf ⊢
    repeat' (first|(apply R.is1;first|(apply R.isBin;(apply R.pure;exact rfl;first|(apply Ok1.gtr_t;exact rfl;exact rfl;omega)|(apply Ok1.neq_f;exact rfl;exact rfl;omega)))|(apply R.isCall;first|(apply R.callE (Li:=[(br,.cells ⟨[.slice s.q s.xs.length s.cap,.int .i64 0]⟩ 205 (0,0))]);(iterate 3 exact rfl);(focus ((repeat' (exact Ext.one _ _));done));intro w1 hw1;exact hf w1;rintro v Lo ⟨rfl,rfl⟩)|(apply R.pure;exact rfl;(apply Ok1.lenS;(iterate 3 exact rfl))))|(apply R.pure;exact rfl;first|(apply Ok1.move;exact rfl)|(apply Ok1.fieldAddr;(iterate 5 exact rfl))|(apply Ok1.load;exact rfl;(apply Ld.own1;exact rfl;exact rfl;exact At.head;exact rfl))|(apply Ok1.assign;exact rfl)|(apply Ok1.pick_f;exact rfl;exact rfl)|(apply Ok1.nilCheck;exact rfl)))|(apply R.isG;(apply R.guard_run;exact rfl;exact rfl))|apply R.nil|(apply T.is;first|apply T.seq|apply T.region|apply T.ret|(apply T.cond_t;exact rfl)))
    (apply RetOk.t;exact rfl)
    exact ⟨_,by (focus (repeat' first|exact Ext.here _ _|apply Keep.last);done),rfl,rfl⟩
  · simp only [Rs.L] at hf ⊢
    repeat' (first|(apply R.is1;first|(apply R.isBin;(apply R.pure;exact rfl;(apply Ok1.neq_t;exact rfl;exact rfl;omega)))|(apply R.isCall;(apply R.callE (Li:=[(br,.cells ⟨[.slice s.q s.xs.length s.cap,.int .i64 s.e]⟩ 205 (0,0))]);(iterate 3 exact rfl);(focus ((repeat' (exact Ext.one _ _));done));intro w1 hw1;exact hf w1;rintro v Lo ⟨rfl,rfl⟩))|(apply R.pure;exact rfl;first|(apply Ok1.move;exact rfl)|(apply Ok1.fieldAddr;(iterate 5 exact rfl))|(apply Ok1.load;exact rfl;(apply Ld.own1;exact rfl;exact rfl;exact At.head;exact rfl))|(apply Ok1.assign;exact rfl)|(apply Ok1.pick_t;exact rfl;exact rfl)|(apply Ok1.nilCheck;exact rfl)))|(apply R.isG;(apply R.guard_not;(iterate 3 exact rfl)))|apply R.nil|(apply T.is;first|apply T.seq|apply T.region|apply T.ret|(apply T.cond_t;exact rfl)))
    (apply RetOk.t;exact rfl)
    exact ⟨_,by (focus (repeat' first|exact Ext.here _ _|apply Keep.last);done),rfl,rfl⟩
theorem rtake_ok (br:Nat) (s:Rs) (k:Nat) (he:s.e=0) (hk:k≤s.xs.length) (hc:s.xs.length≤s.cap) (w:World):CallM Tryz.prog 203 [.pointer (some ⟨br,0,none⟩),.int .i64 k] (s.L br) w fun v L=>v = .slice s.q k k∧L=(s.drop k).L br:=by
  refine enterK (tb:=tb) Tryz.func203 rfl Tryz.ntmps203 rfl ?_
  simp only [Rs.L,Rs.drop,he,List.length_drop]
  repeat' (first|(apply R.is1;first|(apply R.isBin;(apply R.pure;exact rfl;first|(apply Ok1.gtr_f;exact rfl;exact rfl;omega)|(apply Ok1.neq_f;exact rfl;exact rfl;omega)))|(apply R.isCall;(apply R.pure;exact rfl;(apply Ok1.lenS;(iterate 3 exact rfl))))|(apply R.pure;exact rfl;first|(apply Ok1.pre3 (j:=k);(iterate 6 exact rfl);omega)|(apply Ok1.sufR (i:=k) (sz:=1);(iterate 6 exact rfl);exact hk;exact hc)|(apply Ok1.move;exact rfl)|(apply Ok1.fieldAddr;(iterate 5 exact rfl))|(apply Ok1.load;exact rfl;(apply Ld.own1;exact rfl;exact rfl;exact At.head;exact rfl))|(apply Ok1.assign;exact rfl)|(apply Ok1.pick_f;exact rfl;exact rfl)|(apply Ok1.nilCheck;exact rfl)))|(apply R.is0;(apply R.store;(iterate 6 exact rfl);exact Upd.head;exact rfl))|(apply R.isG;(apply R.guard_run;exact rfl;exact rfl))|apply R.nil|(apply T.is;first|apply T.seq|apply T.region|apply T.skip|apply T.ret|(apply T.cond_f;exact rfl)))
  (apply RetOk.t;exact rfl)
  exact ⟨_,by (focus (repeat' first|exact Keep.nil _|exact Ext.one _ _|apply Keep.cons);done),rfl,rfl⟩
/-- The next number of k bytes. -/
def Rs.num (s:Rs) (k:Nat):Int × Bool × Rs :=
  if s.e≠0 ∨ s.xs.length < k then (0,false,s.fail 4) else if beN (s.xs.take k)≤9223372036854775807 then (beN (s.xs.take k),true,s.drop k) else (0,false,(s.drop k).fail 3)
theorem pw8 {z k:Nat} (hz:z≤3) (hk:pw z=k):1≤k∧k≤8∧IntKind.i64.wrap (1 * pw (z:Int).toNat)=k:=by
  have:z=0 ∨ z=1 ∨ z=2 ∨ z=3:=by omega
  rcases this with rfl|rfl|rfl|rfl
  · have:k=1:=by have h:pw 0=1:=rfl;omega
    subst this;exact ⟨by decide,by decide,by decide⟩
  · have:k=2:=by have h:pw 1=2:=rfl;omega
    subst this;exact ⟨by decide,by decide,by decide⟩
  · have:k=4:=by have h:pw 2=4:=rfl;omega
    subst this;exact ⟨by decide,by decide,by decide⟩
  · have:k=8:=by have h:pw 3=8:=rfl;omega
    subst this;exact ⟨by decide,by decide,by decide⟩
theorem rnumber_ok (br:Nat) (s:Rs) (z k:Nat) (hz:z≤3) (hk:pw z=k) (w:World) (hs:s.ok br w):CallM Tryz.prog 202 [.pointer (some ⟨br,0,none⟩),.int .i64 z] (s.L br) w fun v L=>v = .tuple #[.int .i64 (s.num k).1,.bool (s.num k).2.1]∧L=(s.num k).2.2.L br:=by
  obtain ⟨hk1,hk8,hwr⟩:=pw8 hz hk
  have hwd:=width_ok (z:Int) k (by omega) (by omega) hwr
  refine enterK (tb:=tb) Tryz.func202 rfl Tryz.ntmps202 rfl ?_
  by_cases h:s.e≠0 ∨ s.xs.length < k
  · have ht:=fun w1=>rtake_no br s k h w1
    rw [Rs.num,if_pos h]
    simp only
    generalize s.L br=L0 at *
    generalize (s.fail 4).L br=L4 at *
    repeat' (first|(apply R.is1;first|(apply R.isBin;(apply R.pure;exact rfl;first|(apply Ok1.lss_f;exact rfl;exact rfl;omega)|(apply Ok1.gtr_f;exact rfl;exact rfl;omega)))|(apply R.isCall;first|apply R.callP rfl rfl rfl hwd|(apply R.callE (Li:=L0);(iterate 3 exact rfl);(focus ((repeat' (exact Ext.all _));done));intro w1 hw1;exact ht w1;rintro v Lo ⟨rfl,rfl⟩)|(apply R.pure;exact rfl;(apply Ok1.lenS;(iterate 3 exact rfl))))|(apply R.pure;exact rfl;first|(apply Ok1.move;exact rfl)|(apply Ok1.assign;exact rfl)|(apply Ok1.convI64;(iterate 5 exact rfl);omega;omega)))|apply R.nil|(apply T.is;first|apply T.rounds 1|apply T.seq|apply T.region|apply T.block|apply T.skip|apply T.exit|apply T.ret|(apply T.cond_f;exact rfl)))
    (apply RetOk.tt;exact rfl;exact rfl)
    exact ⟨_,by (focus (repeat' first|exact Ext.here _ _|apply Keep.last);done),rfl,rfl⟩
  · have he:s.e=0:=Classical.byContradiction fun h1=>h (.inl h1)
    have hkl:k≤s.xs.length:=Nat.le_of_not_lt fun h1=>h (.inr h1)
    have ht:=fun w1=>rtake_ok br s k he hkl hs.cap w1
    have hne:s.xs≠[]:=by intro h0;rw [h0] at hkl;simp at hkl;omega
    have hoff:=hs.off hne
    have hpre:=hs.rd.pre u8V_len k
    have hbt:Byt (s.xs.take k):=fun y hy=>hs.byt y (List.mem_of_mem_take hy)
    have hlt:(s.xs.take k).length=k:=by rw [List.length_take];omega
    have hbe:∀ i≤k,0≤beN ((s.xs.take k).take i)∧beN ((s.xs.take k).take i) < 256 ^ i:=fun i hi=>be_range i _ (by rw [List.length_take];omega) fun y hy=>hbt y (List.mem_of_mem_take hy)
    rw [Rs.num,if_neg h]
    obtain ⟨q,hq⟩:∃ q,q=s.q:=⟨_,rfl⟩
    rw [← hq] at ht hoff hpre
    have hfl:=fun w1=>rfail_ok br (s.drop k) 3 w1
    obtain ⟨S,hS⟩:∃ S,S=blks (s.L br):=⟨_,rfl⟩
    have hoff:Off q S:=by rw [hS];exact hoff
    rw [← hS]
    generalize s.L br=L0 at *
    generalize s.drop k=s1 at *
    generalize s.xs.take k=ys at *
    repeat' (first|(apply R.is1;first|(apply R.isCall;first|apply R.callP rfl rfl rfl hwd|(apply R.callE (Li:=L0);(iterate 3 exact rfl);(focus ((repeat' (exact Ext.all _));done));intro w1 hw1;exact ht w1;rintro v Lo ⟨rfl,rfl⟩)|(apply R.pure;exact rfl;(apply Ok1.lenS;(iterate 3 exact rfl))))|(apply R.pure;exact rfl;first|(apply Ok1.move;exact rfl)|(apply Ok1.assign;exact rfl)))|apply R.nil|(apply T.is;first|apply T.seq|apply T.region|apply T.block))
    apply T.loopK (α:=Nat) (I:=fun i=>i≤k) (σi:=fun i=>[(0,.pointer (some ⟨br,0,none⟩)),(6,.slice q k k),(7,.int .u64 (beN (ys.take i))),(14,.slice q k k),(15,.int .i64 k),(16,.int .i64 i)]) (Li:=fun _=>s1.L br) (μ:=fun i=>k - i) (i0:=0)
    · exact Nat.zero_le _
    · exact ⟨rfl,rfl,rfl,rfl,rfl,rfl,trivial⟩
    · (focus (repeat' first|exact Keep.nil _|exact Ext.one _ _|apply Keep.cons);done)
    · intro i hi
      have hb:=hbe i hi
      rcases Nat.lt_or_ge i k with hlt|hge
      · obtain ⟨y,hy⟩:∃ y,ys[i]? = some y:=⟨_,List.getElem?_eq_getElem (by omega)⟩
        obtain ⟨b,o,hpe,H⟩:=hpre.at hy
        replace H:=H 1 u8V_len
        have hyb:=hbt y (List.mem_of_getElem? hy)
        have hpw:(256:Int) ^ i≤72057594037927936:=by
          have:i=0 ∨ i=1 ∨ i=2 ∨ i=3 ∨ i=4 ∨ i=5 ∨ i=6 ∨ i=7:=by omega
          rcases this with rfl|rfl|rfl|rfl|rfl|rfl|rfl|rfl<;>decide
        have hor:orI .u64 (IntKind.u64.wrap (beN (ys.take i) * pw (Int.toNat 8))) y=beN (ys.take (i+1)):=by
          rw [be_snoc hy]
          obtain ⟨m,hm⟩:∃ m:Nat,beN (ys.take i)=m:=⟨(beN (ys.take i)).toNat,by omega⟩
          obtain ⟨c,hc⟩:∃ c:Nat,y=c:=⟨y.toNat,by omega⟩
          rw [hm,hc,show pw (Int.toNat 8)=256 from rfl,wrap_u64 (by omega) (by omega)]
          exact or8 m c (by omega) (by omega)
        repeat' (first|(apply R.is1;first|(apply R.isBin;(apply R.pure;exact rfl;first|(apply Ok1.shl;exact rfl;exact rfl;omega;exact Nat.le_of_ble_eq_true rfl;exact rfl)|(apply Ok1.orK;exact rfl;exact rfl)|(apply Ok1.add64;exact rfl;exact rfl;omega;omega)|(apply Ok1.lss_t;exact rfl;exact rfl;omega)))|(apply R.pure;exact rfl;first|(apply Ok1.indexAddrP;(iterate 4 exact rfl);exact hpe;exact rfl;omega;omega)|(apply Ok1.load;exact rfl;apply Ld.row1 (f:=0) H;exact rfl;exact hoff _ hpe;(iterate 3 exact rfl))|(apply Ok1.move;exact rfl)|(apply Ok1.assign;exact rfl)|(apply Ok1.convU64;(iterate 5 exact rfl);omega;omega)))|apply R.nil|(apply T.is;first|apply T.seq|apply T.region|apply T.block|apply T.skip|(apply T.cond_t;exact rfl)))
        refine ⟨i+1,by omega,by omega,⟨rfl,rfl,?_,rfl,rfl,rfl,trivial⟩,by (focus (repeat' first|exact Keep.nil _|exact Ext.one _ _|apply Keep.cons);done)⟩
        rw [← hor];rfl
      · have hik:i=k:=by omega
        subst hik
        rw [List.take_of_length_le (by omega)] at hb ⊢
        by_cases hmx:beN ys≤9223372036854775807
        · rw [if_pos hmx]
          repeat' (first|(apply R.is1;first|(apply R.isBin;(apply R.pure;exact rfl;first|(apply Ok1.lss_f;exact rfl;exact rfl;omega)|(apply Ok1.gtr_t;exact rfl;exact rfl;omega)|(apply Ok1.gtr_f;exact rfl;exact rfl;omega)))|(apply R.isCall;(apply R.pure;exact rfl;(apply Ok1.lenS;(iterate 3 exact rfl))))|(apply R.pure;exact rfl;first|(apply Ok1.move;exact rfl)|(apply Ok1.assign;exact rfl)|(apply Ok1.convI64;(iterate 5 exact rfl);omega;omega)))|apply R.nil|(apply T.is;first|apply T.seq|apply T.region|apply T.skip|apply T.exit|apply T.ret|(apply T.cond_f;exact rfl)))
          (apply RetOk.tt;exact rfl;exact rfl)
          exact ⟨_,by (focus (repeat' first|exact Keep.nil _|exact Ext.one _ _|apply Keep.cons);done),rfl,rfl⟩
        · rw [if_neg hmx]
          repeat' (first|(apply R.is1;first|(apply R.isBin;(apply R.pure;exact rfl;first|(apply Ok1.lss_f;exact rfl;exact rfl;omega)|(apply Ok1.gtr_t;exact rfl;exact rfl;omega)))|(apply R.isCall;(apply R.callE (Li:=s1.L br);(iterate 3 exact rfl);(focus ((repeat' (exact Ext.one _ _));done));intro w1 hw1;exact hfl w1;rintro v Lo ⟨rfl,rfl⟩))|(apply R.pure;exact rfl;first|(apply Ok1.move;exact rfl)|(apply Ok1.assign;exact rfl)))|apply R.nil|(apply T.is;first|apply T.seq|apply T.region|apply T.exit|apply T.ret|(apply T.cond_t;exact rfl)|(apply T.cond_f;exact rfl)))
          (apply RetOk.tt;exact rfl;exact rfl)
          exact ⟨_,by (focus (repeat' first|exact Keep.nil _|exact Ext.one _ _|apply Keep.cons);done),rfl,rfl⟩
/-- A field of a number. -/
def Rs.get (s:Rs) (z k:Nat):List Value:=if (s.num k).2.1=true then fldV z (s.num k).1 else fldV 0 0
theorem rget_ok (br:Nat) (s:Rs) (z k:Nat) (hz:z≤3) (hk:pw z=k) (w:World) (hs:s.ok br w):CallM Tryz.prog 151 [.pointer (some ⟨br,0,none⟩),.int .i64 z] (s.L br) w fun v L=>v = .agg ⟨s.get z k⟩∧L=(s.num k).2.2.L br:=by
  have hn:=fun w1 h1=>rnumber_ok br s z k hz hk w1 h1
  refine enterK (tb:=tb) Tryz.func151 rfl Tryz.ntmps151 rfl ?_
  have hin:∀ w1 S,Chg S w w1→S=blks (s.L br)→s.ok br w1:=fun w1 S hc hS=>⟨hs.rd.chg' hc (fun h=>hS ▸ hs.off h),hs.cap,hs.off,hs.byt,hs.big⟩
  rw [Rs.get]
  generalize s.num k=r at *
  obtain ⟨v1,v2,s'⟩:=r
  simp only at hn ⊢
  obtain ⟨S,hS⟩:∃ S,S=blks (s.L br):=⟨_,rfl⟩
  rw [← hS]
  generalize s.L br=L0 at *
  cases v2 with
  | true =>
    repeat' (first|(apply R.is1;first|(apply R.isBin;(apply R.pure;exact rfl;first|(apply Ok1.lss_t;exact rfl;exact rfl;omega)|(apply Ok1.lss_f;exact rfl;exact rfl;omega)|(apply Ok1.gtr_f;exact rfl;exact rfl;omega)|(apply Ok1.eqlP;(iterate 5 exact rfl))))|(apply R.isCall;(apply R.callE (Li:=L0);(iterate 3 exact rfl);(focus (repeat' first|exact Ext.all _|apply Ext.cons);done);intro w1 hw1;exact hn w1 (hin w1 _ hw1.chg hS);rintro v Lo ⟨rfl,rfl⟩))|(apply R.pure;exact rfl;first|(apply Ok1.move;exact rfl)|(apply Ok1.fieldAddr;(iterate 5 exact rfl))|(apply Ok1.assign;exact rfl)|(apply Ok1.build;(iterate 5 exact rfl))|(apply Ok1.extract;exact rfl;exact rfl)|(apply Ok1.pick_f;exact rfl;exact rfl)|(apply Ok1.not_t;exact rfl)|(apply Ok1.nilCheck;exact rfl))|(apply R.alloc;(iterate 3 exact rfl);intro))|(apply R.is0;(apply R.store;(iterate 6 exact rfl);(focus (repeat' first|exact Upd.head|apply Upd.tail);done);exact rfl))|(apply R.isG;(apply R.guard_run;exact rfl;exact rfl))|apply R.nil|(apply T.is;first|apply T.seq|apply T.region|apply T.block|apply T.skip|apply T.ret|(apply T.cond_t;exact rfl)|(apply T.cond_f;exact rfl)))
    (apply RetOk.c;exact rfl;((apply Ld.ownk;exact rfl;exact rfl;(focus (repeat' first|exact At.head|apply At.tail);done);exact rfl)))
    exact ⟨_,by (focus (repeat' first|exact Keep.nil _|exact Ext.one _ _|apply Keep.cons);done),rfl,rfl⟩
  | false =>
    repeat' (first|(apply R.is1;first|(apply R.isBin;(apply R.pure;exact rfl;first|(apply Ok1.lss_t;exact rfl;exact rfl;omega)|(apply Ok1.lss_f;exact rfl;exact rfl;omega)|(apply Ok1.gtr_f;exact rfl;exact rfl;omega)|(apply Ok1.eqlP;(iterate 5 exact rfl))))|(apply R.isCall;(apply R.callE (Li:=L0);(iterate 3 exact rfl);(focus (repeat' first|exact Ext.all _|apply Ext.cons);done);intro w1 hw1;exact hn w1 (hin w1 _ hw1.chg hS);rintro v Lo ⟨rfl,rfl⟩))|(apply R.pure;exact rfl;first|(apply Ok1.move;exact rfl)|(apply Ok1.fieldAddr;(iterate 5 exact rfl))|(apply Ok1.assign;exact rfl)|(apply Ok1.build;(iterate 5 exact rfl))|(apply Ok1.extract;exact rfl;exact rfl)|(apply Ok1.pick_f;exact rfl;exact rfl)|(apply Ok1.not_f;exact rfl)|(apply Ok1.nilCheck;exact rfl))|(apply R.alloc;(iterate 3 exact rfl);intro))|(apply R.is0;(apply R.store;(iterate 6 exact rfl);(focus (repeat' first|exact Upd.head|apply Upd.tail);done);exact rfl))|(apply R.isG;(apply R.guard_run;exact rfl;exact rfl))|apply R.nil|(apply T.is;first|apply T.seq|apply T.region|apply T.block|apply T.ret|(apply T.cond_t;exact rfl)|(apply T.cond_f;exact rfl)))
    (apply RetOk.c;exact rfl;((apply Ld.ownk;exact rfl;exact rfl;(focus (repeat' first|exact At.head|apply At.tail);done);exact rfl)))
    exact ⟨_,by (focus (repeat' first|exact Keep.nil _|exact Ext.one _ _|apply Keep.cons);done),rfl,rfl⟩
theorem rnum_ok (br:Nat) (s:Rs) (z k:Nat) (hz:z≤3) (hk:pw z=k) (w:World) (hs:s.ok br w):CallM Tryz.prog 76 [.pointer (some ⟨br,0,none⟩),.int .i64 z] (s.L br) w fun v L=>v = .int .i64 (s.num k).1∧L=(s.num k).2.2.L br:=by
  have hn:=fun w1 h1=>rget_ok br s z k hz hk w1 h1
  have hin:∀ w1 S,Chg S w w1→S=blks (s.L br)→s.ok br w1:=fun w1 S hc hS=>⟨hs.rd.chg' hc (fun h=>hS ▸ hs.off h),hs.cap,hs.off,hs.byt,hs.big⟩
  have h0:(s.num k).2.1=false→(s.num k).1=0:=by
    unfold Rs.num
    split
    · exact fun _=>rfl
    · split
      · intro h;cases h
      · exact fun _=>rfl
  have hv:∃ v0,s.get z k=[v0,.int .i64 (s.num k).1,.slice none 0 0]:=by
    unfold Rs.get fldV
    cases h:(s.num k).2.1 with
    | true=>exact ⟨_,rfl⟩
    | false=>rw [h0 h];exact ⟨_,rfl⟩
  obtain ⟨v0,hv⟩:=hv
  rw [hv] at hn
  refine enterK (tb:=tb) Tryz.func76 rfl Tryz.ntmps76 rfl ?_
  generalize s.num k=r at *
  obtain ⟨v1,v2,s'⟩:=r
  simp only at hn ⊢
  obtain ⟨S,hS⟩:∃ S,S=blks (s.L br):=⟨_,rfl⟩
  rw [← hS]
  generalize s.L br=L0 at *
  repeat' (first|(apply R.is1;first|(apply R.isBin;(apply R.pure;exact rfl;first|(apply Ok1.eql_f;exact rfl;exact rfl;omega)|(apply Ok1.neqP;(iterate 5 exact rfl))))|(apply R.isCall;(apply R.callE (Li:=L0);(iterate 3 exact rfl);(focus ((repeat' (exact Ext.all _));done));intro w1 hw1;exact hn w1 (hin w1 _ hw1.chg hS);rintro v Lo ⟨rfl,rfl⟩))|(apply R.pure;exact rfl;first|(apply Ok1.move;exact rfl)|(apply Ok1.assign;exact rfl)|(apply Ok1.pick_t;exact rfl;exact rfl)|(apply Ok1.field1;(iterate 7 exact rfl))))|(apply R.isG;(apply R.guard_run;exact rfl;exact rfl))|apply R.nil|(apply T.is;first|apply T.seq|apply T.region|apply T.skip|apply T.ret|(apply T.cond_f;exact rfl)))
  (apply RetOk.t;exact rfl)
  exact ⟨_,by (focus (repeat' first|exact Keep.nil _|exact Ext.one _ _|apply Keep.cons);done),rfl,rfl⟩
theorem rerr_ok (br:Nat) (s:Rs) (w:World) (hb:w.heap[br]? = some (.cells ⟨[.slice s.q s.xs.length s.cap,.int .i64 s.e]⟩ 205 (0,0))):CallW Tryz.prog 96 [.pointer (some ⟨br,0,none⟩)] w fun v _=>v = .int .i64 s.e:=by
  refine enterW (tb:=tb) Tryz.func96 rfl Tryz.ntmps96 rfl ?_
  repeat' (first|(apply R.is1;first|(apply R.isBin;(apply R.pure;exact rfl;(apply Ok1.eqlP;(iterate 5 exact rfl))))|(apply R.pure;exact rfl;first|(apply Ok1.move;exact rfl)|(apply Ok1.fieldAddr;(iterate 5 exact rfl))|(apply Ok1.load;exact rfl;(apply Ld.blk1;exact rfl;exact rfl;assumption;(exact List.not_mem_nil);exact rfl))|(apply Ok1.assign;exact rfl)|(apply Ok1.nilCheck;exact rfl)))|apply R.nil|(apply T.is;first|apply T.seq|apply T.region|apply T.skip|apply T.ret|(apply T.cond_f;exact rfl)))
  (apply RetOk.t;exact rfl)
  rfl
theorem rleft_ok (br:Nat) (s:Rs) (w:World) (hb:w.heap[br]? = some (.cells ⟨[.slice s.q s.xs.length s.cap,.int .i64 s.e]⟩ 205 (0,0))):CallW Tryz.prog 163 [.pointer (some ⟨br,0,none⟩)] w fun v _=>v = .int .i64 s.xs.length:=by
  refine enterW (tb:=tb) Tryz.func163 rfl Tryz.ntmps163 rfl ?_
  repeat' (first|(apply R.is1;first|(apply R.isBin;(apply R.pure;exact rfl;(apply Ok1.eqlP;(iterate 5 exact rfl))))|(apply R.isCall;(apply R.pure;exact rfl;(apply Ok1.lenS;(iterate 3 exact rfl))))|(apply R.pure;exact rfl;first|(apply Ok1.move;exact rfl)|(apply Ok1.fieldAddr;(iterate 5 exact rfl))|(apply Ok1.load;exact rfl;(apply Ld.blk1;exact rfl;exact rfl;assumption;(exact List.not_mem_nil);exact rfl))|(apply Ok1.assign;exact rfl)|(apply Ok1.nilCheck;exact rfl)))|apply R.nil|(apply T.is;first|apply T.seq|apply T.region|apply T.skip|apply T.ret|(apply T.cond_f;exact rfl)))
  (apply RetOk.t;exact rfl)
  rfl
def Rs.fin (s:Rs):Int:=if s.e≠0 then s.e else if 0 < s.xs.length then 3 else 0
theorem rend_ok (br:Nat) (s:Rs) (w:World) (hb:w.heap[br]? = some (.cells ⟨[.slice s.q s.xs.length s.cap,.int .i64 s.e]⟩ 205 (0,0))):CallW Tryz.prog 100 [.pointer (some ⟨br,0,none⟩)] w fun v _=>v = .int .i64 s.fin:=by
  have h1:=fun w1 (hc:Chg [] w w1)=>rerr_ok br s w1 (hc.heap hb List.not_mem_nil)
  have h2:=fun w1 (hc:Chg [] w w1)=>rleft_ok br s w1 (hc.heap hb List.not_mem_nil)
  refine enterW (tb:=tb) Tryz.func100 rfl Tryz.ntmps100 rfl ?_
  rw [Rs.fin]
  by_cases he:s.e=0
  · rw [if_neg (fun h=>h he)]
    rw [he] at h1
    by_cases hx:0 < s.xs.length
    · rw [if_pos hx]
      repeat' (first|(apply R.is1;first|(apply R.isBin;(apply R.pure;exact rfl;first|(apply Ok1.gtr_t;exact rfl;exact rfl;omega)|(apply Ok1.neq_f;exact rfl;exact rfl;omega)))|(apply R.isCall;(apply R.callV;(iterate 3 exact rfl);intro w1 hw1;first|exact h1 w1 hw1.chg|exact h2 w1 hw1.chg))|(apply R.pure;exact rfl;first|(apply Ok1.move;exact rfl)|(apply Ok1.assign;exact rfl)))|apply R.nil|(apply T.is;first|apply T.seq|apply T.region|apply T.skip|apply T.ret|(apply T.cond_t;exact rfl)|(apply T.cond_f;exact rfl)))
      (apply RetOk.t;exact rfl)
      rfl
    · rw [if_neg hx]
      repeat' (first|(apply R.is1;first|(apply R.isBin;(apply R.pure;exact rfl;first|(apply Ok1.gtr_f;exact rfl;exact rfl;omega)|(apply Ok1.neq_f;exact rfl;exact rfl;omega)))|(apply R.isCall;(apply R.callV;(iterate 3 exact rfl);intro w1 hw1;first|exact h1 w1 hw1.chg|exact h2 w1 hw1.chg))|(apply R.pure;exact rfl;first|(apply Ok1.move;exact rfl)|(apply Ok1.assign;exact rfl)))|apply R.nil|(apply T.is;first|apply T.seq|apply T.region|apply T.skip|apply T.ret|(apply T.cond_f;exact rfl)))
      (apply RetOk.t;exact rfl)
      rfl
  · rw [if_pos he]
    repeat' (first|(apply R.is1;first|(apply R.isBin;(apply R.pure;exact rfl;(apply Ok1.neq_t;exact rfl;exact rfl;omega)))|(apply R.isCall;(apply R.callV;(iterate 3 exact rfl);intro w1 hw1;exact h1 w1 hw1.chg))|(apply R.pure;exact rfl;first|(apply Ok1.move;exact rfl)|(apply Ok1.assign;exact rfl)))|apply R.nil|(apply T.is;first|apply T.seq|apply T.region|apply T.ret|(apply T.cond_t;exact rfl)))
    (apply RetOk.t;exact rfl)
    rfl
/-- A reader whose bytes lie in known blocks. -/
structure RsO (s:Rs) (M:Lst):Prop where
  rd:∀ (w0 w:World) (S:List Nat) (L':Lst),Hp w0 S L' w→(∀ z∈M,z∈L')→RdSl w s.q u8V s.xs
  adr:s.xs≠[]→∃ b o,s.q=some ⟨b,o,none⟩∧b∈blks M
  cap:s.xs.length≤s.cap
  byt:Byt s.xs
  big:s.xs.length≤1000000000
theorem RsO.ok {s:Rs} {M:Lst} (h:RsO s M) {br:Nat} {w0 w:World} {S:List Nat} {L Lr:Lst} (hw:Hp w0 S L w) (he:Ext L (s.L br) Lr) (hin:∀ z∈M,z∈Lr):s.ok br w:=by
  refine ⟨h.rd _ _ _ _ hw fun z hz=>he.perm.subset (List.mem_append_right _ (hin z hz)),h.cap,fun hne a ha=>?_,h.byt,h.big⟩
  obtain ⟨b,o,hp,hb⟩:=h.adr hne
  rw [hp] at ha
  cases ha
  obtain ⟨z,hz,hze⟩:=List.mem_map.1 hb
  obtain ⟨zb,zo⟩:=z
  simp only at hze
  subst hze
  exact RdSl.off hw he (hin _ hz)
theorem RsO.fail {s:Rs} {M:Lst} (h:RsO s M) (e:Int):RsO (s.fail e) M:=by
  unfold Rs.fail
  split
  · exact ⟨fun _ _ _ _ _ _=>.inl rfl,(fun h=>absurd rfl h),Nat.zero_le _,(fun y hy=>by cases hy),Nat.zero_le _⟩
  · exact h
theorem RsO.drop {s:Rs} {M:Lst} (h:RsO s M) {k:Nat} (hk:k≤s.xs.length):RsO (s.drop k) M:=by
  refine ⟨fun w0 w S L' hw hin=>(h.rd w0 w S L' hw hin).suf u8V_len hk h.cap,fun hne=>?_,?_,fun y hy=>h.byt y (List.mem_of_mem_drop hy),?_⟩
  · have h1:s.xs≠[]:=by intro h0;apply hne;simp [Rs.drop,h0]
    obtain ⟨b,o,hp,hb⟩:=h.adr h1
    by_cases hc:s.cap=k
    · exfalso;apply hne;simp only [Rs.drop];exact List.drop_of_length_le (by have:=h.cap;omega)
    · exact ⟨b,o+k * 1,by simp [Rs.drop,sufP,hc,hp,Addr.add_none],hb⟩
  · have:=h.cap;simp only [Rs.drop,List.length_drop];omega
  · have:=h.big;simp only [Rs.drop,List.length_drop];omega
theorem RsO.num {s:Rs} {M:Lst} (h:RsO s M) (k:Nat):RsO (s.num k).2.2 M:=by
  unfold Rs.num
  split
  · exact h.fail 4
  · rename_i hn
    have hk:k≤s.xs.length:=Nat.le_of_not_lt fun h1=>hn (.inr h1)
    split
    · exact h.drop hk
    · exact (h.drop hk).fail 3
theorem ovc_leR {n:Nat} {ov:Ov} {xs:List Value} (h:OvOk 1 ov n xs):n≤ovc ov n:=by
  unfold ovc
  cases ov with
  | none=>have:=h.2;simp only at this ⊢;omega
  | some q=>simp only;omega
theorem rnewr_ok (p:Option Addr) (n cap:Nat) (xs:List Int) (hn:n=xs.length) (hbig:n≤1000000000) (hb:Byt xs) (w:World) (hp:RdSl w p u8V xs) :
    CallM Tryz.prog 26 [.slice p n cap] [] w fun v L=>∃ br s M,v = .pointer (some ⟨br,0,none⟩)∧s.xs=(if n≤1024 then xs else [])∧s.e=(if n≤1024 then 0 else 2)∧RsO s M∧L=s.L br++M:=by
  have hcl:=fun w1 (hc:Chg [] w w1)=>clone_ok p n cap xs hn hbig w1 (hp.chg' hc (fun _=>Off.nil _))
  subst hn
  have hro:∀ ov,OvOk 1 ov xs.length (u8s xs)→RsO ⟨ovp ov,ovc ov xs.length,xs,0⟩ (blkL 5 ov (u8s xs)):=fun ov hov=>by
    rw [← fl_u8] at hov ⊢
    refine ⟨fun w0 w S L' hw hin=>RdSl.own' hw hin hov u8V_len,fun hne=>?_,?_,hb,hbig⟩
    · cases ov with
      | none=>exact absurd (List.eq_nil_of_length_eq_zero hov.2) hne
      | some q=>exact ⟨_,_,rfl,by simp [blks,blkL]⟩
    · exact ovc_leR hov
  refine enterK (tb:=tb) Tryz.func26 rfl Tryz.ntmps26 rfl ?_
  by_cases hl:xs.length≤1024
  · repeat' (first|(apply R.is1;first|(apply R.isBin;(apply R.pure;exact rfl;(apply Ok1.gtr_f;exact rfl;exact rfl;omega)))|(apply R.isCall;first|(apply R.callE;(iterate 3 exact rfl);exact Ext.none _;intro w1 hw1;exact hcl w1 hw1.chg;rintro v Lo ⟨ov,hov,hsome,rfl,rfl⟩;rw [slV_eq hov])|(apply R.pure;exact rfl;(apply Ok1.lenS;(iterate 3 exact rfl))))|(apply R.pure;exact rfl;first|(apply Ok1.move;exact rfl)|(apply Ok1.assign;exact rfl)|(apply Ok1.build;(iterate 5 exact rfl)))|(apply R.box;(iterate 3 exact rfl);intro))|apply R.nil|(apply T.is;first|apply T.seq|apply T.region|apply T.skip|apply T.ret|(apply T.cond_f;exact rfl)))
    (apply RetOk.t;exact rfl)
    refine ⟨_,?_,_,⟨ovp ov,ovc ov xs.length,xs,0⟩,_,rfl,by simp only [if_pos hl],by simp only [if_pos hl],hro ov hov,rfl⟩
    simp only [Rs.L,List.append_nil,List.cons_append,List.nil_append]
    (focus (repeat' first|exact Ext.one _ _|exact Ext.all _|apply Keep.cons|apply Keep.last);done)
  · repeat' (first|(apply R.is1;first|(apply R.isBin;(apply R.pure;exact rfl;(apply Ok1.gtr_t;exact rfl;exact rfl;omega)))|(apply R.isCall;first|(apply R.callE (vs:=[.slice p xs.length cap]);(iterate 3 exact rfl);exact Ext.none _;intro w1 hw1;exact hcl w1 hw1.chg;rintro v Lo ⟨ov,hov,hsome,rfl,rfl⟩;rw [slV_eq hov])|(apply R.callE (Li:=[(_,.cells ⟨[.slice (ovp ov) xs.length (ovc ov xs.length),.int .i64 0]⟩ 205 (0,0))]);(iterate 3 exact rfl);(focus ((repeat' (exact Ext.one _ _));done));intro w1 hw1;exact rfail_ok _ ⟨ovp ov,ovc ov xs.length,xs,0⟩ 2 w1;rintro v Lo ⟨rfl,rfl⟩)|(apply R.pure;exact rfl;(apply Ok1.lenS;(iterate 3 exact rfl))))|(apply R.pure;exact rfl;first|(apply Ok1.move;exact rfl)|(apply Ok1.fieldAddr;(iterate 5 exact rfl))|(apply Ok1.assign;exact rfl)|(apply Ok1.build;(iterate 5 exact rfl))|(apply Ok1.nilCheck;exact rfl))|(apply R.box;(iterate 3 exact rfl);intro))|apply R.nil|(apply T.is;first|apply T.seq|apply T.region|apply T.ret|(apply T.cond_t;exact rfl)))
    (apply RetOk.t;exact rfl)
    refine ⟨_,?_,_,(⟨ovp ov,ovc ov xs.length,xs,0⟩:Rs).fail 2,_,rfl,by simp only [if_neg hl,Rs.fail,if_pos],by simp only [if_neg hl,Rs.fail,if_pos],(hro ov hov).fail 2,rfl⟩
    simp only [Rs.L,List.append_nil,List.cons_append,List.nil_append]
    (focus (repeat' first|exact Ext.one _ _|exact Ext.all _|apply Keep.cons|apply Keep.last);done)
/-- What is left behind so many numbers of two bytes,and these. -/
def Rs.st (s:Rs):Nat→Rs
  | 0=>s
  | k+1=>if (s.st k).e=0 then ((s.st k).num 2).2.2 else s.st k
def Rs.vs (s:Rs) (n:Nat):List Int:=(List.range n).map fun k=>((s.st k).num 2).1
theorem Rs.vs_snoc (s:Rs) (n:Nat):s.vs (n+1)=s.vs n++[((s.st n).num 2).1]:=by simp [Rs.vs,List.range_succ]
/-- A log: from where,its serials;what is left. -/
def Rs.log1 (s:Rs):(Int × List Int) × Rs :=
  let a:=s.num 2
  let b:=a.2.2.num 2
  ((a.1,b.2.2.vs b.1.toNat),b.2.2.st b.1.toNat)
def Rs.logs (s:Rs):Nat→List (Int × List Int) × Rs
  | 0=>([],s)
  | k+1=>((s.logs k).1++[(s.logs k).2.log1.1],(s.logs k).2.log1.2)
theorem Rs.num_range (s:Rs) (k:Nat) (hb:Byt s.xs) (hk:k=2):0≤(s.num k).1∧(s.num k).1≤65535:=by
  subst hk
  unfold Rs.num
  split
  · exact ⟨Int.le_refl _,by simp⟩
  · rename_i hn
    have hl:(s.xs.take 2).length=2:=by rw [List.length_take];have:=Nat.le_of_not_lt fun h=>hn (.inr h);omega
    have hr:=be_range 2 (s.xs.take 2) hl fun y hy=>hb y (List.mem_of_mem_take hy)
    split
    · exact ⟨hr.1,by have:=hr.2;omega⟩
    · exact ⟨Int.le_refl _,by simp⟩
theorem Rs.num_bad {s:Rs} (h:s.e≠0) (k:Nat):s.num k=(0,false,s):=by
  unfold Rs.num
  rw [if_pos (.inl h),Rs.fail,if_neg h]
theorem Rs.st_e {s:Rs} (h:s.e≠0) (n:Nat):s.st n=s:=by
  induction n with
  | zero=>rfl
  | succ n ih=>rw [Rs.st,ih,if_neg h]
theorem RsO.st {s:Rs} {M:Lst} (h:RsO s M) (n:Nat):RsO (s.st n) M:=by
  induction n with
  | zero=>exact h
  | succ n ih =>
    rw [Rs.st]
    split
    · exact ih.num 2
    · exact ih
theorem RsO.log1 {s:Rs} {M:Lst} (h:RsO s M):RsO s.log1.2 M:=((h.num 2).num 2).st _
theorem RsO.logs {s:Rs} {M:Lst} (h:RsO s M) (n:Nat):RsO (s.logs n).2 M:=by
  induction n with
  | zero=>exact h
  | succ n ih=>exact ih.log1
theorem RsO.ok' {s:Rs} {M:Lst} (h:RsO s M) (br:Nat):∀ (w0 w:World) (S:List Nat) (L Lr:Lst),Hp w0 S L w→Ext L (s.L br) Lr→(∀ z∈M,z∈Lr)→s.ok br w:=fun _ _ _ _ _ a b c=>h.ok a b c
theorem u2:pw 1=2:=rfl
theorem suf0 (p:Option Addr) (c:Nat):sufP p c 0 1=p:=by
  unfold sufP
  split
  · rfl
  · cases p<;>simp [Addr.add]
theorem DlO.own {d:Dl} {L:Lst} (h:DlO d L) {ov:Ov} {xs:List Int} (hov:OvOk 1 ov xs.length (iis xs)) (f:Int):DlO (d++[(f,⟨ovp ov,ovc ov xs.length,xs⟩)]) (blkL 3 ov (iis xs)++L):=by
  have:=h.snoc hov f (k:=0) (c:=ovc ov xs.length) (m:=ovc ov xs.length) (Nat.zero_le _) (ovc_le hov) (by have:=ovc_le hov;omega)
  rwa [suf0,List.drop_zero] at this
theorem DlO.mono {d:Dl} {L L':Lst} (h:DlO d L) (hs:∀ z∈L,z∈L'):DlO d L' :=
  ⟨h.cap,fun x hx hne=>by obtain ⟨b,o,h1,h2⟩:=h.adr x hx hne;obtain ⟨z,hz,e⟩:=List.mem_map.1 h2;exact ⟨b,o,h1,List.mem_map.2 ⟨z,hs z hz,e⟩⟩,fun w0 w S L' hw hin=>h.rd w0 w S L' hw fun z hz=>hin z (hs z hz)⟩
def nod:Dl:=List.replicate 4 (0,⟨none,0,[]⟩)
theorem nod_v:dlV nod=noD:=rfl
theorem nod_o (L:Lst):DlO nod L:=by
  have h0:∀ x∈nod,x=(0,⟨none,0,[]⟩):=fun x hx=>List.eq_of_mem_replicate hx
  exact ⟨fun x hx=>by rw [h0 x hx];exact Nat.le_refl _,fun x hx hne=>absurd (by rw [h0 x hx]) hne,fun _ _ _ _ _ _ x hx=>by rw [h0 x hx];exact .inl rfl⟩
theorem dok_dr (d:Dl):DOk d ↔ DR (pur d):=by
  constructor
  · intro h y hy
    obtain ⟨x,hx,rfl⟩:=List.mem_map.1 hy
    exact h x hx
  · intro h x hx
    exact h _ (List.mem_map.2 ⟨x,hx,rfl⟩)
theorem dl_len8r {d:Dl} (h:d.length=4):(dlV d).length=8:=by simp [dlV,fl_pi,iis_len,h]
theorem dl_oner (d:Dl):(dlV d).all Value.oneCell'=true:=by
  rw [dlV,List.all_append,iis_one,fl_pi]
  simp [List.all_map,Function.comp_def,Value.oneCell']
/-- A delta read: the delta,and the error. -/
def prs (s:Rs):List (Int × List Int) × Int :=
  if (s.logs 4).2.fin≠0 then (List.replicate 4 (0,[]),(s.logs 4).2.fin) else if DR (s.logs 4).1 then ((s.logs 4).1,0) else (List.replicate 4 (0,[]),3)
theorem parse_ok (p:Option Addr) (n cap:Nat) (xs:List Int) (hn:n=xs.length) (hbig:n≤1000000000) (hb:Byt xs) (w:World) (hp:RdSl w p u8V xs) :
    CallM Tryz.prog 27 [.slice p n cap] [] w fun v L=>∃ (s:Rs) (d:Dl),s.xs=(if n≤1024 then xs else [])∧s.e=(if n≤1024 then 0 else 2)∧d.length=4∧v = .tuple #[.agg ⟨dlV d⟩,.int .i64 (prs s).2]∧pur d=(prs s).1∧DlO d L:=by
  have hnew:=fun w1 (hc:Chg [] w w1)=>rnewr_ok p n cap xs hn hbig hb w1 (hp.chg' hc (fun _=>Off.nil _))
  refine enterK (tb:=tb) Tryz.func27 rfl Tryz.ntmps27 rfl ?_
  repeat' (first|(apply R.is1;first|(apply R.isCall;(apply R.callE (vs:=[.slice p n cap]);(iterate 3 exact rfl);exact Ext.none _;intro w1 hw1;exact hnew w1 hw1.chg;rintro v Lo ⟨br,s0,M,rfl,hs1,hs2,hso,rfl⟩))|(apply R.pure;exact rfl;first|(apply Ok1.move;exact rfl)|(apply Ok1.assign;exact rfl))|(apply R.alloc;(iterate 3 exact rfl);intro))|apply R.nil|(apply T.is;first|apply T.seq|apply T.region|apply T.block))
  rename_i bo bd
  clear hnew
  apply T.loopK (α:=Nat × Dl × Lst) (I:=fun y=>y.1≤4∧y.2.1.length=y.1∧DlO y.2.1 y.2.2∧((s0.logs y.1).2.e=0→pur y.2.1=(s0.logs y.1).1)∧∀ x∈y.2.1,x.2.xs.length≤65536) (σi:=fun y=>[(2,.pointer (some ⟨bo,0,none⟩)),(4,.pointer (some ⟨br,0,none⟩)),(5,.pointer (some ⟨bd,0,none⟩)),(10,.int .i64 y.1)])
    (Li:=fun y=>(bo,.cells ⟨noD⟩ 76 (0,0))::(bd,.cells ⟨padV y.2.1⟩ 76 (0,0))::((s0.logs y.1).2.L br++(M++y.2.2))) (μ:=fun y=>4 - y.1) (i0:=(0,[],[]))
  · exact ⟨Nat.zero_le _,rfl,DlO.nil _,fun _=>rfl,by simp⟩
  · exact ⟨rfl,rfl,rfl,rfl,trivial⟩
  · simp only [Rs.logs,pad0,noD]
    (focus (repeat' first|exact Keep.nil _|exact Ext.one _ _|exact Ext.here _ _|exact Ext.all _|apply Keep.cons|apply Keep.app|apply Ext.cons|apply Ext.app);done)
  · rintro ⟨i,dd,D⟩ ⟨hi,hdl,hdo,hpur,h65⟩
    simp only at hi hdl hdo hpur h65 ⊢
    have hsi:=hso.logs i
    rcases Nat.lt_or_ge i 4 with hlt|hge
    · have hst1 : (s0.logs (i+1)).2=(s0.logs i).2.log1.2:=rfl
      have hst2:(s0.logs (i+1)).1=(s0.logs i).1++[(s0.logs i).2.log1.1]:=rfl
      generalize hsn:s0.logs (i+1)=sn at *
      generalize hs9:(s0.logs i)=sf at *
      obtain ⟨pd,s⟩:=sf
      simp only at *
      have hn1:=fun w1 h1=>rnum_ok br s 1 2 (by decide) u2 w1 h1
      have hs2o:=hsi.num 2
      have hf:=pad_from hdl hlt (s.num 2).1
      unfold Rs.log1 at hst1 hst2
      simp only at hst1 hst2
      have hebad:s.e≠0→(s.num 2).2.2.e≠0:=fun h=>by rw [Rs.num_bad h];exact h
      generalize (s.num 2).1=f at *
      generalize (s.num 2).2.2=s' at *
      have hn2:=fun w1 h1=>rnum_ok br s' 1 2 (by decide) u2 w1 h1
      have hs3o:=hs2o.num 2
      have hnr:=s'.num_range 2 hs2o.byt rfl
      have hebad2:s'.e≠0→(s'.num 2).2.2.e≠0:=fun h=>by rw [Rs.num_bad h];exact h
      obtain ⟨nn,hnn⟩:∃ nn:Nat,(s'.num 2).1=nn:=⟨(s'.num 2).1.toNat,by omega⟩
      rw [hnn] at hst1 hst2 hn2 hnr
      simp only [Int.toNat_natCast] at hst1 hst2
      generalize (s'.num 2).2.2=t at *
      have hk1:=hsi.ok' br
      have hk2:=hs2o.ok' br
      generalize hL0:s.L br=L0 at *
      generalize hL1:s'.L br=L1 at *
      generalize hL2:t.L br=L2 at *
      repeat' (first|(apply R.is1;first|(apply R.isBin;(apply R.pure;exact rfl;(apply Ok1.lss_t;exact rfl;exact rfl;omega)))|(apply R.isCall;first|(apply R.callE (Li:=L0) (vs:=[.pointer (some ⟨br,0,none⟩),.int .i64 1]);(iterate 3 exact rfl);(focus (repeat' first|exact Ext.here _ _|apply Ext.cons|apply Ext.app);done);intro w1 hw1;exact hn1 w1 (hk1 _ _ _ _ _ hw1 (by (focus (repeat' first|exact Ext.here _ _|apply Ext.cons);done)) (Ext.mem (by (focus (repeat' first|exact Ext.here _ _|apply Ext.cons);done))));rintro v Lo ⟨rfl,hq⟩;rw [hq];clear hq)|(apply R.callE (Li:=L1) (vs:=[.pointer (some ⟨br,0,none⟩),.int .i64 1]);(iterate 3 exact rfl);(focus ((repeat' (exact Ext.here _ _));done));intro w1 hw1;exact hn2 w1 (hk2 _ _ _ _ _ hw1 (by (focus ((repeat' (exact Ext.here _ _));done))) (Ext.mem (by (focus (repeat' first|exact Ext.here _ _|apply Ext.cons);done))));rintro v Lo ⟨rfl,hq⟩;rw [hq];clear hq))|(apply R.pure;exact rfl;first|(apply Ok1.move;exact rfl)|(apply Ok1.fieldAddr;(iterate 5 exact rfl))|(apply Ok1.assign;exact rfl)|(apply Ok1.indexAddrA;(iterate 5 exact rfl);omega;omega)))|(apply R.is0;(apply R.store;(iterate 6 exact rfl);(focus (repeat' first|exact Upd.head|apply Upd.tail|apply Upd.right);done);exact hf))|apply R.nil|(apply T.is;first|apply T.seq|apply T.region|apply T.block|apply T.skip|(apply T.cond_t;exact rfl)))
      apply T.loopK (α:=Nat × List Int × Ov) (I:=fun y=>y.1≤nn∧y.2.1.length≤y.1∧OvOk 1 y.2.2 y.2.1.length (iis y.2.1)∧((t.st y.1).e=0→y.2.1=t.vs y.1)) (σi:=fun y=>[(2,.pointer (some ⟨bo,0,none⟩)),(4,.pointer (some ⟨br,0,none⟩)),(5,.pointer (some ⟨bd,0,none⟩)),(6,.int .i64 i),(10,.int .i64 i),(19,.int .i64 nn),(20,.int .i64 y.1)])
        (Li:=fun y=>(bo,.cells ⟨noD⟩ 76 (0,0))::(bd,.cells ⟨padV (dd++[(f,⟨ovp y.2.2,ovc y.2.2 y.2.1.length,y.2.1⟩)])⟩ 76 (0,0))::((t.st y.1).L br++(M++(blkL 3 y.2.2 (iis y.2.1)++D)))) (μ:=fun y=>nn - y.1) (i0:=(0,[],none))
      · exact ⟨Nat.zero_le _,Nat.le_refl _,OvOk.start 1,fun _=>rfl⟩
      · exact ⟨rfl,rfl,rfl,rfl,rfl,rfl,rfl,trivial⟩
      · simp only [Rs.st,hL2,blkL,List.nil_append,ovp,ovc,List.length_nil]
        (focus (repeat' first|exact Ext.one _ _|exact Ext.here _ _|exact Ext.all _|apply Keep.cons|apply Keep.app|apply Keep.last|apply Ext.app);done)
      · rintro ⟨k,ys,ov⟩ ⟨hk,hyl,hov,hys⟩
        simp only at hk hyl hov hys ⊢
        have h3o:=hs3o.st k
        have hk3:=h3o.ok' br
        have hstk:t.st (k+1)=if (t.st k).e=0 then ((t.st k).num 2).2.2 else t.st k:=rfl
        have hvs:=t.vs_snoc k
        have hre:=fun w1 h=>rerr_ok br (t.st k) w1 h
        rcases Nat.lt_or_ge k nn with hkl|hkg
        · by_cases he:(t.st k).e=0
          · rw [if_pos he] at hstk
            replace hys:=hys he
            have hnum:=fun w1 h1=>rnum_ok br (t.st k) 1 2 (by decide) u2 w1 h1
            generalize t.st k=r at *
            have hm3:(br,Obj.cells ⟨[.slice r.q r.xs.length r.cap,.int .i64 r.e]⟩ 205 (0,0))∈r.L br:=by simp [Rs.L]
            generalize hL3:r.L br=L3 at *
            generalize hL4:(r.num 2).2.2.L br=L4 at *
            generalize (r.num 2).1=z at *
            have hat:=pad_at hdl hlt f ⟨ovp ov,ovc ov ys.length,ys⟩
            simp only [← slV_eq hov] at hat
            have hsto:=fun b j J=>pad_log hdl hlt f ⟨ovp ov,ovc ov ys.length,ys⟩ ⟨ovp (some (b,j,J)),ovc (some (b,j,J)) (ys.length+1),ys++[z]⟩
            simp only [List.length_append,List.length_singleton,ovp,ovc] at hsto
            rw [he] at hre hm3
            repeat' (first|(apply R.is1;first|(apply R.isBin;(apply R.pure;exact rfl;first|(apply Ok1.add64;exact rfl;exact rfl;omega;omega)|(apply Ok1.lss_t;exact rfl;exact rfl;omega)|(apply Ok1.eql_t;exact rfl;exact rfl;omega)))|(apply R.isCall;(apply R.callV (vs:=[.pointer (some ⟨br,0,none⟩)]);(iterate 3 exact rfl);intro w1 hw1;exact hre w1 (hw1.get _ _ (Ext.mem (s:=L3) (by (focus (repeat' first|exact Ext.here _ _|apply Ext.cons);done)) _ hm3))))|(apply R.pure;exact rfl;(apply Ok1.move;exact rfl)))|apply R.nil|(apply T.is;first|(apply T.drawC (id:=10) [] (by decide);((apply A.tk 0;exact rfl;kernel_rfl;(apply Ok1.move;exact rfl))<;>(apply A.tk 1;exact rfl;kernel_rfl;(apply Ok1.move;exact rfl))<;>(apply A.tk 2;exact rfl;kernel_rfl;(apply Ok1.fieldAddr;(iterate 5 exact rfl)))<;>(apply A.tk 3;exact rfl;kernel_rfl;(apply Ok1.indexAddrA;(iterate 5 exact rfl);omega;omega))<;>(apply A.tk 5;exact rfl;kernel_rfl;(apply Ok1.move;exact rfl))<;>(apply A.tk 9;exact rfl;kernel_rfl;(apply Ok1.fieldAddr;(iterate 5 exact rfl)))<;>(apply A.two 4 6;kernel_rfl;exact rfl;exact rfl;rotate_left 1;(focus (((((apply R.callE (Li:=L3) (vs:=[.pointer (some ⟨br,0,none⟩),.int .i64 1]);(iterate 3 exact rfl);(focus (repeat' first|exact Ext.here _ _|apply Ext.cons);done);intro w1 hw1;exact hnum w1 (hk3 _ _ _ _ _ hw1 (by (focus (repeat' first|exact Ext.here _ _|apply Ext.cons);done)) (Ext.mem (by (focus (repeat' first|exact Ext.here _ _|apply Ext.cons);done))));rintro v Lo ⟨rfl,hq⟩;rw [hq];clear hq)));apply R.nil;refine ⟨?_,?_⟩;(focus ((repeat' (exact trivial)))))<;>(apply A.two 4 7;kernel_rfl;exact rfl;exact rfl;rotate_left 1;(focus (((((apply R.buildSlice;(iterate 12 exact rfl);intro)));apply R.nil;refine ⟨?_,?_⟩;(focus ((repeat' (exact trivial)))))<;>(apply A.one 4;kernel_rfl;exact rfl;(((apply R.pure;exact rfl;(apply Ok1.load;exact rfl;apply Ld.own1;exact rfl;exact rfl;(focus (repeat' first|exact At.head|apply At.tail|apply At.right);done);exact hat))));apply R.nil;refine ⟨?_,?_⟩;(focus ((repeat' (exact trivial)))))<;>(apply A.one 8;kernel_rfl;exact rfl;(((apply R.append1;(iterate 12 exact rfl);(focus (repeat' first|exact OwnAt.mid hov|apply OwnAt.tail|apply OwnAt.right);done);exact At.head;exact rfl;exact rfl;omega;omega;intro b2 j2 k2 hj2)));apply R.nil;refine ⟨?_,?_⟩;(focus ((repeat' (exact trivial)))))<;>(apply A.tk 10;exact rfl;kernel_rfl;(apply Ok1.indexAddrA;(iterate 5 exact rfl);omega;omega))<;>(apply A.one 11;kernel_rfl;exact rfl;(((apply R.store;(iterate 6 exact rfl);(focus (repeat' first|exact Upd.head|apply Upd.tail|apply Upd.right);done);exact hsto _ _ [])));apply R.nil;refine ⟨?_,?_⟩;(focus ((repeat' (exact trivial)))))<;>(apply A.done;kernel_rfl)));rotate_right 1;(focus (((((apply R.pure;exact rfl;(apply Ok1.load;exact rfl;apply Ld.own1;exact rfl;exact rfl;(focus (repeat' first|exact At.head|apply At.tail|apply At.right);done);exact hat))));apply R.nil;refine ⟨?_,?_⟩;(focus ((repeat' (exact trivial)))))<;>(apply A.one 7;kernel_rfl;exact rfl;(((apply R.buildSlice;(iterate 12 exact rfl);intro)));apply R.nil;refine ⟨?_,?_⟩;(focus ((repeat' (exact trivial)))))<;>(apply A.one 8;kernel_rfl;exact rfl;(((apply R.append1;(iterate 12 exact rfl);(focus (repeat' first|exact OwnAt.mid hov|apply OwnAt.tail|apply OwnAt.right);done);exact At.head;exact rfl;exact rfl;omega;omega;intro b2 j2 k2 hj2)));apply R.nil;refine ⟨?_,?_⟩;(focus ((repeat' (exact trivial)))))<;>(apply A.tk 10;exact rfl;kernel_rfl;(apply Ok1.indexAddrA;(iterate 5 exact rfl);omega;omega))<;>(apply A.one 11;kernel_rfl;exact rfl;(((apply R.store;(iterate 6 exact rfl);(focus (repeat' first|exact Upd.head|apply Upd.tail|apply Upd.right);done);exact hsto _ _ [])));apply R.nil;refine ⟨?_,?_⟩;(focus ((repeat' (exact trivial)))))<;>(apply A.done;kernel_rfl))))));rotate_right 1;(focus (((((apply R.pure;exact rfl;(apply Ok1.load;exact rfl;apply Ld.own1;exact rfl;exact rfl;(focus (repeat' first|exact At.head|apply At.tail);done);exact hat))));apply R.nil;refine ⟨?_,?_⟩;(focus ((repeat' (exact trivial)))))<;>(apply A.one 6;kernel_rfl;exact rfl;(((apply R.callE (Li:=L3) (vs:=[.pointer (some ⟨br,0,none⟩),.int .i64 1]);(iterate 3 exact rfl);(focus (repeat' first|exact Ext.here _ _|apply Ext.cons);done);intro w1 hw1;exact hnum w1 (hk3 _ _ _ _ _ hw1 (by (focus (repeat' first|exact Ext.here _ _|apply Ext.cons);done)) (Ext.mem (by (focus (repeat' first|exact Ext.here _ _|apply Ext.cons);done))));rintro v Lo ⟨rfl,hq⟩;rw [hq];clear hq)));apply R.nil;refine ⟨?_,?_⟩;(focus ((repeat' (exact trivial)))))<;>(apply A.one 7;kernel_rfl;exact rfl;(((apply R.buildSlice;(iterate 12 exact rfl);intro)));apply R.nil;refine ⟨?_,?_⟩;(focus ((repeat' (exact trivial)))))<;>(apply A.one 8;kernel_rfl;exact rfl;(((apply R.append1;(iterate 12 exact rfl);(focus (repeat' first|exact OwnAt.mid hov|apply OwnAt.tail|apply OwnAt.right);done);exact At.head;exact rfl;exact rfl;omega;omega;intro b2 j2 k2 hj2)));apply R.nil;refine ⟨?_,?_⟩;(focus ((repeat' (exact trivial)))))<;>(apply A.tk 10;exact rfl;kernel_rfl;(apply Ok1.indexAddrA;(iterate 5 exact rfl);omega;omega))<;>(apply A.one 11;kernel_rfl;exact rfl;(((apply R.store;(iterate 6 exact rfl);(focus (repeat' first|exact Upd.head|apply Upd.tail|apply Upd.right);done);exact hsto _ _ [])));apply R.nil;refine ⟨?_,?_⟩;(focus ((repeat' (exact trivial)))))<;>(apply A.done;kernel_rfl))))))|apply T.seq|apply T.region|apply T.block|apply T.skip|(apply T.cond_t;exact rfl)))
            all_goals
              refine ⟨(k+1,ys++[z],some (b2,j2,k2)),?_⟩
              have hov2:OvOk 1 (some (b2,j2,k2)) (ys++[z]).length (iis (ys++[z])):=by
                rw [iis_app,List.length_append]
                exact OvOk.some hov rfl hj2
              simp only [hstk,hL4]
              refine ⟨⟨by omega,by simp only [List.length_append,List.length_singleton];omega,hov2,fun h=>by rw [hvs,hys]⟩,by omega,⟨rfl,rfl,rfl,rfl,rfl,rfl,rfl,trivial⟩,?_⟩
              simp only [blkL,iis_app,List.length_append,List.length_singleton,ovp,ovc,List.cons_append,List.nil_append]
              (focus (repeat' first|exact Ext.one _ _|exact Ext.here _ _|exact Ext.all _|apply Keep.cons|apply Keep.app|apply Keep.last|apply Ext.cons|apply Ext.app);done)
          · rw [if_neg he] at hstk
            generalize t.st k=r at *
            have hm3:(br,Obj.cells ⟨[.slice r.q r.xs.length r.cap,.int .i64 r.e]⟩ 205 (0,0))∈r.L br:=by simp [Rs.L]
            generalize hL3:r.L br=L3 at *
            repeat' (first|(apply R.is1;first|(apply R.isBin;(apply R.pure;exact rfl;first|(apply Ok1.add64;exact rfl;exact rfl;omega;omega)|(apply Ok1.lss_t;exact rfl;exact rfl;omega)|(apply Ok1.eql_f;exact rfl;exact rfl;omega)))|(apply R.isCall;(apply R.callV (vs:=[.pointer (some ⟨br,0,none⟩)]);(iterate 3 exact rfl);intro w1 hw1;exact hre w1 (hw1.get _ _ (Ext.mem (s:=L3) (by (focus (repeat' first|exact Ext.here _ _|apply Ext.cons);done)) _ hm3))))|(apply R.pure;exact rfl;(apply Ok1.move;exact rfl)))|apply R.nil|(apply T.is;first|apply T.seq|apply T.region|apply T.block|apply T.skip|(apply T.cond_t;exact rfl)|(apply T.cond_f;exact rfl)))
            refine ⟨(k+1,ys,ov),?_⟩
            simp only [hstk,hL3]
            exact ⟨⟨by omega,by omega,hov,fun h=>absurd h he⟩,by omega,⟨rfl,rfl,rfl,rfl,rfl,rfl,rfl,trivial⟩,by (focus (repeat' first|exact Ext.one _ _|exact Ext.here _ _|exact Ext.all _|apply Keep.cons|apply Keep.app|apply Keep.last);done)⟩
        · have hkn:k=nn:=by omega
          subst hkn
          have hse:(t.st k).e=0→s.e=0:=fun h=>Classical.byContradiction fun h1=>by
            rw [Rs.st_e (hebad2 (hebad h1))] at h
            exact hebad2 (hebad h1) h
          rw [← hst1] at h3o hys hse ⊢
          generalize hL3:sn.2.L br=L3 at *
          repeat' (first|(apply R.is1;first|(apply R.isBin;(apply R.pure;exact rfl;first|(apply Ok1.add64;exact rfl;exact rfl;omega;omega)|(apply Ok1.lss_f;exact rfl;exact rfl;omega)))|(apply R.pure;exact rfl;(apply Ok1.move;exact rfl)))|apply R.nil|(apply T.is;first|apply T.seq|apply T.region|apply T.exit|(apply T.cond_f;exact rfl)))
          refine ⟨(i+1,dd++[(f,⟨ovp ov,ovc ov ys.length,ys⟩)],blkL 3 ov (iis ys)++D),?_⟩
          simp only [hsn,hL3]
          refine ⟨⟨by omega,by rw [List.length_append,hdl];rfl,hdo.own hov f,fun h=>?_,fun x hx=>?_⟩,by omega,⟨rfl,rfl,rfl,rfl,trivial⟩,by (focus (repeat' first|exact Ext.one _ _|exact Ext.here _ _|exact Ext.all _|apply Keep.cons|apply Keep.app|apply Keep.last);done)⟩
          · rw [hst2,pur,List.map_append,← hys h,← hpur (hse h)]
            rfl
          · rcases List.mem_append.1 hx with h|h
            · exact h65 x h
            · rw [List.mem_singleton.1 h]
              simp only
              omega
    · have hi4:i=4:=by omega
      subst hi4
      have hpv:=pad_all hdl
      have hl8:=dl_len8r hdl
      have h1c:=dl_oner dd
      rw [hpv]
      have hck:=fun w1 h1=>rcheck_ok dd hdl (fun x hx=>by have:=h65 x hx;omega) w1 h1
      have hend:=fun w1 h=>rend_ok br (s0.logs 4).2 w1 h
      have hdrd:=hdo.rd
      have hprs:prs s0=if (s0.logs 4).2.fin≠0 then (List.replicate 4 (0,[]),(s0.logs 4).2.fin) else if DR (s0.logs 4).1 then ((s0.logs 4).1,0) else (List.replicate 4 (0,[]),3):=rfl
      have hfin:(s0.logs 4).2.fin=0→(s0.logs 4).2.e=0:=fun h=>by
        unfold Rs.fin at h
        split at h
        · exact h
        · rename_i h1;exact Classical.not_not.1 h1
      have hdr:=dok_dr dd
      generalize s0.logs 4=F at *
      obtain ⟨F1,r⟩:=F
      simp only at *
      have hm3:(br,Obj.cells ⟨[.slice r.q r.xs.length r.cap,.int .i64 r.e]⟩ 205 (0,0))∈r.L br:=by simp [Rs.L]
      generalize hL3:r.L br=L3 at *
      by_cases hf0:r.fin=0
      · rw [hpur (hfin hf0)] at hdr
        rw [hf0,if_neg (fun h=>h rfl)] at hprs
        rw [hf0] at hend
        by_cases hok:DOk dd
        · rw [if_pos hok] at hck
          rw [if_pos (hdr.1 hok)] at hprs
          repeat' (first|(apply R.is1;first|(apply R.isBin;(apply R.pure;exact rfl;first|(apply Ok1.lss_f;exact rfl;exact rfl;omega)|(apply Ok1.neq_f;exact rfl;exact rfl;omega)))|(apply R.isCall;first|(apply R.callV (vs:=[.pointer (some ⟨br,0,none⟩)]);(iterate 3 exact rfl);intro w1 hw1;exact hend w1 (hw1.get _ _ (Ext.mem (s:=L3) (by (focus (repeat' first|exact Ext.here _ _|apply Ext.cons);done)) _ hm3)))|(apply R.callV (vs:=[.agg ⟨dlV dd⟩]);(iterate 3 exact rfl);intro w1 hw1;exact hck w1 (hdrd _ _ _ _ hw1 (Ext.mem (by (focus (repeat' first|exact Ext.all _|apply Ext.cons|apply Ext.app);done))))))|(apply R.pure;exact rfl;first|(apply Ok1.load;exact rfl;(apply Ld.ownk;exact rfl;exact rfl;(focus (repeat' first|exact At.head|apply At.tail);done);exact subE_all hl8))|(apply Ok1.move;exact rfl)|(apply Ok1.assign;exact rfl)))|(apply R.is0;(apply R.store;(iterate 4 exact rfl);exact hl8;exact h1c;exact Upd.head;exact setE_all (by rw [hl8];rfl)))|apply R.nil|(apply T.is;first|apply T.seq|apply T.region|apply T.skip|apply T.exit|apply T.ret|(apply T.cond_f;exact rfl)))
          (apply RetOk.ct;exact rfl;(apply Ld.ownk;exact rfl;exact rfl;exact At.head;exact subE_all hl8);exact rfl)
          refine ⟨D,?_,s0,dd,hs1,hs2,hdl,?_,?_,hdo⟩
          · (focus (repeat' first|exact Ext.all _|apply Keep.last|apply Ext.cons|apply Ext.app);done)
          · rw [hprs]
          · rw [hprs];exact hpur (hfin hf0)
        · rw [if_neg hok] at hck
          rw [if_neg (fun h=>hok (hdr.2 h))] at hprs
          repeat' (first|(apply R.is1;first|(apply R.isBin;(apply R.pure;exact rfl;first|(apply Ok1.lss_f;exact rfl;exact rfl;omega)|(apply Ok1.neq_t;exact rfl;exact rfl;omega)|(apply Ok1.neq_f;exact rfl;exact rfl;omega)))|(apply R.isCall;first|(apply R.callV (vs:=[.pointer (some ⟨br,0,none⟩)]);(iterate 3 exact rfl);intro w1 hw1;exact hend w1 (hw1.get _ _ (Ext.mem (s:=L3) (by (focus (repeat' first|exact Ext.here _ _|apply Ext.cons);done)) _ hm3)))|(apply R.callV (vs:=[.agg ⟨dlV dd⟩]);(iterate 3 exact rfl);intro w1 hw1;exact hck w1 (hdrd _ _ _ _ hw1 (Ext.mem (by (focus (repeat' first|exact Ext.all _|apply Ext.cons|apply Ext.app);done))))))|(apply R.pure;exact rfl;first|(apply Ok1.load;exact rfl;(apply Ld.ownk;exact rfl;exact rfl;(focus (repeat' first|exact At.head|apply At.tail);done);exact subE_all hl8))|(apply Ok1.move;exact rfl)|(apply Ok1.assign;exact rfl)|(apply Ok1.build;(iterate 5 exact rfl))))|(apply R.is0;(apply R.store;(iterate 6 exact rfl);exact Upd.head;exact rfl))|apply R.nil|(apply T.is;first|apply T.seq|apply T.region|apply T.skip|apply T.exit|apply T.ret|(apply T.cond_t;exact rfl)|(apply T.cond_f;exact rfl)))
          (apply RetOk.ct;exact rfl;((apply Ld.ownk;exact rfl;exact rfl;exact At.head;exact rfl));exact rfl)
          refine ⟨[],?_,s0,nod,hs1,hs2,rfl,?_,?_,nod_o _⟩
          · (focus ((repeat' (exact Keep.nil _));done))
          · rw [hprs];rfl
          · rw [hprs];rfl
      · rw [if_pos hf0] at hprs
        repeat' (first|(apply R.is1;first|(apply R.isBin;(apply R.pure;exact rfl;first|(apply Ok1.lss_f;exact rfl;exact rfl;omega)|(apply Ok1.neq_t;exact rfl;exact rfl;omega)))|(apply R.isCall;(apply R.callV (vs:=[.pointer (some ⟨br,0,none⟩)]);(iterate 3 exact rfl);intro w1 hw1;exact hend w1 (hw1.get _ _ (Ext.mem (s:=L3) (by (focus (repeat' first|exact Ext.here _ _|apply Ext.cons);done)) _ hm3))))|(apply R.pure;exact rfl;first|(apply Ok1.move;exact rfl)|(apply Ok1.assign;exact rfl)|(apply Ok1.build;(iterate 5 exact rfl))))|(apply R.is0;(apply R.store;(iterate 6 exact rfl);exact Upd.head;exact rfl))|apply R.nil|(apply T.is;first|apply T.seq|apply T.region|apply T.exit|apply T.ret|(apply T.cond_t;exact rfl)|(apply T.cond_f;exact rfl)))
        (apply RetOk.ct;exact rfl;((apply Ld.ownk;exact rfl;exact rfl;exact At.head;exact rfl));exact rfl)
        refine ⟨[],?_,s0,nod,hs1,hs2,rfl,?_,?_,nod_o _⟩
        · (focus ((repeat' (exact Keep.nil _));done))
        · rw [hprs];rfl
        · rw [hprs];rfl
structure Rs.is (s:Rs) (xs:List Int) (e:Int):Prop where
  xs:s.xs=xs
  e:s.e=e
theorem Rs.num_enc {s:Rs} {v:Int} {rest:List Int} (h:s.is (numI 1 v++rest) 0) (h0:0≤v) (h1:v≤65535):(s.num 2).1=v∧(s.num 2).2.2.is rest 0:=by
  obtain ⟨hx,he⟩:=h
  have e1:(s.xs.take 2)=[v / 256 % 256,v % 256]:=by rw [hx];rfl
  have e2:beN [v / 256 % 256,v % 256]=v:=by
    simp only [beN,List.foldl_cons,List.foldl_nil]
    omega
  unfold Rs.num
  rw [if_neg,e1,e2,if_pos (by omega)]
  · refine ⟨rfl,?_,he⟩
    simp only [Rs.drop]
    rw [hx];rfl
  · rw [hx]
    rintro (h|h)
    · exact h he
    · simp only [numI,List.cons_append,List.nil_append,List.length_cons] at h
      omega
theorem Rs.st_enc {s:Rs} {l rest:List Int} (h:s.is (numsI 1 l++rest) 0) (hl:∀ y∈l,0≤y∧y≤65535):∀ k≤l.length,(s.st k).is (numsI 1 (l.drop k)++rest) 0∧s.vs k=l.take k:=by
  intro k
  induction k with
  | zero=>exact fun _=>⟨h,rfl⟩
  | succ k ih =>
    intro hk
    obtain ⟨h1,h2⟩:=ih (by omega)
    have hd:l.drop k=l[k]::l.drop (k+1):=by rw [List.drop_eq_getElem_cons]
    rw [hd,numsI,List.flatMap_cons,List.append_assoc] at h1
    obtain ⟨b0,b1⟩:=hl l[k] (List.getElem_mem _)
    obtain ⟨h3,h4⟩:=Rs.num_enc h1 b0 b1
    refine ⟨?_,?_⟩
    · rw [Rs.st,if_pos h1.e]
      exact h4
    · rw [Rs.vs_snoc,h3,h2,List.take_add_one,List.getElem?_eq_getElem (by omega)]
      rfl
theorem Rs.log1_enc {s:Rs} {x:Int × List Int} {rest:List Int} (h:s.is (encL x++rest) 0) (h0:0≤x.1∧x.1≤65535) (h1:x.2.length≤65535) (hl:∀ y∈x.2,0≤y∧y≤65535):s.log1.1=x∧s.log1.2.is rest 0:=by
  obtain ⟨f,l⟩:=x
  change 0≤f∧f≤65535 at h0
  change l.length≤65535 at h1
  change ∀ y∈l,_ at hl
  rw [encL,numsI,List.flatMap_cons,List.flatMap_cons,List.flatMap_nil,List.append_nil,List.append_assoc,List.append_assoc] at h
  simp only at h
  obtain ⟨e1,h2⟩:=Rs.num_enc h h0.1 h0.2
  obtain ⟨e2,h3⟩:=Rs.num_enc h2 (by omega) (by omega)
  obtain ⟨h4,h5⟩:=Rs.st_enc h3 hl l.length (Nat.le_refl _)
  unfold Rs.log1
  simp only [e1,e2,Int.toNat_natCast]
  rw [List.take_length] at h5
  refine ⟨by rw [h5],?_⟩
  rw [List.drop_length] at h4
  exact h4
theorem Rs.logs_enc {s:Rs} {dd:List (Int × List Int)} {rest:List Int} (h:s.is (encD dd++rest) 0) (hd:DR dd):∀ k≤dd.length,(s.logs k).1=dd.take k∧(s.logs k).2.is (encD (dd.drop k)++rest) 0:=by
  intro k
  induction k with
  | zero=>exact fun _=>⟨rfl,h⟩
  | succ k ih =>
    intro hk
    obtain ⟨h1,h2⟩:=ih (by omega)
    have hdr:dd.drop k=dd[k]::dd.drop (k+1):=by rw [List.drop_eq_getElem_cons]
    rw [hdr,encD,List.flatMap_cons,List.append_assoc] at h2
    obtain ⟨b0,b1,b2,b3⟩:=hd dd[k] (List.getElem_mem _)
    obtain ⟨h3,h4⟩:=Rs.log1_enc h2 ⟨b0,by omega⟩ (by omega) fun y hy=>by have:=b3 y hy;omega
    refine ⟨?_,h4⟩
    rw [Rs.logs,h1,h3,List.take_add_one,List.getElem?_eq_getElem (by omega)]
    rfl
theorem prs_enc {s:Rs} {dd:List (Int × List Int)} (h:s.is (encD dd) 0) (hl:dd.length=4) (hd:DR dd):prs s=(dd,0):=by
  obtain ⟨h1,h2⟩:=Rs.logs_enc (rest:=[]) (by rw [List.append_nil];exact h) hd 4 (by omega)
  rw [List.take_of_length_le (by omega)] at h1
  rw [List.drop_of_length_le (by omega)] at h2
  have hf:(s.logs 4).2.fin=0:=by
    unfold Rs.fin
    rw [h2.e,h2.xs]
    rfl
  unfold prs
  rw [hf,if_neg (fun h=>h rfl),h1,if_pos hd]
/-- Two readers with the same bytes. -/
def Rs.eqv (s t:Rs):Prop:=s.xs=t.xs∧s.e=t.e
theorem Rs.eqv.fail {s t:Rs} (h:s.eqv t) (e:Int):(s.fail e).eqv (t.fail e):=by
  unfold Rs.fail
  rw [h.2]
  split
  · exact ⟨rfl,rfl⟩
  · exact h
theorem Rs.eqv.drop {s t:Rs} (h:s.eqv t) (k:Nat):(s.drop k).eqv (t.drop k):=⟨by simp only [Rs.drop];rw [h.1],h.2⟩
theorem Rs.eqv.num {s t:Rs} (h:s.eqv t) (k:Nat):(s.num k).1=(t.num k).1∧(s.num k).2.1=(t.num k).2.1∧(s.num k).2.2.eqv (t.num k).2.2:=by
  unfold Rs.num
  rw [h.1,h.2]
  split
  · exact ⟨rfl,rfl,h.fail 4⟩
  · split
    · exact ⟨rfl,rfl,h.drop k⟩
    · exact ⟨rfl,rfl,(h.drop k).fail 3⟩
theorem Rs.eqv.st {s t:Rs} (h:s.eqv t) (n:Nat):(s.st n).eqv (t.st n)∧s.vs n=t.vs n:=by
  induction n with
  | zero=>exact ⟨h,rfl⟩
  | succ n ih =>
    obtain ⟨h1,h2⟩:=ih
    obtain ⟨h3,_,h4⟩:=h1.num 2
    refine ⟨?_,by rw [Rs.vs_snoc,Rs.vs_snoc,h2,h3]⟩
    rw [Rs.st,Rs.st,h1.2]
    split
    · exact h4
    · exact h1
theorem Rs.eqv.log1 {s t:Rs} (h:s.eqv t):s.log1.1=t.log1.1∧s.log1.2.eqv t.log1.2:=by
  obtain ⟨h1,_,h2⟩:=h.num 2
  obtain ⟨h3,_,h4⟩:=h2.num 2
  unfold Rs.log1
  simp only [h1,h3]
  obtain ⟨h5,h6⟩:=h4.st ((t.num 2).2.2.num 2).1.toNat
  exact ⟨by rw [h6],h5⟩
theorem Rs.eqv.logs {s t:Rs} (h:s.eqv t) (n:Nat):(s.logs n).1=(t.logs n).1∧(s.logs n).2.eqv (t.logs n).2:=by
  induction n with
  | zero=>exact ⟨rfl,h⟩
  | succ n ih =>
    obtain ⟨h1,h2⟩:=ih
    obtain ⟨h3,h4⟩:=h2.log1
    exact ⟨by rw [Rs.logs,Rs.logs,h1,h3],h4⟩
theorem Rs.eqv.fin {s t:Rs} (h:s.eqv t):s.fin=t.fin:=by unfold Rs.fin;rw [h.1,h.2]
theorem Rs.eqv.prs {s t:Rs} (h:s.eqv t):prs s=prs t:=by
  obtain ⟨h1,h2⟩:=h.logs 4
  unfold Go.Proofs.YtolnagbahceebaaGreat.prs
  rw [h1,h2.fin]
end Go.Proofs.YtolnagbahceebaaGreat
