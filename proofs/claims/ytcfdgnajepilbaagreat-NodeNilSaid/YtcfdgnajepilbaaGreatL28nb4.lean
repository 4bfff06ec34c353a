/- Texts of the proof: Sl3, Pc1, Sl4, Sl6, Rv3, Rv4, Rv7, Rd6, Rr1, Rg1, Dd2, So1, Tk1, Sy13, Sy18, Sy19, Sz2, Eng32, Sz3, Sz5, Ky1, Ky2, K1, FrK, Eng35, Fr4, Fr5, Sv1, Sv4, Sv5, Ky3, K2, Kr1, Kr5, Cp3, Cp5, Cp6, Cp7, Cp8, Ch1. -/
import Derived.Test.YtcfdgnajepilbaaGreatL28nb3
import Derived.Lib.RowBridge
import Derived.Shelf.SortM.Plain
import Derived.Shelf.SortM.SortNone
import Derived.Shelf.SlicesG.CompactI
import Derived.Lib.MakeNoZero
import Derived.Laws.Externs
set_option linter.unusedSimpArgs false
set_option linter.unusedVariables false
namespace Go.Proofs.YtcfdgnajepilbaaGreat
open Go.RowKit Go.Shelf
def iV (x:Int):List Value:=[.int .i64 x]
theorem iV_len (x:Int):(iV x).length=1:=rfl
def iis (xs:List Int):List Value:=xs.map fun x=>.int .i64 x
theorem iis_len (xs:List Int):(iis xs).length=xs.length:=by simp [iis]
theorem iis_one (xs:List Int):(iis xs).all Value.oneCell'=true:=by simp [iis,Value.oneCell']
theorem iis_app (xs ys:List Int):iis (xs++ys)=iis xs++iis ys:=by simp [iis]
theorem fl_i (xs:List Int):fl iV xs=iis xs:=by
  unfold fl iis
  induction xs with
  | nil=>rfl
  | cons a l ih=>simp only [List.map_cons,List.flatten_cons,ih];rfl
theorem irdown {ov:Ov} {xs:List Int} {e:Nat} (hov:OvOk 1 ov xs.length (iis xs)) {w0 w:World} {S:List Nat} {L:Lst} (hw:Hp w0 S L w) (hin:∀ x∈blkL e ov (iis xs),x∈L):RdSl w (ovp ov) iV xs:=by
  rw [← fl_i] at hov hin
  exact RdSl.own' hw hin hov iV_len
/-- A log: nothing,or a slice of one's own. -/
structure Lg where
  ov:Ov
  xs:List Int
def Lg.v (g:Lg):Value:=slV g.ov g.xs.length
def Lg.L (g:Lg):Lst:=blkL 3 g.ov (iis g.xs)
def Lg.ok (g:Lg):Prop:=OvOk 1 g.ov g.xs.length (iis g.xs)
theorem Lg.v_eq {g:Lg} (h:g.ok):g.v = .slice (ovp g.ov) g.xs.length (ovc g.ov g.xs.length):=slV_eq h
def lg0:Lg:=⟨none,[]⟩
theorem lg0_ok:lg0.ok:=⟨rfl,rfl⟩
theorem Lg.rd {g:Lg} (h:g.ok) {w0 w:World} {S:List Nat} {L:Lst} (hw:Hp w0 S L w) (hin:∀ x∈g.L,x∈L):RdSl w (ovp g.ov) iV g.xs:=irdown h hw hin
set_option maxRecDepth 100000
theorem irdnone {n:Nat} {xs:List Int} {w:World} (hn:n=xs.length) (h:RdSl w none iV xs):n=0:=by
  rcases h with h|⟨b,o,h,_⟩
  · rw [hn,h];rfl
  · cases h
theorem iclone_ok (p:Option Addr) (n cap:Nat) (xs:List Int) (hn:n=xs.length) (hbig:n≤1000000000) (w:World) (hp:RdSl w p iV xs):CallM Tryz.prog 305 [.slice p n cap] [] w fun v L=>∃ ov,OvOk 1 ov n (iis xs)∧ov.isSome=p.isSome∧v=slV ov n∧L=blkL 3 ov (iis xs):=by
  refine enterK (tb:=tb) Tryz.func305 rfl Tryz.ntmps305 rfl ?_
  cases p with
  | none =>
    have h0:=irdnone hn hp
    have hx:xs=[]:=List.eq_nil_of_length_eq_zero (by omega)
    subst hx
    repeat' (first|(apply R.is1;first|(apply R.isBin;(apply R.pure;exact rfl;(apply Ok1.eqlS;(iterate 5 exact rfl))))|(apply R.pure;exact rfl;first|(apply Ok1.move;exact rfl)|(apply Ok1.assign;exact rfl)))|apply R.nil|(apply T.is;first|apply T.seq|apply T.region|apply T.ret|(apply T.cond_t;exact rfl)))
    (apply RetOk.t;exact rfl)
    exact ⟨_,by (focus ((repeat' (exact Keep.nil _));done)),none,by rw [h0];exact OvOk.start 1,rfl,rfl,rfl⟩
  | some a =>
    repeat' (first|(apply R.is1;first|(apply R.buildSlice0;(iterate 4 exact rfl);intro b0)|(apply R.isBin;(apply R.pure;exact rfl;(apply Ok1.eqlS;(iterate 5 exact rfl))))|(apply R.isCall;(apply R.appendRd (xs:=xs) (v:=iV) (sz:=1) (ov:=some (b0,0,[])) (n:=0) (old:=[]);(iterate 12 exact rfl);exact ⟨rfl,rfl⟩;(focus ((repeat' (exact Ext.one _ _));done));exact hn;exact iV_len;exact rfl;(intro w1 hw1;exact hp.chg hw1.chg (Off.nil _));(focus (rw [fl_i];exact iis_one xs));omega;intro ov1 hov1 hsome))|(apply R.pure;exact rfl;first|(apply Ok1.move;exact rfl)|(apply Ok1.assign;exact rfl)))|apply R.nil|(apply T.is;first|apply T.seq|apply T.region|apply T.skip|apply T.ret|(apply T.cond_f;exact rfl)))
    rw [Nat.zero_add,List.nil_append,fl_i] at hov1
    rw [Nat.zero_add,List.nil_append,fl_i]
    repeat' (fail)
    (apply RetOk.t;exact rfl)
    refine ⟨_,?_,ov1,hov1,by rw [hsome rfl];rfl,rfl,rfl⟩
    (focus (repeat' first|exact Ext.here _ _|apply Keep.last);done)
end Go.Proofs.YtcfdgnajepilbaaGreat
set_option linter.unusedSimpArgs false
set_option linter.unusedVariables false
namespace Go.Proofs.YtcfdgnajepilbaaGreat
open Go.Lib
def srt (l:List Int):List Int:=l.mergeSort fun x y=>decide (x≤y)
theorem srt_perm (l:List Int):(srt l).Perm l:=List.mergeSort_perm _ _
theorem srt_asc (l:List Int):(srt l).Pairwise (· ≤ ·):=by
  have:=List.pairwise_mergeSort (le:=fun x y:Int=>decide (x≤y)) (fun a b c h1 h2=>by simp only [decide_eq_true_eq] at *;omega) (fun a b=>by simp only [Bool.or_eq_true,decide_eq_true_eq];omega) l
  exact this.imp fun h=>of_decide_eq_true h
end Go.Proofs.YtcfdgnajepilbaaGreat
set_option linter.unusedSimpArgs false
set_option linter.unusedVariables false
namespace Go.Proofs.YtcfdgnajepilbaaGreat
open Go.RowKit Go.Shelf
set_option maxRecDepth 100000
theorem putRow_own {w:World} {b m:Nat} {d:List Int} {os:Array Obj} {old junk:List Value} {e:TypeId} {fz:Nat × Nat} (hb:w.heap[b]? = some (.cells ⟨old++junk⟩ e fz)) (ho:old.length=d.length) :
    Chg [b] w (Go.Sort.grow (Go.Sort.putRow (Value.int .i64) (Go.Sort.ahead w m) b 0 d.toArray) os)∧(Go.Sort.grow (Go.Sort.putRow (Value.int .i64) (Go.Sort.ahead w m) b 0 d.toArray) os).heap[b]? = some (.cells ⟨iis d++junk⟩ e fz):=by
  have hlt:=(Array.getElem?_eq_some_iff.1 hb).1
  refine ⟨⟨rfl,rfl,rfl,?_,?_,?_⟩,?_⟩
  · simp [Go.Sort.grow,Go.Sort.putRow,Go.Sort.mapBlock,Go.Sort.ahead]
  · simp [Go.Sort.grow,Go.Sort.putRow,Go.Sort.mapBlock,Go.Sort.ahead]
  · intro i hi hs
    have hne:b≠i:=fun h=>hs (by simp [h])
    simp [Go.Sort.grow,Go.Sort.putRow,Go.Sort.mapBlock,Go.Sort.ahead,Array.getElem?_append,hi,Array.getElem_modify,hne]
  · simp only [Go.Sort.grow,Go.Sort.putRow,Go.Sort.mapBlock,Go.Sort.ahead]
    rw [Array.getElem?_append_left (by simpa using hlt),Array.getElem?_modify,if_pos rfl,hb]
    simp only [Option.map_some,Go.Sort.onCells]
    congr 2
    apply Array.ext_getElem?
    intro t
    simp only [Go.Sort.putCells,Array.getElem?_mapIdx,Nat.zero_le,true_and,Nat.zero_add,Nat.sub_zero,List.size_toArray,List.getElem?_toArray]
    by_cases ht:t < d.length
    · rw [List.getElem?_append_left (by omega),List.getElem?_append_left (by rw [iis_len];omega),List.getElem?_eq_getElem (by omega)]
      simp [ht,iis]
    · rw [List.getElem?_append_right (by omega),List.getElem?_append_right (by rw [iis_len];omega),ho,iis_len]
      cases junk[t - d.length]? with
      | none=>rfl
      | some v=>simp [ht]
theorem sortHolds {w:World} {b:Nat} {xs:List Int} {junk:List Value} {e:TypeId} (hb:w.heap[b]? = some (.cells ⟨iis xs++junk⟩ e (0,0))):Go.Sort.Holds (Value.int .i64) w b 0 xs.toArray:=by
  intro j hj
  have hj':j < xs.length:=by simpa using hj
  refine ⟨?_,?_⟩
  · simp only [World.cell?,hb,Nat.zero_add]
    rw [getElem!_pos _ j hj]
    simp [List.getElem?_append_left,iis_len,hj',iis]
  · simp [World.frozen?,hb]
theorem isort_ok (xs:List Int) (hbig:xs.length≤1000000000) (ov:Ov) (hov:OvOk 1 ov xs.length (iis xs)) (w:World) :
    CallM Tryz.prog 69 [slV ov xs.length] (blkL 3 ov (iis xs)) w fun v L=>v = .tuple #[]∧L=blkL 3 ov (iis (srt xs)):=by
  cases ov with
  | none =>
    have h0:xs.length=0:=hov.2
    have:xs=[]:=List.eq_nil_of_length_eq_zero h0
    subst this
    exact ⟨fun hw=>Calls.mono (AnyM.slices_Sort_int_none Tryz.sortI none 0 w) fun e w' ⟨h1,h2⟩=>⟨_,_,h1,⟨rfl,rfl⟩,by rw [h2];exact hw⟩⟩
  | some q =>
    obtain ⟨b,j,junk⟩:=q
    refine ⟨fun hw=>?_⟩
    have hb:=hw.get b _ List.mem_cons_self
    have hlt:=(Array.getElem?_eq_some_iff.1 hb).1
    refine Calls.mono (AnyM.slices_Sort_int Tryz.sortI b 0 (xs.length+j) xs w (sortHolds hb) hlt (by omega)) ?_
    rintro e w' ⟨h1,n,os,rfl⟩
    obtain ⟨g1,g2⟩:=putRow_own (m:=n) (d:=srt xs) (os:=os) hb (by rw [iis_len,(srt_perm xs).length_eq])
    exact ⟨_,_,h1,⟨rfl,rfl⟩,hw.upd .head g1 g2⟩
theorem CallM.to {P:Program} {f:FuncId} {vs:List Value} {L:Lst} {w:World} {R R':Value→Lst→Prop} (h:CallM P f vs L w R) (hr:∀ v L,R v L→R' v L):CallM P f vs L w R' :=
  ⟨fun hw=>(h.run hw).mono fun e w' ⟨v,L',h1,h2,h3⟩=>⟨v,L',h1,hr _ _ h2,h3⟩⟩
/-- A set: four logs. -/
def setV (gs:List Lg):List Value:=gs.map Lg.v
def LsL (gs:List Lg):Lst:=gs.flatMap Lg.L
def SetL (bs:Nat) (gs:List Lg):Lst:=(bs,.cells ⟨setV gs⟩ 405 (0,0))::LsL gs
structure GOk (gs:List Lg):Prop where
  len:gs.length=4
  ok:∀ g∈gs,g.ok
  le:∀ g∈gs,g.xs.length≤256
def lgs (gs:List Lg):List (List Int):=gs.map Lg.xs
structure SetR (w:World) (bs:Nat) (gs:List Lg):Prop where
  b:w.heap[bs]? = some (.cells ⟨setV gs⟩ 405 (0,0))
  rd:∀ g∈gs,RdSl w (ovp g.ov) iV g.xs
theorem mem_LsL {gs:List Lg} {g:Lg} (h:g∈gs) {x:Nat × Obj} (hx:x∈g.L):x∈LsL gs:=List.mem_flatMap.2 ⟨g,h,hx⟩
theorem SetR.of {bs:Nat} {gs:List Lg} (hg:GOk gs) {w0 w:World} {S:List Nat} {L:Lst} (hw:Hp w0 S L w) (hin:∀ x∈SetL bs gs,x∈L):SetR w bs gs :=
  ⟨hw.get _ _ (hin _ List.mem_cons_self),fun g h=>Lg.rd (hg.ok g h) hw fun x hx=>hin _ (List.mem_cons_of_mem _ (mem_LsL h hx))⟩
theorem SetR.chg {bs:Nat} {gs:List Lg} {w w':World} (h:SetR w bs gs) (hc:Chg [] w w'):SetR w' bs gs :=
  ⟨hc.heap h.b List.not_mem_nil,fun g hm=>(h.rd g hm).chg' hc (fun _=>Off.nil _)⟩
theorem setV_get {gs:List Lg} {i:Nat} {g:Lg} (h:gs[i]? = some g) (hk:g.ok):(setV gs)[0+i * 1]? = some (.slice (ovp g.ov) g.xs.length (ovc g.ov g.xs.length)):=by
  rw [Nat.zero_add,Nat.mul_one,setV,List.getElem?_map,h,Option.map_some,Lg.v_eq hk]
theorem log_ok (bs:Nat) (gs:List Lg) (hg:GOk gs) (i:Nat) (g:Lg) (hi:gs[i]? = some g) (w:World) (hs:SetR w bs gs) :
    CallM Tryz.prog 267 [.pointer (some ⟨bs,0,none⟩),.int .i64 i] [] w fun v L=>∃ ov,OvOk 1 ov g.xs.length (iis g.xs)∧v=slV ov g.xs.length∧L=blkL 3 ov (iis g.xs):=by
  have hlt:i < 4:=by rw [← hg.len];exact (List.getElem?_eq_some_iff.1 hi).1
  have hm:=List.mem_of_getElem? hi
  have hcell:=setV_get hi (hg.ok g hm)
  have hle:=hg.le g hm
  have hrd:=hs.rd g hm
  have hb:=hs.b
  have hcl:=fun w1 (hc:Chg [] w w1)=>iclone_ok (ovp g.ov) g.xs.length (ovc g.ov g.xs.length) g.xs rfl (by omega) w1 (hrd.chg' hc (fun _=>Off.nil _))
  refine enterK (tb:=tb) Tryz.func267 rfl Tryz.ntmps267 rfl ?_
  repeat' (first|(apply R.is1;first|(apply R.isBin;(apply R.pure;exact rfl;first|(apply Ok1.lss_f;exact rfl;exact rfl;omega)|(apply Ok1.geq_f;exact rfl;exact rfl;omega)|(apply Ok1.eqlP;(iterate 5 exact rfl))))|(apply R.isCall;(apply R.callE (vs:=[.slice (ovp g.ov) g.xs.length (ovc g.ov g.xs.length)]);(iterate 3 exact rfl);exact Ext.none _;intro w1 hw1;exact hcl w1 hw1.chg;rintro v Lo ⟨ov,hov,_,rfl,rfl⟩))|(apply R.pure;exact rfl;first|(apply Ok1.load;exact rfl;apply Ld.blk1;exact rfl;exact rfl;exact hb;exact List.not_mem_nil;exact hcell)|(apply Ok1.move;exact rfl)|(apply Ok1.fieldAddr;(iterate 5 exact rfl))|(apply Ok1.assign;exact rfl)|(apply Ok1.indexAddrA;(iterate 5 exact rfl);omega;omega)|(apply Ok1.pick_f;exact rfl;exact rfl)|(apply Ok1.nilCheck;exact rfl)))|(apply R.isG;(apply R.guard_run;exact rfl;exact rfl))|apply R.nil|(apply T.is;first|apply T.seq|apply T.region|apply T.skip|apply T.ret|(apply T.cond_f;exact rfl)))
  all_goals (apply RetOk.t;exact rfl)
  all_goals exact ⟨_,by (focus (repeat' first|exact Ext.here _ _|apply Keep.last);done),ov,hov,rfl,rfl⟩
theorem rnew_ok (w:World):CallM Tryz.prog 167 [] [] w fun v L=>∃ bs,v = .pointer (some ⟨bs,0,none⟩)∧L=SetL bs [lg0,lg0,lg0,lg0]:=by
  refine enterK (tb:=tb) Tryz.func167 rfl Tryz.ntmps167 rfl ?_
  repeat' (first|(apply R.is1;first|(apply R.pure;exact rfl;first|(apply Ok1.assign;exact rfl)|(apply Ok1.build;(iterate 5 exact rfl)))|(apply R.box;(iterate 3 exact rfl);intro))|apply R.nil|(apply T.is;first|apply T.seq|apply T.region|apply T.ret))
  (apply RetOk.t;exact rfl)
  exact ⟨_,Keep.last (.all _),_,rfl,rfl⟩
theorem GOk.new:GOk [lg0,lg0,lg0,lg0]:=⟨rfl,by intro g h;simp only [List.mem_cons,List.not_mem_nil,or_false,or_self] at h;rw [h];exact lg0_ok,by intro g h;simp only [List.mem_cons,List.not_mem_nil,or_false,or_self] at h;rw [h];decide⟩
theorem LsL_at {gs:List Lg} {i:Nat} {g:Lg} (h:gs[i]? = some g):LsL gs=LsL (gs.take i)++(g.L++LsL (gs.drop (i+1))):=by
  obtain ⟨hi,rfl⟩:=List.getElem?_eq_some_iff.1 h
  have e:=List.take_append_drop i gs
  rw [List.drop_eq_getElem_cons hi] at e
  conv=>lhs;rw [← e]
  simp only [LsL,List.flatMap_append,List.flatMap_cons]
theorem LsL_set {gs:List Lg} {i:Nat} (g':Lg) (hi:i < gs.length):LsL (gs.set i g')=LsL (gs.take i)++(g'.L++LsL (gs.drop (i+1))):=by
  rw [List.set_eq_take_append_cons_drop,if_pos hi]
  simp only [LsL,List.flatMap_append,List.flatMap_cons]
theorem setV_set {gs:List Lg} {i:Nat} (g':Lg) (hi:i < gs.length):setE (setV gs) (0+i * 1) [g'.v]=some (setV (gs.set i g')):=by
  have:=setE_one (cs:=setV gs) (o:=0+i * 1) (v:=g'.v) (by simp [setV];omega)
  rw [this]
  simp [setV,List.map_set]
theorem GOk.set {gs:List Lg} (hg:GOk gs) (i:Nat) {g':Lg} (h:g'.ok) (hl:g'.xs.length≤256):GOk (gs.set i g') :=
  ⟨by rw [List.length_set];exact hg.len,fun g hm=>by rcases List.mem_or_eq_of_mem_set hm with h1|rfl;exact hg.ok g h1;exact h,fun g hm=>by rcases List.mem_or_eq_of_mem_set hm with h1|rfl;exact hg.le g h1;exact hl⟩
theorem set_mid {α:Type} {A:List α} {n i:Nat} {z y:α} (h:A.length=i):(A++List.replicate (n+1) z).set i y=(A++[y])++List.replicate n z:=by
  subst h
  rw [List.set_append_right _ _ (Nat.le_refl _),Nat.sub_self,List.replicate_succ,List.set_cons_zero,List.append_assoc]
  rfl
theorem copy_ok (bs:Nat) (gs:List Lg) (hg:GOk gs) (w:World) (hs:SetR w bs gs) :
    CallM Tryz.prog 168 [.pointer (some ⟨bs,0,none⟩)] [] w fun v L=>∃ bc gs',v = .pointer (some ⟨bc,0,none⟩)∧lgs gs'=lgs gs∧GOk gs' ∧ L=SetL bc gs':=by
  have hlog:=fun i g hi w1 (hc:Chg [] w w1)=>log_ok bs gs hg i g hi w1 (hs.chg hc)
  refine enterK (tb:=tb) Tryz.func168 rfl Tryz.ntmps168 rfl ?_
  repeat' (first|(apply R.is1;first|(apply R.isBin;(apply R.pure;exact rfl;(apply Ok1.eqlP;(iterate 5 exact rfl))))|(apply R.isCall;(apply R.callE (vs:=[]);(iterate 3 exact rfl);exact Ext.none _;intro w1 hw1;exact rnew_ok w1;rintro v Lo ⟨bc,rfl,rfl⟩))|(apply R.pure;exact rfl;first|(apply Ok1.move;exact rfl)|(apply Ok1.assign;exact rfl)))|apply R.nil|(apply T.is;first|apply T.seq|apply T.region|apply T.block|apply T.skip|(apply T.cond_f;exact rfl)))
  apply T.loopK (α:=Nat × List Lg) (I:=fun y=>y.1≤4∧GOk y.2∧lgs y.2=(lgs gs).take y.1++List.replicate (4 - y.1) []) (σi:=fun y=>[(0,.pointer (some ⟨bs,0,none⟩)),(3,.pointer (some ⟨bc,0,none⟩)),(8,.int .i64 y.1)]) (Li:=fun y=>SetL bc y.2) (μ:=fun y=>4 - y.1) (i0:=(0,[lg0,lg0,lg0,lg0]))
  · exact ⟨Nat.zero_le _,GOk.new,rfl⟩
  · exact ⟨rfl,rfl,rfl,trivial⟩
  · (focus (repeat' first|exact Keep.nil _|exact Ext.one _ _|apply Keep.cons);done)
  · rintro ⟨i,gs2⟩ ⟨hi,hg2,hlg⟩
    simp only at hi hg2 hlg ⊢
    simp only [SetL]
    rcases Nat.lt_or_ge i 4 with hlt|hge
    · obtain ⟨g,hx⟩:∃ g,gs[i]? = some g:=⟨_,List.getElem?_eq_getElem (by rw [hg.len];omega)⟩
      obtain ⟨g2,hx3⟩:∃ g2,gs2[i]? = some g2:=⟨_,List.getElem?_eq_getElem (by rw [hg2.len];omega)⟩
      have h1:=hlog i g hx
      have hgl:=hg.le g (List.mem_of_getElem? hx)
      have hset:=fun g'=>setV_set (gs:=gs2) (i:=i) g' (by rw [hg2.len];omega)
      repeat' (first|(apply R.is1;first|(apply R.isBin;(apply R.pure;exact rfl;first|(apply Ok1.add64;exact rfl;exact rfl;omega;omega)|(apply Ok1.lss_t;exact rfl;exact rfl;omega)))|(apply R.pure;exact rfl;first|(apply Ok1.move;exact rfl)|(apply Ok1.assign;exact rfl)))|apply R.nil|(apply T.is;first|(apply T.drawC (id:=7) [] (by decide);((apply A.tk 0;exact rfl;kernel_rfl;(apply Ok1.move;exact rfl))<;>(apply A.tk 1;exact rfl;kernel_rfl;(apply Ok1.move;exact rfl))<;>(apply A.tk 2;exact rfl;kernel_rfl;(apply Ok1.move;exact rfl))<;>(apply A.tk 3;exact rfl;kernel_rfl;(apply Ok1.move;exact rfl))<;>(apply A.tk 5;exact rfl;kernel_rfl;(apply Ok1.nilCheck;exact rfl))<;>(apply A.tk 6;exact rfl;kernel_rfl;(apply Ok1.fieldAddr;(iterate 5 exact rfl)))<;>(apply A.one 4;kernel_rfl;exact rfl;(((apply R.callE (vs:=[.pointer (some ⟨bs,0,none⟩),.int .i64 i]);(iterate 3 exact rfl);exact Ext.none _;intro w1 hw1;exact h1 w1 hw1.chg;rintro v Lo ⟨ov,hov,rfl,rfl⟩;rw [slV_eq hov])));apply R.nil;refine ⟨?_,?_⟩;(focus ((repeat' (exact trivial)))))<;>(apply A.tk 7;exact rfl;kernel_rfl;(apply Ok1.indexAddrA;(iterate 5 exact rfl);omega;omega))<;>(apply A.one 8;kernel_rfl;exact rfl;(((apply R.store;(iterate 6 exact rfl);(focus (repeat' first|exact Upd.head|apply Upd.right);done);have h9:=hset ⟨ov,g.xs⟩;rw [Lg.v_eq (g:=⟨ov,g.xs⟩) hov] at h9;exact h9)));apply R.nil;refine ⟨?_,?_⟩;(focus ((repeat' (exact trivial)))))<;>(apply A.done;kernel_rfl)))|apply T.seq|apply T.region|apply T.block|apply T.skip|(apply T.cond_t;exact rfl)))
      refine ⟨(i+1,gs2.set i ⟨ov,g.xs⟩),⟨by simp only;omega,hg2.set i hov hgl,?_⟩,by simp only;omega,⟨rfl,rfl,rfl,trivial⟩,?_⟩
      · have hl:(lgs gs)[i]? = some g.xs:=by rw [lgs,List.getElem?_map,hx];rfl
        rw [lgs,List.map_set,← lgs,hlg,show 4 - i=(4 - (i+1))+1 by omega,set_mid (by rw [List.length_take,lgs,List.length_map,hg.len];omega),List.take_add_one,hl]
        simp
      · simp only
        rw [LsL_set _ (by rw [hg2.len];omega),LsL_at hx3]
        simp only [Lg.L]
        (focus (repeat' first|exact Ext.one _ _|exact Ext.here _ _|exact Ext.all _|apply Keep.cons|apply Keep.app|apply Keep.last|apply Ext.app);done)
    · have him:i=4:=by omega
      subst him
      rw [List.take_of_length_le (by rw [lgs,List.length_map,hg.len];omega),Nat.sub_self,List.replicate_zero,List.append_nil] at hlg
      repeat' (first|(apply R.is1;first|(apply R.isBin;(apply R.pure;exact rfl;(apply Ok1.lss_f;exact rfl;exact rfl;omega)))|(apply R.pure;exact rfl;first|(apply Ok1.move;exact rfl)|(apply Ok1.assign;exact rfl)))|apply R.nil|(apply T.is;first|apply T.seq|apply T.region|apply T.exit|apply T.ret|(apply T.cond_f;exact rfl)))
      (apply RetOk.t;exact rfl)
      exact ⟨_,by (focus (repeat' first|exact Ext.one _ _|exact Ext.all _|apply Keep.cons|apply Keep.last);done),bc,gs2,rfl,hlg,hg2,rfl⟩
theorem or8 (m c:Nat) (hm:m < 72057594037927936) (hc:c < 256):orI .u64 ((m:Int) * 256) c=(m:Int) * 256+c:=by
  unfold orI
  have e1:((m:Int) * 256)=((m * 256:Nat):Int):=by omega
  rw [e1,BitVec.ofInt_natCast,BitVec.ofInt_natCast,BitVec.toNat_or,BitVec.toNat_ofNat,BitVec.toNat_ofNat]
  have hb:IntKind.u64.bits=64:=rfl
  rw [hb,Nat.mod_eq_of_lt (by omega),Nat.mod_eq_of_lt (by omega)]
  have h:=Nat.shiftLeft_add_eq_or_of_lt (b:=c) (i:=8) (by omega) m
  rw [Nat.shiftLeft_eq] at h
  rw [← h,wrap_u64 (by omega) (by omega)]
  omega
section
variable {X:Cx} {σ:Env} {L:Lst} {ty t:TypeId} {pos:String} {af:Array Edge} {x:Operand} {r re:TRow} {d:Option Nat} {g:Option (Nat × Bool)} {e:TypeId} {p:Option Addr} {n cap j:Nat}
theorem Ok1.pre3 {hi mx:Operand} (ht:X.tb.row t=some r) (hk:r.k = .slice e) (he:X.tb.row e=some re) (hx:ev σ x=some (.slice p n cap)) (hh:ev σ hi=some (.int .i64 j)) (hm:ev σ mx=some (.int .i64 j)) (h2:j≤cap) :
    Ok1 X ⟨d,.slice t x none (some hi) (some mx),ty,pos,af,g⟩ σ L (.slice p j j):=.mk fun a w ha hw=>by
  rw [slice_run (l:=0) (h:=(j:Int)) (m:=(j:Int)) X.tb ht hk he ha hx (by simp [bd,hm]) (by simp [bd,hh]) rfl (by omega) (by omega) (by omega) (by omega) (.inr (by simp))]
  have:p.map (·.add (0 * re.size))=p:=by cases p<;>simp [Addr.add]
  simp only [Int.toNat_zero,this,ite_self,Int.toNat_natCast,Nat.sub_zero]
end
/-- The number that bytes make,the highest first. -/
def beN (xs:List Int):Int:=xs.foldl (fun a c=>a * 256+c) 0
theorem be_snoc {xs:List Int} {i:Nat} {x:Int} (h:xs[i]? = some x):beN (xs.take (i+1))=beN (xs.take i) * 256+x:=by
  unfold beN
  rw [List.take_add_one,h,List.foldl_append]
  rfl
theorem be_range:∀ (n:Nat) (xs:List Int),xs.length=n→Byt xs→0≤beN xs∧beN xs < 256 ^ n:=by
  intro n
  induction n with
  | zero=>intro xs h _;rw [List.length_eq_zero_iff.1 h];exact ⟨Int.le_refl _,by decide⟩
  | succ n ih =>
    intro xs h hb
    obtain ⟨x,hx⟩:∃ x,xs[n]? = some x:=⟨_,List.getElem?_eq_getElem (by omega)⟩
    have h1:=ih (xs.take n) (by rw [List.length_take];omega) fun y hy=>hb y (List.mem_of_mem_take hy)
    have h2:=be_snoc hx
    rw [List.take_of_length_le (by omega)] at h2
    have h3:=hb x (List.mem_of_getElem? hx)
    have h4:(256:Int) ^ (n+1)=256 ^ n * 256:=Int.pow_succ ..
    omega
/-- What is left to be read,and the first error. -/
structure Rs where
  q:Option Addr
  cap:Nat
  xs:List Int
  e:Int
def Rs.L (s:Rs) (br:Nat):Lst:=[(br,.cells ⟨[.slice s.q s.xs.length s.cap,.int .i64 s.e]⟩ 232 (0,0))]
def Rs.fail (s:Rs) (e:Int):Rs:=if s.e=0 then ⟨none,0,[],e⟩ else s
def Rs.drop (s:Rs) (k:Nat):Rs:=⟨sufP s.q s.cap k 1,s.cap - k,s.xs.drop k,s.e⟩
structure Rs.ok (s:Rs) (br:Nat) (w:World):Prop where
  rd:RdSl w s.q u8V s.xs
  cap:s.xs.length≤s.cap
  off:s.xs≠[]→Off s.q [br]
  byt:Byt s.xs
  big:s.xs.length≤1000000000
theorem rfail_ok (br:Nat) (s:Rs) (e:Int) (w:World):CallM Tryz.prog 133 [.pointer (some ⟨br,0,none⟩),.int .i64 e] (s.L br) w fun v L=>v = .tuple #[]∧L=(s.fail e).L br:=by
  by_cases h:s.e=0
  · refine enterK (tb:=tb) Tryz.func133 rfl Tryz.ntmps133 rfl ?_
    rw [Rs.fail,if_pos h]
    simp only [Rs.L,h]
    repeat' (first|(apply R.is1;first|(apply R.isBin;(apply R.pure;exact rfl;(apply Ok1.eql_t;exact rfl;exact rfl;omega)))|(apply R.pure;exact rfl;first|(apply Ok1.move;exact rfl)|(apply Ok1.fieldAddr;(iterate 5 exact rfl))|(apply Ok1.load;exact rfl;(apply Ld.own1;exact rfl;exact rfl;exact At.head;exact rfl))|(apply Ok1.nilCheck;exact rfl)))|(apply R.is0;(apply R.store;(iterate 6 exact rfl);exact Upd.head;exact rfl))|apply R.nil|(apply T.is;first|apply T.seq|apply T.region|(apply T.cond_t;exact rfl)))
    (apply RetOk.n)
    exact ⟨_,by (focus (repeat' first|exact Keep.nil _|exact Ext.one _ _|apply Keep.cons);done),rfl,rfl⟩
  · refine enterK (tb:=tb) Tryz.func133 rfl Tryz.ntmps133 rfl ?_
    rw [Rs.fail,if_neg h]
    simp only [Rs.L]
    repeat' (first|(apply R.is1;first|(apply R.isBin;(apply R.pure;exact rfl;(apply Ok1.eql_f;exact rfl;exact rfl;omega)))|(apply R.pure;exact rfl;first|(apply Ok1.move;exact rfl)|(apply Ok1.fieldAddr;(iterate 5 exact rfl))|(apply Ok1.load;exact rfl;(apply Ld.own1;exact rfl;exact rfl;exact At.head;exact rfl))|(apply Ok1.nilCheck;exact rfl)))|apply R.nil|(apply T.is;first|apply T.seq|apply T.region|apply T.skip|(apply T.cond_f;exact rfl)))
    (apply RetOk.n)
    exact ⟨_,by (focus (repeat' first|exact Keep.nil _|exact Ext.one _ _|apply Keep.cons);done),rfl,rfl⟩
theorem rtake_no (br:Nat) (s:Rs) (k:Nat) (h:s.e≠0 ∨ s.xs.length < k) (w:World):CallM Tryz.prog 236 [.pointer (some ⟨br,0,none⟩),.int .i64 k] (s.L br) w fun v L=>v = .slice none 0 0∧L=(s.fail 4).L br:=by
  have hf:=fun w1=>rfail_ok br s 4 w1
  refine enterK (tb:=tb) Tryz.func236 rfl Tryz.ntmps236 rfl ?_
  generalize (s.fail 4).L br=L4 at *
  by_cases he:s.e=0
  · have hk:s.xs.length < k:=h.resolve_left fun h=>h he
    simp only [Rs.L,he] at hf ⊢
    repeat' (first|(apply R.is1;first|(apply R.isBin;(apply R.pure;exact rfl;first|(apply Ok1.gtr_t;exact rfl;exact rfl;omega)|(apply Ok1.neq_f;exact rfl;exact rfl;omega)))|(apply R.isCall;first|(apply R.callE (Li:=[(br,.cells ⟨[.slice s.q s.xs.length s.cap,.int .i64 0]⟩ 232 (0,0))]);(iterate 3 exact rfl);(focus ((repeat' (exact Ext.one _ _));done));intro w1 hw1;exact hf w1;rintro v Lo ⟨rfl,rfl⟩)|(apply R.pure;exact rfl;(apply Ok1.lenS;(iterate 3 exact rfl))))|(apply R.pure;exact rfl;first|(apply Ok1.move;exact rfl)|(apply Ok1.fieldAddr;(iterate 5 exact rfl))|(apply Ok1.load;exact rfl;(apply Ld.own1;exact rfl;exact rfl;exact At.head;exact rfl))|(apply Ok1.assign;exact rfl)|(apply Ok1.pick_f;exact rfl;exact rfl)|(apply Ok1.nilCheck;exact rfl)))|(apply R.isG;(apply R.guard_run;exact rfl;exact rfl))|apply R.nil|(apply T.is;first|apply T.seq|apply T.region|apply T.ret|(apply T.cond_t;exact rfl)))
    (apply RetOk.t;exact rfl)
    exact ⟨_,by (focus (repeat' first|exact Ext.here _ _|apply Keep.last);done),rfl,rfl⟩
  · simp only [Rs.L] at hf ⊢
    repeat' (first|(apply R.is1;first|(apply R.isBin;(apply R.pure;exact rfl;(apply Ok1.neq_t;exact rfl;exact rfl;omega)))|(apply R.isCall;(apply R.callE (Li:=[(br,.cells ⟨[.slice s.q s.xs.length s.cap,.int .i64 s.e]⟩ 232 (0,0))]);(iterate 3 exact rfl);(focus ((repeat' (exact Ext.one _ _));done));intro w1 hw1;exact hf w1;rintro v Lo ⟨rfl,rfl⟩))|(apply R.pure;exact rfl;first|(apply Ok1.move;exact rfl)|(apply Ok1.fieldAddr;(iterate 5 exact rfl))|(apply Ok1.load;exact rfl;(apply Ld.own1;exact rfl;exact rfl;exact At.head;exact rfl))|(apply Ok1.assign;exact rfl)|(apply Ok1.pick_t;exact rfl;exact rfl)|(apply Ok1.nilCheck;exact rfl)))|(apply R.isG;(apply R.guard_not;(iterate 3 exact rfl)))|apply R.nil|(apply T.is;first|apply T.seq|apply T.region|apply T.ret|(apply T.cond_t;exact rfl)))
    (apply RetOk.t;exact rfl)
    exact ⟨_,by (focus (repeat' first|exact Ext.here _ _|apply Keep.last);done),rfl,rfl⟩
theorem rtake_ok (br:Nat) (s:Rs) (k:Nat) (he:s.e=0) (hk:k≤s.xs.length) (hc:s.xs.length≤s.cap) (w:World):CallM Tryz.prog 236 [.pointer (some ⟨br,0,none⟩),.int .i64 k] (s.L br) w fun v L=>v = .slice s.q k k∧L=(s.drop k).L br:=by
  refine enterK (tb:=tb) Tryz.func236 rfl Tryz.ntmps236 rfl ?_
  simp only [Rs.L,Rs.drop,he,List.length_drop]
  repeat' (first|(apply R.is1;first|(apply R.isBin;(apply R.pure;exact rfl;first|(apply Ok1.gtr_f;exact rfl;exact rfl;omega)|(apply Ok1.neq_f;exact rfl;exact rfl;omega)))|(apply R.isCall;(apply R.pure;exact rfl;(apply Ok1.lenS;(iterate 3 exact rfl))))|(apply R.pure;exact rfl;first|(apply Ok1.pre3 (j:=k);(iterate 6 exact rfl);omega)|(apply Ok1.sufR (i:=k) (sz:=1);(iterate 6 exact rfl);exact hk;exact hc)|(apply Ok1.move;exact rfl)|(apply Ok1.fieldAddr;(iterate 5 exact rfl))|(apply Ok1.load;exact rfl;(apply Ld.own1;exact rfl;exact rfl;exact At.head;exact rfl))|(apply Ok1.assign;exact rfl)|(apply Ok1.pick_f;exact rfl;exact rfl)|(apply Ok1.nilCheck;exact rfl)))|(apply R.is0;(apply R.store;(iterate 6 exact rfl);exact Upd.head;exact rfl))|(apply R.isG;(apply R.guard_run;exact rfl;exact rfl))|apply R.nil|(apply T.is;first|apply T.seq|apply T.region|apply T.skip|apply T.ret|(apply T.cond_f;exact rfl)))
  (apply RetOk.t;exact rfl)
  exact ⟨_,by (focus (repeat' first|exact Keep.nil _|exact Ext.one _ _|apply Keep.cons);done),rfl,rfl⟩
/-- The next number of k bytes. -/
def Rs.num (s:Rs) (k:Nat):Int × Bool × Rs :=
  if s.e≠0 ∨ s.xs.length < k then (0,false,s.fail 4) else if beN (s.xs.take k)≤9223372036854775807 then (beN (s.xs.take k),true,s.drop k) else (0,false,(s.drop k).fail 3)
theorem pw8 {z k:Nat} (hz:z≤3) (hk:pw z=k):1≤k∧k≤8∧IntKind.i64.wrap (1 * pw (z:Int).toNat)=k:=by
  have:z=0 ∨ z=1 ∨ z=2 ∨ z=3:=by omega
  rcases this with rfl|rfl|rfl|rfl
  · have:k=1:=by have h:pw 0=1:=rfl;omega
    subst this;exact ⟨by decide,by decide,by decide⟩
  · have:k=2:=by have h:pw 1=2:=rfl;omega
    subst this;exact ⟨by decide,by decide,by decide⟩
  · have:k=4:=by have h:pw 2=4:=rfl;omega
    subst this;exact ⟨by decide,by decide,by decide⟩
  · have:k=8:=by have h:pw 3=8:=rfl;omega
    subst this;exact ⟨by decide,by decide,by decide⟩
theorem rnumber_ok (br:Nat) (s:Rs) (z k:Nat) (hz:z≤3) (hk:pw z=k) (w:World) (hs:s.ok br w):CallM Tryz.prog 235 [.pointer (some ⟨br,0,none⟩),.int .i64 z] (s.L br) w fun v L=>v = .tuple #[.int .i64 (s.num k).1,.bool (s.num k).2.1]∧L=(s.num k).2.2.L br:=by
  obtain ⟨hk1,hk8,hwr⟩:=pw8 hz hk
  have hwd:=width_ok (z:Int) k (by omega) (by omega) hwr
  refine enterK (tb:=tb) Tryz.func235 rfl Tryz.ntmps235 rfl ?_
  by_cases h:s.e≠0 ∨ s.xs.length < k
  · have ht:=fun w1=>rtake_no br s k h w1
    rw [Rs.num,if_pos h]
    simp only
    generalize s.L br=L0 at *
    generalize (s.fail 4).L br=L4 at *
    repeat' (first|(apply R.is1;first|(apply R.isBin;(apply R.pure;exact rfl;first|(apply Ok1.lss_f;exact rfl;exact rfl;omega)|(apply Ok1.gtr_f;exact rfl;exact rfl;omega)))|(apply R.isCall;first|apply R.callP rfl rfl rfl hwd|(apply R.callE (Li:=L0);(iterate 3 exact rfl);(focus ((repeat' (exact Ext.all _));done));intro w1 hw1;exact ht w1;rintro v Lo ⟨rfl,rfl⟩)|(apply R.pure;exact rfl;(apply Ok1.lenS;(iterate 3 exact rfl))))|(apply R.pure;exact rfl;first|(apply Ok1.move;exact rfl)|(apply Ok1.assign;exact rfl)|(apply Ok1.convI64;(iterate 5 exact rfl);omega;omega)))|apply R.nil|(apply T.is;first|apply T.rounds 1|apply T.seq|apply T.region|apply T.block|apply T.skip|apply T.exit|apply T.ret|(apply T.cond_f;exact rfl)))
    (apply RetOk.tt;exact rfl;exact rfl)
    exact ⟨_,by (focus (repeat' first|exact Ext.here _ _|apply Keep.last);done),rfl,rfl⟩
  · have he:s.e=0:=Classical.byContradiction fun h1=>h (.inl h1)
    have hkl:k≤s.xs.length:=Nat.le_of_not_lt fun h1=>h (.inr h1)
    have ht:=fun w1=>rtake_ok br s k he hkl hs.cap w1
    have hne:s.xs≠[]:=by intro h0;rw [h0] at hkl;simp at hkl;omega
    have hoff:=hs.off hne
    have hpre:=hs.rd.pre u8V_len k
    have hbt:Byt (s.xs.take k):=fun y hy=>hs.byt y (List.mem_of_mem_take hy)
    have hlt:(s.xs.take k).length=k:=by rw [List.length_take];omega
    have hbe:∀ i≤k,0≤beN ((s.xs.take k).take i)∧beN ((s.xs.take k).take i) < 256 ^ i:=fun i hi=>be_range i _ (by rw [List.length_take];omega) fun y hy=>hbt y (List.mem_of_mem_take hy)
    rw [Rs.num,if_neg h]
    obtain ⟨q,hq⟩:∃ q,q=s.q:=⟨_,rfl⟩
    rw [← hq] at ht hoff hpre
    have hfl:=fun w1=>rfail_ok br (s.drop k) 3 w1
    obtain ⟨S,hS⟩:∃ S,S=blks (s.L br):=⟨_,rfl⟩
    have hoff:Off q S:=by rw [hS];exact hoff
    rw [← hS]
    generalize s.L br=L0 at *
    generalize s.drop k=s1 at *
    generalize s.xs.take k=ys at *
    repeat' (first|(apply R.is1;first|(apply R.isCall;first|apply R.callP rfl rfl rfl hwd|(apply R.callE (Li:=L0);(iterate 3 exact rfl);(focus ((repeat' (exact Ext.all _));done));intro w1 hw1;exact ht w1;rintro v Lo ⟨rfl,rfl⟩)|(apply R.pure;exact rfl;(apply Ok1.lenS;(iterate 3 exact rfl))))|(apply R.pure;exact rfl;first|(apply Ok1.move;exact rfl)|(apply Ok1.assign;exact rfl)))|apply R.nil|(apply T.is;first|apply T.seq|apply T.region|apply T.block))
    apply T.loopK (α:=Nat) (I:=fun i=>i≤k) (σi:=fun i=>[(0,.pointer (some ⟨br,0,none⟩)),(6,.slice q k k),(7,.int .u64 (beN (ys.take i))),(14,.slice q k k),(15,.int .i64 k),(16,.int .i64 i)]) (Li:=fun _=>s1.L br) (μ:=fun i=>k - i) (i0:=0)
    · exact Nat.zero_le _
    · exact ⟨rfl,rfl,rfl,rfl,rfl,rfl,trivial⟩
    · (focus (repeat' first|exact Keep.nil _|exact Ext.one _ _|apply Keep.cons);done)
    · intro i hi
      have hb:=hbe i hi
      rcases Nat.lt_or_ge i k with hlt|hge
      · obtain ⟨y,hy⟩:∃ y,ys[i]? = some y:=⟨_,List.getElem?_eq_getElem (by omega)⟩
        obtain ⟨b,o,hpe,H⟩:=hpre.at hy
        replace H:=H 1 u8V_len
        have hyb:=hbt y (List.mem_of_getElem? hy)
        have hpw:(256:Int) ^ i≤72057594037927936:=by
          have:i=0 ∨ i=1 ∨ i=2 ∨ i=3 ∨ i=4 ∨ i=5 ∨ i=6 ∨ i=7:=by omega
          rcases this with rfl|rfl|rfl|rfl|rfl|rfl|rfl|rfl<;>decide
        have hor:orI .u64 (IntKind.u64.wrap (beN (ys.take i) * pw (Int.toNat 8))) y=beN (ys.take (i+1)):=by
          rw [be_snoc hy]
          obtain ⟨m,hm⟩:∃ m:Nat,beN (ys.take i)=m:=⟨(beN (ys.take i)).toNat,by omega⟩
          obtain ⟨c,hc⟩:∃ c:Nat,y=c:=⟨y.toNat,by omega⟩
          rw [hm,hc,show pw (Int.toNat 8)=256 from rfl,wrap_u64 (by omega) (by omega)]
          exact or8 m c (by omega) (by omega)
        repeat' (first|(apply R.is1;first|(apply R.isBin;(apply R.pure;exact rfl;first|(apply Ok1.shl;exact rfl;exact rfl;omega;exact Nat.le_of_ble_eq_true rfl;exact rfl)|(apply Ok1.orK;exact rfl;exact rfl)|(apply Ok1.add64;exact rfl;exact rfl;omega;omega)|(apply Ok1.lss_t;exact rfl;exact rfl;omega)))|(apply R.pure;exact rfl;first|(apply Ok1.indexAddrP;(iterate 4 exact rfl);exact hpe;exact rfl;omega;omega)|(apply Ok1.load;exact rfl;apply Ld.row1 (f:=0) H;exact rfl;exact hoff _ hpe;(iterate 3 exact rfl))|(apply Ok1.move;exact rfl)|(apply Ok1.assign;exact rfl)|(apply Ok1.convU64;(iterate 5 exact rfl);omega;omega)))|apply R.nil|(apply T.is;first|apply T.seq|apply T.region|apply T.block|apply T.skip|(apply T.cond_t;exact rfl)))
        refine ⟨i+1,by omega,by omega,⟨rfl,rfl,?_,rfl,rfl,rfl,trivial⟩,by (focus (repeat' first|exact Keep.nil _|exact Ext.one _ _|apply Keep.cons);done)⟩
        rw [← hor];rfl
      · have hik:i=k:=by omega
        subst hik
        rw [List.take_of_length_le (by omega)] at hb ⊢
        by_cases hmx:beN ys≤9223372036854775807
        · rw [if_pos hmx]
          repeat' (first|(apply R.is1;first|(apply R.isBin;(apply R.pure;exact rfl;first|(apply Ok1.lss_f;exact rfl;exact rfl;omega)|(apply Ok1.gtr_t;exact rfl;exact rfl;omega)|(apply Ok1.gtr_f;exact rfl;exact rfl;omega)))|(apply R.isCall;(apply R.pure;exact rfl;(apply Ok1.lenS;(iterate 3 exact rfl))))|(apply R.pure;exact rfl;first|(apply Ok1.move;exact rfl)|(apply Ok1.assign;exact rfl)|(apply Ok1.convI64;(iterate 5 exact rfl);omega;omega)))|apply R.nil|(apply T.is;first|apply T.seq|apply T.region|apply T.skip|apply T.exit|apply T.ret|(apply T.cond_f;exact rfl)))
          (apply RetOk.tt;exact rfl;exact rfl)
          exact ⟨_,by (focus (repeat' first|exact Keep.nil _|exact Ext.one _ _|apply Keep.cons);done),rfl,rfl⟩
        · rw [if_neg hmx]
          repeat' (first|(apply R.is1;first|(apply R.isBin;(apply R.pure;exact rfl;first|(apply Ok1.lss_f;exact rfl;exact rfl;omega)|(apply Ok1.gtr_t;exact rfl;exact rfl;omega)))|(apply R.isCall;(apply R.callE (Li:=s1.L br);(iterate 3 exact rfl);(focus ((repeat' (exact Ext.one _ _));done));intro w1 hw1;exact hfl w1;rintro v Lo ⟨rfl,rfl⟩))|(apply R.pure;exact rfl;first|(apply Ok1.move;exact rfl)|(apply Ok1.assign;exact rfl)))|apply R.nil|(apply T.is;first|apply T.seq|apply T.region|apply T.exit|apply T.ret|(apply T.cond_t;exact rfl)|(apply T.cond_f;exact rfl)))
          (apply RetOk.tt;exact rfl;exact rfl)
          exact ⟨_,by (focus (repeat' first|exact Keep.nil _|exact Ext.one _ _|apply Keep.cons);done),rfl,rfl⟩
/-- A field of a number. -/
def Rs.get (s:Rs) (z k:Nat):List Value:=if (s.num k).2.1=true then fldV z (s.num k).1 else fldV 0 0
theorem rget_ok (br:Nat) (s:Rs) (z k:Nat) (hz:z≤3) (hk:pw z=k) (w:World) (hs:s.ok br w):CallM Tryz.prog 134 [.pointer (some ⟨br,0,none⟩),.int .i64 z] (s.L br) w fun v L=>v = .agg ⟨s.get z k⟩∧L=(s.num k).2.2.L br:=by
  have hn:=fun w1 h1=>rnumber_ok br s z k hz hk w1 h1
  refine enterK (tb:=tb) Tryz.func134 rfl Tryz.ntmps134 rfl ?_
  have hin:∀ w1 S,Chg S w w1→S=blks (s.L br)→s.ok br w1:=fun w1 S hc hS=>⟨hs.rd.chg' hc (fun h=>hS ▸ hs.off h),hs.cap,hs.off,hs.byt,hs.big⟩
  rw [Rs.get]
  generalize s.num k=r at *
  obtain ⟨v1,v2,s'⟩:=r
  simp only at hn ⊢
  obtain ⟨S,hS⟩:∃ S,S=blks (s.L br):=⟨_,rfl⟩
  rw [← hS]
  generalize s.L br=L0 at *
  cases v2 with
  | true =>
    repeat' (first|(apply R.is1;first|(apply R.isBin;(apply R.pure;exact rfl;first|(apply Ok1.lss_t;exact rfl;exact rfl;omega)|(apply Ok1.lss_f;exact rfl;exact rfl;omega)|(apply Ok1.gtr_f;exact rfl;exact rfl;omega)|(apply Ok1.eqlP;(iterate 5 exact rfl))))|(apply R.isCall;(apply R.callE (Li:=L0);(iterate 3 exact rfl);(focus (repeat' first|exact Ext.all _|apply Ext.cons);done);intro w1 hw1;exact hn w1 (hin w1 _ hw1.chg hS);rintro v Lo ⟨rfl,rfl⟩))|(apply R.pure;exact rfl;first|(apply Ok1.move;exact rfl)|(apply Ok1.fieldAddr;(iterate 5 exact rfl))|(apply Ok1.assign;exact rfl)|(apply Ok1.build;(iterate 5 exact rfl))|(apply Ok1.extract;exact rfl;exact rfl)|(apply Ok1.pick_f;exact rfl;exact rfl)|(apply Ok1.not_t;exact rfl)|(apply Ok1.nilCheck;exact rfl))|(apply R.alloc;(iterate 3 exact rfl);intro))|(apply R.is0;(apply R.store;(iterate 6 exact rfl);(focus (repeat' first|exact Upd.head|apply Upd.tail);done);exact rfl))|(apply R.isG;(apply R.guard_run;exact rfl;exact rfl))|apply R.nil|(apply T.is;first|apply T.seq|apply T.region|apply T.block|apply T.skip|apply T.ret|(apply T.cond_t;exact rfl)|(apply T.cond_f;exact rfl)))
    (apply RetOk.c;exact rfl;((apply Ld.ownk;exact rfl;exact rfl;(focus (repeat' first|exact At.head|apply At.tail);done);exact rfl)))
    exact ⟨_,by (focus (repeat' first|exact Keep.nil _|exact Ext.one _ _|apply Keep.cons);done),rfl,rfl⟩
  | false =>
    repeat' (first|(apply R.is1;first|(apply R.isBin;(apply R.pure;exact rfl;first|(apply Ok1.lss_t;exact rfl;exact rfl;omega)|(apply Ok1.lss_f;exact rfl;exact rfl;omega)|(apply Ok1.gtr_f;exact rfl;exact rfl;omega)|(apply Ok1.eqlP;(iterate 5 exact rfl))))|(apply R.isCall;(apply R.callE (Li:=L0);(iterate 3 exact rfl);(focus (repeat' first|exact Ext.all _|apply Ext.cons);done);intro w1 hw1;exact hn w1 (hin w1 _ hw1.chg hS);rintro v Lo ⟨rfl,rfl⟩))|(apply R.pure;exact rfl;first|(apply Ok1.move;exact rfl)|(apply Ok1.fieldAddr;(iterate 5 exact rfl))|(apply Ok1.assign;exact rfl)|(apply Ok1.build;(iterate 5 exact rfl))|(apply Ok1.extract;exact rfl;exact rfl)|(apply Ok1.pick_f;exact rfl;exact rfl)|(apply Ok1.not_f;exact rfl)|(apply Ok1.nilCheck;exact rfl))|(apply R.alloc;(iterate 3 exact rfl);intro))|(apply R.is0;(apply R.store;(iterate 6 exact rfl);(focus (repeat' first|exact Upd.head|apply Upd.tail);done);exact rfl))|(apply R.isG;(apply R.guard_run;exact rfl;exact rfl))|apply R.nil|(apply T.is;first|apply T.seq|apply T.region|apply T.block|apply T.ret|(apply T.cond_t;exact rfl)|(apply T.cond_f;exact rfl)))
    (apply RetOk.c;exact rfl;((apply Ld.ownk;exact rfl;exact rfl;(focus (repeat' first|exact At.head|apply At.tail);done);exact rfl)))
    exact ⟨_,by (focus (repeat' first|exact Keep.nil _|exact Ext.one _ _|apply Keep.cons);done),rfl,rfl⟩
theorem rnum_ok (br:Nat) (s:Rs) (z k:Nat) (hz:z≤3) (hk:pw z=k) (w:World) (hs:s.ok br w):CallM Tryz.prog 53 [.pointer (some ⟨br,0,none⟩),.int .i64 z] (s.L br) w fun v L=>v = .int .i64 (s.num k).1∧L=(s.num k).2.2.L br:=by
  have hn:=fun w1 h1=>rget_ok br s z k hz hk w1 h1
  have hin:∀ w1 S,Chg S w w1→S=blks (s.L br)→s.ok br w1:=fun w1 S hc hS=>⟨hs.rd.chg' hc (fun h=>hS ▸ hs.off h),hs.cap,hs.off,hs.byt,hs.big⟩
  have h0:(s.num k).2.1=false→(s.num k).1=0:=by
    unfold Rs.num
    split
    · exact fun _=>rfl
    · split
      · intro h;cases h
      · exact fun _=>rfl
  have hv:∃ v0,s.get z k=[v0,.int .i64 (s.num k).1,.slice none 0 0]:=by
    unfold Rs.get fldV
    cases h:(s.num k).2.1 with
    | true=>exact ⟨_,rfl⟩
    | false=>rw [h0 h];exact ⟨_,rfl⟩
  obtain ⟨v0,hv⟩:=hv
  rw [hv] at hn
  refine enterK (tb:=tb) Tryz.func53 rfl Tryz.ntmps53 rfl ?_
  generalize s.num k=r at *
  obtain ⟨v1,v2,s'⟩:=r
  simp only at hn ⊢
  obtain ⟨S,hS⟩:∃ S,S=blks (s.L br):=⟨_,rfl⟩
  rw [← hS]
  generalize s.L br=L0 at *
  repeat' (first|(apply R.is1;first|(apply R.isBin;(apply R.pure;exact rfl;first|(apply Ok1.eql_f;exact rfl;exact rfl;omega)|(apply Ok1.neqP;(iterate 5 exact rfl))))|(apply R.isCall;(apply R.callE (Li:=L0);(iterate 3 exact rfl);(focus ((repeat' (exact Ext.all _));done));intro w1 hw1;exact hn w1 (hin w1 _ hw1.chg hS);rintro v Lo ⟨rfl,rfl⟩))|(apply R.pure;exact rfl;first|(apply Ok1.move;exact rfl)|(apply Ok1.assign;exact rfl)|(apply Ok1.pick_t;exact rfl;exact rfl)|(apply Ok1.field1;(iterate 7 exact rfl))))|(apply R.isG;(apply R.guard_run;exact rfl;exact rfl))|apply R.nil|(apply T.is;first|apply T.seq|apply T.region|apply T.skip|apply T.ret|(apply T.cond_f;exact rfl)))
  (apply RetOk.t;exact rfl)
  exact ⟨_,by (focus (repeat' first|exact Keep.nil _|exact Ext.one _ _|apply Keep.cons);done),rfl,rfl⟩
theorem rerr_ok (br:Nat) (s:Rs) (w:World) (hb:w.heap[br]? = some (.cells ⟨[.slice s.q s.xs.length s.cap,.int .i64 s.e]⟩ 232 (0,0))):CallW Tryz.prog 56 [.pointer (some ⟨br,0,none⟩)] w fun v _=>v = .int .i64 s.e:=by
  refine enterW (tb:=tb) Tryz.func56 rfl Tryz.ntmps56 rfl ?_
  repeat' (first|(apply R.is1;first|(apply R.isBin;(apply R.pure;exact rfl;(apply Ok1.eqlP;(iterate 5 exact rfl))))|(apply R.pure;exact rfl;first|(apply Ok1.move;exact rfl)|(apply Ok1.fieldAddr;(iterate 5 exact rfl))|(apply Ok1.load;exact rfl;(apply Ld.blk1;exact rfl;exact rfl;assumption;(exact List.not_mem_nil);exact rfl))|(apply Ok1.assign;exact rfl)|(apply Ok1.nilCheck;exact rfl)))|apply R.nil|(apply T.is;first|apply T.seq|apply T.region|apply T.skip|apply T.ret|(apply T.cond_f;exact rfl)))
  (apply RetOk.t;exact rfl)
  rfl
theorem rleft_ok (br:Nat) (s:Rs) (w:World) (hb:w.heap[br]? = some (.cells ⟨[.slice s.q s.xs.length s.cap,.int .i64 s.e]⟩ 232 (0,0))):CallW Tryz.prog 59 [.pointer (some ⟨br,0,none⟩)] w fun v _=>v = .int .i64 s.xs.length:=by
  refine enterW (tb:=tb) Tryz.func59 rfl Tryz.ntmps59 rfl ?_
  repeat' (first|(apply R.is1;first|(apply R.isBin;(apply R.pure;exact rfl;(apply Ok1.eqlP;(iterate 5 exact rfl))))|(apply R.isCall;(apply R.pure;exact rfl;(apply Ok1.lenS;(iterate 3 exact rfl))))|(apply R.pure;exact rfl;first|(apply Ok1.move;exact rfl)|(apply Ok1.fieldAddr;(iterate 5 exact rfl))|(apply Ok1.load;exact rfl;(apply Ld.blk1;exact rfl;exact rfl;assumption;(exact List.not_mem_nil);exact rfl))|(apply Ok1.assign;exact rfl)|(apply Ok1.nilCheck;exact rfl)))|apply R.nil|(apply T.is;first|apply T.seq|apply T.region|apply T.skip|apply T.ret|(apply T.cond_f;exact rfl)))
  (apply RetOk.t;exact rfl)
  rfl
def Rs.fin (s:Rs):Int:=if s.e≠0 then s.e else if 0 < s.xs.length then 3 else 0
theorem rend_ok (br:Nat) (s:Rs) (w:World) (hb:w.heap[br]? = some (.cells ⟨[.slice s.q s.xs.length s.cap,.int .i64 s.e]⟩ 232 (0,0))):CallW Tryz.prog 136 [.pointer (some ⟨br,0,none⟩)] w fun v _=>v = .int .i64 s.fin:=by
  have h1:=fun w1 (hc:Chg [] w w1)=>rerr_ok br s w1 (hc.heap hb List.not_mem_nil)
  have h2:=fun w1 (hc:Chg [] w w1)=>rleft_ok br s w1 (hc.heap hb List.not_mem_nil)
  refine enterW (tb:=tb) Tryz.func136 rfl Tryz.ntmps136 rfl ?_
  rw [Rs.fin]
  by_cases he:s.e=0
  · rw [if_neg (fun h=>h he)]
    rw [he] at h1
    by_cases hx:0 < s.xs.length
    · rw [if_pos hx]
      repeat' (first|(apply R.is1;first|(apply R.isBin;(apply R.pure;exact rfl;first|(apply Ok1.gtr_t;exact rfl;exact rfl;omega)|(apply Ok1.neq_f;exact rfl;exact rfl;omega)))|(apply R.isCall;(apply R.callV;(iterate 3 exact rfl);intro w1 hw1;first|exact h1 w1 hw1.chg|exact h2 w1 hw1.chg))|(apply R.pure;exact rfl;first|(apply Ok1.move;exact rfl)|(apply Ok1.assign;exact rfl)))|apply R.nil|(apply T.is;first|apply T.seq|apply T.region|apply T.skip|apply T.ret|(apply T.cond_t;exact rfl)|(apply T.cond_f;exact rfl)))
      (apply RetOk.t;exact rfl)
      rfl
    · rw [if_neg hx]
      repeat' (first|(apply R.is1;first|(apply R.isBin;(apply R.pure;exact rfl;first|(apply Ok1.gtr_f;exact rfl;exact rfl;omega)|(apply Ok1.neq_f;exact rfl;exact rfl;omega)))|(apply R.isCall;(apply R.callV;(iterate 3 exact rfl);intro w1 hw1;first|exact h1 w1 hw1.chg|exact h2 w1 hw1.chg))|(apply R.pure;exact rfl;first|(apply Ok1.move;exact rfl)|(apply Ok1.assign;exact rfl)))|apply R.nil|(apply T.is;first|apply T.seq|apply T.region|apply T.skip|apply T.ret|(apply T.cond_f;exact rfl)))
      (apply RetOk.t;exact rfl)
      rfl
  · rw [if_pos he]
    repeat' (first|(apply R.is1;first|(apply R.isBin;(apply R.pure;exact rfl;(apply Ok1.neq_t;exact rfl;exact rfl;omega)))|(apply R.isCall;(apply R.callV;(iterate 3 exact rfl);intro w1 hw1;exact h1 w1 hw1.chg))|(apply R.pure;exact rfl;first|(apply Ok1.move;exact rfl)|(apply Ok1.assign;exact rfl)))|apply R.nil|(apply T.is;first|apply T.seq|apply T.region|apply T.ret|(apply T.cond_t;exact rfl)))
    (apply RetOk.t;exact rfl)
    rfl
/-- A reader whose bytes lie in known blocks. -/
structure RsO (s:Rs) (M:Lst):Prop where
  rd:∀ (w0 w:World) (S:List Nat) (L':Lst),Hp w0 S L' w→(∀ z∈M,z∈L')→RdSl w s.q u8V s.xs
  adr:s.xs≠[]→∃ b o,s.q=some ⟨b,o,none⟩∧b∈blks M
  cap:s.xs.length≤s.cap
  byt:Byt s.xs
  big:s.xs.length≤1000000000
theorem RsO.ok {s:Rs} {M:Lst} (h:RsO s M) {br:Nat} {w0 w:World} {S:List Nat} {L Lr:Lst} (hw:Hp w0 S L w) (he:Ext L (s.L br) Lr) (hin:∀ z∈M,z∈Lr):s.ok br w:=by
  refine ⟨h.rd _ _ _ _ hw fun z hz=>he.perm.subset (List.mem_append_right _ (hin z hz)),h.cap,fun hne a ha=>?_,h.byt,h.big⟩
  obtain ⟨b,o,hp,hb⟩:=h.adr hne
  rw [hp] at ha
  cases ha
  obtain ⟨z,hz,hze⟩:=List.mem_map.1 hb
  obtain ⟨zb,zo⟩:=z
  simp only at hze
  subst hze
  exact RdSl.off hw he (hin _ hz)
theorem RsO.fail {s:Rs} {M:Lst} (h:RsO s M) (e:Int):RsO (s.fail e) M:=by
  unfold Rs.fail
  split
  · exact ⟨fun _ _ _ _ _ _=>.inl rfl,(fun h=>absurd rfl h),Nat.zero_le _,(fun y hy=>by cases hy),Nat.zero_le _⟩
  · exact h
theorem RsO.drop {s:Rs} {M:Lst} (h:RsO s M) {k:Nat} (hk:k≤s.xs.length):RsO (s.drop k) M:=by
  refine ⟨fun w0 w S L' hw hin=>(h.rd w0 w S L' hw hin).suf u8V_len hk h.cap,fun hne=>?_,?_,fun y hy=>h.byt y (List.mem_of_mem_drop hy),?_⟩
  · have h1:s.xs≠[]:=by intro h0;apply hne;simp [Rs.drop,h0]
    obtain ⟨b,o,hp,hb⟩:=h.adr h1
    by_cases hc:s.cap=k
    · exfalso;apply hne;simp only [Rs.drop];exact List.drop_of_length_le (by have:=h.cap;omega)
    · exact ⟨b,o+k * 1,by simp [Rs.drop,sufP,hc,hp,Addr.add_none],hb⟩
  · have:=h.cap;simp only [Rs.drop,List.length_drop];omega
  · have:=h.big;simp only [Rs.drop,List.length_drop];omega
theorem RsO.num {s:Rs} {M:Lst} (h:RsO s M) (k:Nat):RsO (s.num k).2.2 M:=by
  unfold Rs.num
  split
  · exact h.fail 4
  · rename_i hn
    have hk:k≤s.xs.length:=Nat.le_of_not_lt fun h1=>hn (.inr h1)
    split
    · exact h.drop hk
    · exact (h.drop hk).fail 3
theorem ovc_leR {n:Nat} {ov:Ov} {xs:List Value} (h:OvOk 1 ov n xs):n≤ovc ov n:=by
  unfold ovc
  cases ov with
  | none=>have:=h.2;simp only at this ⊢;omega
  | some q=>simp only;omega
theorem rnewr_ok (p:Option Addr) (n cap:Nat) (xs:List Int) (hn:n=xs.length) (hbig:n≤1000000000) (hb:Byt xs) (w:World) (hp:RdSl w p u8V xs) :
    CallM Tryz.prog 52 [.slice p n cap] [] w fun v L=>∃ br s M,v = .pointer (some ⟨br,0,none⟩)∧s.xs=(if n≤1024 then xs else [])∧s.e=(if n≤1024 then 0 else 2)∧RsO s M∧L=s.L br++M:=by
  have hcl:=fun w1 (hc:Chg [] w w1)=>clone_ok p n cap xs hn hbig w1 (hp.chg' hc (fun _=>Off.nil _))
  subst hn
  have hro:∀ ov,OvOk 1 ov xs.length (u8s xs)→RsO ⟨ovp ov,ovc ov xs.length,xs,0⟩ (blkL 5 ov (u8s xs)):=fun ov hov=>by
    rw [← fl_u8] at hov ⊢
    refine ⟨fun w0 w S L' hw hin=>RdSl.own' hw hin hov u8V_len,fun hne=>?_,?_,hb,hbig⟩
    · cases ov with
      | none=>exact absurd (List.eq_nil_of_length_eq_zero hov.2) hne
      | some q=>exact ⟨_,_,rfl,by simp [blks,blkL]⟩
    · exact ovc_leR hov
  refine enterK (tb:=tb) Tryz.func52 rfl Tryz.ntmps52 rfl ?_
  by_cases hl:xs.length≤1024
  · repeat' (first|(apply R.is1;first|(apply R.isBin;(apply R.pure;exact rfl;(apply Ok1.gtr_f;exact rfl;exact rfl;omega)))|(apply R.isCall;first|(apply R.callE;(iterate 3 exact rfl);exact Ext.none _;intro w1 hw1;exact hcl w1 hw1.chg;rintro v Lo ⟨ov,hov,hsome,rfl,rfl⟩;rw [slV_eq hov])|(apply R.pure;exact rfl;(apply Ok1.lenS;(iterate 3 exact rfl))))|(apply R.pure;exact rfl;first|(apply Ok1.move;exact rfl)|(apply Ok1.assign;exact rfl)|(apply Ok1.build;(iterate 5 exact rfl)))|(apply R.box;(iterate 3 exact rfl);intro))|apply R.nil|(apply T.is;first|apply T.seq|apply T.region|apply T.skip|apply T.ret|(apply T.cond_f;exact rfl)))
    (apply RetOk.t;exact rfl)
    refine ⟨_,?_,_,⟨ovp ov,ovc ov xs.length,xs,0⟩,_,rfl,by simp only [if_pos hl],by simp only [if_pos hl],hro ov hov,rfl⟩
    simp only [Rs.L,List.append_nil,List.cons_append,List.nil_append]
    (focus (repeat' first|exact Ext.one _ _|exact Ext.all _|apply Keep.cons|apply Keep.last);done)
  · repeat' (first|(apply R.is1;first|(apply R.isBin;(apply R.pure;exact rfl;(apply Ok1.gtr_t;exact rfl;exact rfl;omega)))|(apply R.isCall;first|(apply R.callE (vs:=[.slice p xs.length cap]);(iterate 3 exact rfl);exact Ext.none _;intro w1 hw1;exact hcl w1 hw1.chg;rintro v Lo ⟨ov,hov,hsome,rfl,rfl⟩;rw [slV_eq hov])|(apply R.callE (Li:=[(_,.cells ⟨[.slice (ovp ov) xs.length (ovc ov xs.length),.int .i64 0]⟩ 232 (0,0))]);(iterate 3 exact rfl);(focus ((repeat' (exact Ext.one _ _));done));intro w1 hw1;exact rfail_ok _ ⟨ovp ov,ovc ov xs.length,xs,0⟩ 2 w1;rintro v Lo ⟨rfl,rfl⟩)|(apply R.pure;exact rfl;(apply Ok1.lenS;(iterate 3 exact rfl))))|(apply R.pure;exact rfl;first|(apply Ok1.move;exact rfl)|(apply Ok1.fieldAddr;(iterate 5 exact rfl))|(apply Ok1.assign;exact rfl)|(apply Ok1.build;(iterate 5 exact rfl))|(apply Ok1.nilCheck;exact rfl))|(apply R.box;(iterate 3 exact rfl);intro))|apply R.nil|(apply T.is;first|apply T.seq|apply T.region|apply T.ret|(apply T.cond_t;exact rfl)))
    (apply RetOk.t;exact rfl)
    refine ⟨_,?_,_,(⟨ovp ov,ovc ov xs.length,xs,0⟩:Rs).fail 2,_,rfl,by simp only [if_neg hl,Rs.fail,if_pos],by simp only [if_neg hl,Rs.fail,if_pos],(hro ov hov).fail 2,rfl⟩
    simp only [Rs.L,List.append_nil,List.cons_append,List.nil_append]
    (focus (repeat' first|exact Ext.one _ _|exact Ext.all _|apply Keep.cons|apply Keep.last);done)
theorem ovoff {ov:Ov} {xs:List Value} {e:Nat} {w0 w:World} {S:List Nat} {L Li Lr:Lst} (hw:Hp w0 S L w) (he:Ext L Li Lr) (hin:∀ z∈blkL e ov xs,z∈Lr):Off (ovp ov) (blks Li):=by
  intro a ha
  cases ov with
  | none=>cases ha
  | some q =>
    obtain ⟨b,j,junk⟩:=q
    cases ha
    exact RdSl.off hw he (hin _ List.mem_cons_self)
theorem Rs.ok.fail {s:Rs} {br:Nat} {w:World} (h:s.ok br w) (e:Int):(s.fail e).ok br w:=by
  unfold Rs.fail
  split
  · exact ⟨.inl rfl,Nat.le_refl _,(fun h=>absurd rfl h),(fun y hy=>by cases hy),Nat.zero_le _⟩
  · exact h
theorem Rs.ok.drop {s:Rs} {br:Nat} {w:World} (h:s.ok br w) {k:Nat} (hk:k≤s.xs.length):(s.drop k).ok br w:=by
  refine ⟨h.rd.suf u8V_len hk h.cap,?_,fun hne=>?_,fun y hy=>h.byt y (List.mem_of_mem_drop hy),?_⟩
  · have:=h.cap;simp only [Rs.drop,List.length_drop];omega
  · exact (h.off (by intro h0;apply hne;simp [Rs.drop,h0])).suf _ _ _
  · have:=h.big;simp only [Rs.drop,List.length_drop];omega
theorem Rs.ok.num {s:Rs} {br:Nat} {w:World} (h:s.ok br w) (k:Nat):(s.num k).2.2.ok br w:=by
  unfold Rs.num
  split
  · exact h.fail 4
  · rename_i hn
    have hk:k≤s.xs.length:=Nat.le_of_not_lt fun h1=>hn (.inr h1)
    split
    · exact h.drop hk
    · exact (h.drop hk).fail 3
theorem Rs.ok.chg {s:Rs} {br:Nat} {w w1:World} (h:s.ok br w) {S:List Nat} (hc:Chg S w w1) (hS:S=[br]):s.ok br w1:=⟨h.rd.chg' hc (fun h9=>hS ▸ h.off h9),h.cap,h.off,h.byt,h.big⟩
theorem rL_blk (s:Rs) (br:Nat):blks (s.L br)=[br]:=rfl
theorem Ext.memI9 {L s L1:Lst} {x:Nat × Obj} (hm:x∈s) (h:Ext L s L1):x∈L:=h.mem x hm
end Go.Proofs.YtcfdgnajepilbaaGreat
set_option linter.unusedSimpArgs false
set_option linter.unusedVariables false
namespace Go.Proofs.YtcfdgnajepilbaaGreat
open Go.RowKit Go.Shelf Go.Sort
set_option maxRecDepth 100000
theorem insC_nil (p:Option Addr) (cap:Nat) (f:Value):CallP Tryz.prog 360 [.slice p 0 cap,.int .i64 0,.int .i64 0,f] (.tuple #[]):=by
  refine enterP (tb:=tb) Tryz.func360 rfl Tryz.ntmps360 rfl fun w=>?_
  repeat' (first|(apply R.is1;first|(apply R.isBin;(apply R.pure;exact rfl;first|(apply Ok1.add64;exact rfl;exact rfl;omega;omega)|(apply Ok1.lss_f;exact rfl;exact rfl;omega)))|(apply R.pure;exact rfl;first|(apply Ok1.move;exact rfl)|(apply Ok1.assign;exact rfl)))|apply R.nil|(apply T.is;first|apply T.rounds 2|apply T.seq|apply T.region|apply T.block|apply T.exit|(apply T.cond_f;exact rfl)))
  all_goals (apply RetOk.n)
  all_goals rfl
theorem pdqC_nil (p:Option Addr) (cap:Nat) (l:Int) (f:Value):CallP Tryz.prog 303 [.slice p 0 cap,.int .i64 0,.int .i64 0,.int .i64 l,f] (.tuple #[]):=by
  refine enterP (tb:=tb) Tryz.func303 rfl Tryz.ntmps303 rfl fun w=>?_
  repeat' (first|(apply R.is1;first|(apply R.isBin;(apply R.pure;exact rfl;first|(apply Ok1.sub64;exact rfl;exact rfl;omega;omega)|(apply Ok1.leq_t;exact rfl;exact rfl;omega)))|(apply R.isCall;apply R.callP rfl rfl rfl (insC_nil _ _ _))|(apply R.pure;exact rfl;first|(apply Ok1.move;exact rfl)|(apply Ok1.assign;exact rfl)))|apply R.nil|(apply T.is;first|apply T.rounds 2|apply T.seq|apply T.region|apply T.block|apply T.ret|(apply T.cond_t;exact rfl)))
  all_goals (apply RetOk.n)
  all_goals rfl
theorem sortC_nil (p:Option Addr) (cap:Nat) (f:Value):CallP Tryz.prog 210 [.slice p 0 cap,f] (.tuple #[]):=by
  refine enterP (tb:=tb) Tryz.func210 rfl Tryz.ntmps210 rfl fun w=>?_
  repeat' (first|(apply R.is1;first|(apply R.isCall;first|apply R.callP rfl rfl rfl (len_ok _ (by omega) (by omega))|apply R.callP rfl rfl rfl (pdqC_nil _ _ _ _)|(apply R.pure;exact rfl;(apply Ok1.lenS;(iterate 3 exact rfl))))|(apply R.pure;exact rfl;first|(apply Ok1.move;exact rfl)|(apply Ok1.assign;exact rfl)|(apply Ok1.convU64;(iterate 5 exact rfl);omega;omega)))|apply R.nil|(apply T.is;first|apply T.seq|apply T.region))
  all_goals (apply RetOk.n)
  all_goals rfl

theorem Cl.v_len (c:Cl):c.v.length=4:=rfl
theorem swoC:SWO (ltOf cmpCl) where
  irrefl:=fun x=>by simp only [ltOf,decide_eq_false_iff_not,cmpCl_neg,ltC];omega
  trans:=fun x y z=>by simp only [ltOf,decide_eq_true_eq,cmpCl_neg,ltC];omega
  ntrans:=fun x y z=>by simp only [ltOf,decide_eq_false_iff_not,cmpCl_neg,ltC];omega
theorem sortC_ok (rs:List Cl) (hlen:rs.length≤1000) (ov:Ov) (hov:OvOk 4 ov rs.length (fl Cl.v rs)) (w:World) :
    CallM Tryz.prog 210 [slV ov rs.length,.func (.func 211) #[] #[]] (blkL 31 ov (fl Cl.v rs)) w fun v L=>v = .tuple #[]∧∃ rs',rs'.Perm rs∧Asc cmpCl rs' ∧ L=blkL 31 ov (fl Cl.v rs'):=by
  cases ov with
  | none =>
    have h0:rs.length=0:=hov.2
    have:rs=[]:=by cases rs;rfl;simp at h0
    subst this
    exact ⟨fun hw=>((sortC_nil none 0 _).run w).mono fun e' w' ⟨h1,h2⟩=>⟨_,_,h1,⟨rfl,[],.refl _,.nil,rfl⟩,hw.step h2⟩⟩
  | some x =>
    obtain ⟨b,j,junk⟩:=x
    exact sort_ok Tryz.sortC (fun w=>(tb.get (t:=31) rfl).agg rfl w) (tb.get (t:=31) rfl).size Cl.v_len (fun x v hv=>by
      simp only [Cl.v,List.mem_cons,List.not_mem_nil,or_false] at hv
      rcases hv with rfl|rfl|rfl|rfl<;>rfl) _ swoC 211 [] rfl b _ rs junk _ w (tb.ent rfl) (by omega)
      (fun W hW x y=>(compare_ok x y).at W)
end Go.Proofs.YtcfdgnajepilbaaGreat
set_option linter.unusedSimpArgs false
set_option linter.unusedVariables false
namespace Go.Proofs.YtcfdgnajepilbaaGreat
open Go.RowKit Go.Shelf
set_option maxRecDepth 100000
def sTok:ByteArray:=⟨#[116,111,107,101,110]⟩
def secretI (k:List Int) (c:Cl):List Int:=deriveI k sTok [clI c]
def clC (c:Cl):List Value:=[.int .i64 c.id,.int .i64 c.roles,.int .i64 c.exp,.int .i64 c.ser]
def tkC (c:Cl) (s:List Int):List Value:=clC c++u8s s
def zI (n:Nat):List Int:=List.replicate n 0
theorem list32 {α:Type}:∀ (l:List α),l.length=32→∃ x0 x1 x2 x3 x4 x5 x6 x7 x8 x9 x10 x11 x12 x13 x14 x15 x16 x17 x18 x19 x20 x21 x22 x23 x24 x25 x26 x27 x28 x29 x30 x31,l=[x0,x1,x2,x3,x4,x5,x6,x7,x8,x9,x10,x11,x12,x13,x14,x15,x16,x17,x18,x19,x20,x21,x22,x23,x24,x25,x26,x27,x28,x29,x30,x31]:=by
  intro l h
  match l,h with
  | [x0,x1,x2,x3,x4,x5,x6,x7,x8,x9,x10,x11,x12,x13,x14,x15,x16,x17,x18,x19,x20,x21,x22,x23,x24,x25,x26,x27,x28,x29,x30,x31],_=>exact ⟨x0,x1,x2,x3,x4,x5,x6,x7,x8,x9,x10,x11,x12,x13,x14,x15,x16,x17,x18,x19,x20,x21,x22,x23,x24,x25,x26,x27,x28,x29,x30,x31,rfl⟩
theorem fill_tk (a b:Nat) (c:Cl) (d:List Int) (hd:d.length=32):fillE (fldPl [(a,0,4),(b,4,32)]) (tkC ⟨0,0,0,0⟩ (zI 32)) [(0,.agg ⟨clC c⟩),(1,.agg ⟨u8s d⟩)]=some (tkC c d):=by
  obtain ⟨x0,x1,x2,x3,x4,x5,x6,x7,x8,x9,x10,x11,x12,x13,x14,x15,x16,x17,x18,x19,x20,x21,x22,x23,x24,x25,x26,x27,x28,x29,x30,x31,rfl⟩:=list32 d hd
  rfl
theorem secret_len (k:List Int) (c:Cl):(secretI k c).length=32:=derive_len _ _ _
theorem secret_byt (k:List Int) (c:Cl):Byt (secretI k c):=derive_byt _ _ _
theorem make_ok (c:Cl) (hr:c.right) (bk:Nat) (k:List Int) (hkl:k.length≤999999000) (hkb:Byt k) (w:World) (hk:KeyR w bk k):CallW Tryz.prog 63 [.pointer (some ⟨bk,0,none⟩),kvC c] w fun v _=>v = .tuple #[.agg ⟨tkC c (secretI k c)⟩,.int .i64 0]:=by
  have hcb:=clBytes_ok c hr
  have hdl:=secret_len k c
  have hdd:secretI k c=deriveI k sTok [clI c]:=rfl
  have hcl:=clI_len c
  have hcy:=clI_byt c
  have hfl:(frameI [strI sTok,clI c]).length=22:=rfl
  have hst:sTok.size=5:=rfl
  generalize hsec:secretI k c=d at *
  generalize clI c=cb at *
  have hls:(u8s d).length=32:=by rw [u8s_len,hdl]
  have htl:(tkC c d).length=36:=by simp [tkC,clC,hls]
  have hto:(tkC c d).all Value.oneCell'=true:=by simp only [tkC,List.all_append,u8s_one,Bool.and_true];rfl
  have hfill:=fun a b=>fill_tk a b c d hdl
  refine enterW (tb:=tb) Tryz.func63 rfl Tryz.ntmps63 rfl ?_
  simp only [kvC]
  repeat' (first|(apply R.is1;first|(apply R.isBin;(apply R.pure;exact rfl;first|(apply Ok1.neq_f;exact rfl;exact rfl;omega)|(apply Ok1.eqlP;(iterate 5 exact rfl))))|(apply R.isCall;(apply R.callE (vs:=[.agg ⟨[.int .i64 c.id,.int .i64 c.roles,.int .i64 c.exp,.int .i64 c.ser]⟩]);(iterate 3 exact rfl);exact Ext.none _;intro w1 hw1;exact hcb w1;rintro v Lo ⟨ov,hov,rfl,rfl⟩;rw [slV_eq hov];obtain ⟨b9,j9,k9,rfl⟩:=ovsome hov (by decide);simp only [blkL,List.cons_append,List.nil_append]))|(apply R.pure;exact rfl;first|(apply Ok1.move;exact rfl)|(apply Ok1.load;exact rfl;(apply Ld.ownk;exact rfl;exact rfl;(focus (repeat' first|exact At.head|apply At.tail);done);exact rfl))|(apply Ok1.assign;exact rfl)|(apply Ok1.extract;exact rfl;exact rfl))|(apply R.box;(iterate 3 exact rfl);intro)|(apply R.alloc;(iterate 3 exact rfl);intro))|apply R.nil|(apply T.is;first|apply T.seq|apply T.region|apply T.skip|(apply T.cond_f;exact rfl)))
  simp only [ovp,ovc]
  apply T.drawC (id:=6) [2] (by decide)
  (apply A.tk 0;exact rfl;kernel_rfl;(apply Ok1.load;exact rfl;(apply Ld.ownk;exact rfl;exact rfl;exact At.head;exact rfl)))
    <;> (apply A.tk 1;exact rfl;kernel_rfl;(apply Ok1.move;exact rfl))
    <;> (apply A.tk 2;exact rfl;kernel_rfl;(apply Ok1.move;exact rfl))
    <;> (apply A.one 3;kernel_rfl;exact rfl;(((apply R.buildSlice;(iterate 12 exact rfl);intro)));apply R.nil;refine ⟨?_,?_⟩;(focus (repeat' first|exact trivial|exact At.head|apply At.tail|refine ⟨?_,?_⟩)))
    <;> (apply A.one 4;kernel_rfl;exact rfl;(((apply R.callE (vs:=[.pointer (some ⟨bk,0,none⟩),.string sTok,.slice (some ⟨_,0,none⟩) 1 1]);(iterate 3 exact rfl);exact Ext.none _;intro w1 hw1;exact derive_ok bk k hkl hkb sTok (by rw [hst];decide) _ 1 1 [⟨some ⟨b9,0,none⟩,9+j9,cb⟩] rfl (by decide) (by intro x hx;cases List.mem_singleton.1 hx;exact hcy) (by rw [List.map_cons,List.map_nil,hfl];decide) (by intro x hx;cases List.mem_singleton.1 hx;rw [hcl];decide) w1 (hk.chg hw1.chg) (RdSl.of (junk:=[]) hw1 (by exact At.head) (by simp [fl,Pt.v,hcl])) (by intro x hx;cases List.mem_singleton.1 hx;exact RdSl.of (junk:=k9) hw1 (by (focus (repeat' first|exact At.head|apply At.tail);done)) (by rw [fl_u8]));rw [List.map_cons,List.map_nil,← hdd];rintro v Lo ⟨bk2,ov2,rfl,hov2,rfl⟩)));apply R.nil;refine ⟨?_,?_⟩;(focus (repeat' first|exact trivial|exact At.head|apply At.tail|apply At.right|refine ⟨?_,?_⟩)))
    <;> (apply A.one 5;kernel_rfl;exact rfl;(((apply R.callE (vs:=[.pointer (some ⟨bk2,0,none⟩)]);(iterate 3 exact rfl);exact Ext.none _;intro w1 hw1;exact bytes_ok bk2 d (by rw [hdl];decide) w1 (KeyR.of (by rw [hdl];exact hov2) hw1 (Ext.mem (by (focus ((repeat' (exact Ext.here _ _));done)))));rw [hdl];rintro v Lo ⟨ov3,hov3,rfl,rfl⟩;rw [slV_eq hov3];obtain ⟨b3,j3,k3,rfl⟩:=ovsome hov3 (by decide);simp only [ovp,ovc,blkL,List.cons_append,List.nil_append])));apply R.nil;refine ⟨?_,?_⟩;(focus (repeat' first|exact trivial|exact At.head|apply At.tail|apply At.right|refine ⟨?_,?_⟩)))
    <;> (apply A.tk 6;exact rfl;kernel_rfl;(apply Ok1.arrPtr;(iterate 3 exact rfl);omega))
    <;> (apply A.one 7;kernel_rfl;exact rfl;(((apply R.pure;exact rfl;(apply Ok1.load;exact rfl;apply Ld.ownk;exact rfl;exact rfl;exact At.head;exact subE_app _ _ hls))));apply R.nil;refine ⟨?_,?_⟩;(focus (repeat' first|exact trivial|exact At.head|apply At.tail|apply At.right|refine ⟨?_,?_⟩)))
    <;> (apply A.tk 8;exact rfl;kernel_rfl;(apply Ok1.build;(iterate 4 exact rfl);exact hfill _ _))
    <;> (apply A.one 9;kernel_rfl;exact rfl;(((apply R.store;(iterate 4 exact rfl);exact htl;exact hto;(focus (repeat' first|exact Upd.head|apply Upd.tail|apply Upd.right);done);exact setE_all htl)));apply R.nil;refine ⟨?_,?_⟩;(focus (repeat' first|exact trivial|exact At.head|apply At.tail|apply At.right|refine ⟨?_,?_⟩)))
    <;> (apply A.tk 10;exact rfl;kernel_rfl;(apply Ok1.assign;exact rfl))
    <;> (apply A.done;kernel_rfl)
  repeat' ((apply T.is;apply T.ret))
  all_goals apply RetOk.ct
  all_goals first|exact rfl|skip
  all_goals (apply Ld.ownk;exact rfl;exact rfl;(focus (repeat' first|exact At.head|apply At.tail|apply At.right);done);exact subE_all htl)
theorem RdSl.mid {w0 w:World} {S:List Nat} {L:Lst} {b:Nat} {e:TypeId} {fz:Nat × Nat} {pre junk:List Value} {xs:List Int} (hw:Hp w0 S L w) (hat:At L b (.cells ⟨pre++u8s xs++junk⟩ e fz)) {o:Nat} (ho:o=pre.length):RdSl w (some ⟨b,o,none⟩) u8V xs:=by
  subst ho
  right
  refine ⟨b,pre.length,rfl,fun k hk=>?_⟩
  have h1:=hw.get b _ hat.mem
  rw [fl_u8] at hk ⊢
  simp only [World.cell?,h1]
  simp only [List.append_assoc,List.getElem?_toArray]
  rw [List.getElem?_append_right (by omega),List.getElem?_append_left (by omega),Nat.add_sub_cancel_left]
  rfl
theorem key_ok (c:Cl) (s:List Int) (hs:s.length=32):∀ w,CallM Tryz.prog 278 [.agg ⟨tkC c s⟩] [] w fun v L=>∃ bk ov,v = .pointer (some ⟨bk,0,none⟩)∧OvOk 1 ov 32 (u8s s)∧L=KL bk ov s:=by
  intro w
  refine enterK (tb:=tb) Tryz.func278 rfl Tryz.ntmps278 rfl ?_
  have hls:(u8s s).length=32:=by rw [u8s_len,hs]
  have htl:(tkC c s).length=36:=by simp [tkC,clC,hls]
  repeat' (first|(apply R.is1;first|(apply R.isCall;(apply R.callE;(iterate 3 exact rfl);exact Ext.none _;intro w1 hw1;exact new_ok (some ⟨_,4,none⟩) 32 32 s hs.symm (by decide) w1 (RdSl.mid (pre:=clC c) (junk:=[]) hw1 (by rw [List.append_nil];exact At.head) rfl);rintro v Lo ⟨bk2,ov2,rfl,hov2,_,rfl⟩))|(apply R.pure;exact rfl;first|(apply Ok1.sliceArr;(iterate 4 exact rfl))|(apply Ok1.fieldAddr;(iterate 5 exact rfl))|(apply Ok1.assign;exact rfl))|(apply R.box;(iterate 3 exact rfl);intro))|apply R.nil|(apply T.is;first|apply T.seq|apply T.region|apply T.ret))
  (apply RetOk.t;exact rfl)
  rw [hs] at hov2
  refine ⟨_,?_,bk2,ov2,rfl,hov2,rfl⟩
  (focus (repeat' first|exact Ext.one _ _|exact Ext.here _ _|apply Keep.cons|apply Keep.last);done)
def Rs.cA (s:Rs):Rs:=(s.num 2).2.2
def Rs.cB (s:Rs):Rs:=(s.cA.num 1).2.2
def Rs.cD (s:Rs):Rs:=(s.cB.num 4).2.2
def Rs.c4 (s:Rs):Rs:=(s.cD.num 2).2.2
def Rs.cv (s:Rs):Cl:=⟨(s.num 2).1,(s.cA.num 1).1,(s.cB.num 4).1,(s.cD.num 2).1⟩
def cl0:Cl:=⟨0,0,0,0⟩
def rdC (s:Rs):Cl × Int:=if s.c4.e≠0 then (cl0,s.c4.e) else if s.cv.right then (s.cv,0) else (cl0,3)
theorem cread_ok (br:Nat) (s:Rs) (w:World) (hs:s.ok br w):CallM Tryz.prog 135 [.pointer (some ⟨br,0,none⟩)] (s.L br) w fun v L=>v = .tuple #[kvC (rdC s).1,.int .i64 (rdC s).2]∧L=s.c4.L br:=by
  have hbl0:=rL_blk s br
  have oA:s.cA.ok br w:=hs.num 2
  have oB:s.cB.ok br w:=oA.num 1
  have oD:s.cD.ok br w:=oB.num 4
  have h1:∀ w1,s.ok br w1→CallM Tryz.prog 53 [.pointer (some ⟨br,0,none⟩),.int .i64 1] (s.L br) w1 fun v L=>v = .int .i64 s.cv.id∧L=s.cA.L br:=fun w1 h=>rnum_ok br s 1 2 (by decide) rfl w1 h
  have h2:∀ w1,s.cA.ok br w1→CallM Tryz.prog 53 [.pointer (some ⟨br,0,none⟩),.int .i64 0] (s.cA.L br) w1 fun v L=>v = .int .i64 s.cv.roles∧L=s.cB.L br:=fun w1 h=>rnum_ok br s.cA 0 1 (by decide) rfl w1 h
  have h3:∀ w1,s.cB.ok br w1→CallM Tryz.prog 53 [.pointer (some ⟨br,0,none⟩),.int .i64 2] (s.cB.L br) w1 fun v L=>v = .int .i64 s.cv.exp∧L=s.cD.L br:=fun w1 h=>rnum_ok br s.cB 2 4 (by decide) rfl w1 h
  have h4:∀ w1,s.cD.ok br w1→CallM Tryz.prog 53 [.pointer (some ⟨br,0,none⟩),.int .i64 1] (s.cD.L br) w1 fun v L=>v = .int .i64 s.cv.ser∧L=s.c4.L br:=fun w1 h=>rnum_ok br s.cD 1 2 (by decide) rfl w1 h
  have hre:=fun w1 h=>rerr_ok br s.c4 w1 h
  have hck:=check_ok s.cv.id s.cv.roles s.cv.exp s.cv.ser
  have hD:rdC s=if s.c4.e≠0 then (cl0,s.c4.e) else if s.cv.right then (s.cv,0) else (cl0,3):=rfl
  have hm3:(br,Obj.cells ⟨[.slice s.c4.q s.c4.xs.length s.c4.cap,.int .i64 s.c4.e]⟩ 232 (0,0))∈s.c4.L br:=by simp [Rs.L]
  generalize hL4:s.c4.L br=L4 at *
  generalize s.c4=s4 at *
  generalize hLD:s.cD.L br=LD at *
  generalize s.cD=sD at *
  generalize hLB:s.cB.L br=LB at *
  generalize s.cB=sB at *
  generalize hLA:s.cA.L br=LA at *
  generalize s.cA=sA at *
  generalize s.cv=c at *
  generalize rdC s=rd at *
  generalize hLS:s.L br=LS at *
  refine enterK (tb:=tb) Tryz.func135 rfl Tryz.ntmps135 rfl ?_
  by_cases he:s4.e=0
  · rw [if_neg (fun h=>h he)] at hD
    rw [he] at hre hm3
    by_cases hr:c.right
    · rw [if_pos hr] at hD hck
      subst hD
      repeat' (first|(apply R.is1;first|(apply R.isBin;(apply R.pure;exact rfl;(apply Ok1.neq_f;exact rfl;exact rfl;omega)))|(apply R.isCall;first|(apply R.callE (Li:=LS) (vs:=[.pointer (some ⟨br,0,none⟩),.int .i64 1]);(iterate 3 exact rfl);(focus (repeat' first|exact Ext.all _|apply Ext.cons|apply Ext.app);done);intro w1 hw1;exact h1 w1 (hs.chg hw1.chg hbl0);rintro v Lo ⟨rfl,hq⟩;rw [hq];clear hq)|(apply R.callE (Li:=LA) (vs:=[.pointer (some ⟨br,0,none⟩),.int .i64 0]);(iterate 3 exact rfl);(focus ((repeat' (exact Ext.here _ _));done));intro w1 hw1;exact h2 w1 (oA.chg hw1.chg hbl0);rintro v Lo ⟨rfl,hq⟩;rw [hq];clear hq)|(apply R.callE (Li:=LB) (vs:=[.pointer (some ⟨br,0,none⟩),.int .i64 2]);(iterate 3 exact rfl);(focus ((repeat' (exact Ext.here _ _));done));intro w1 hw1;exact h3 w1 (oB.chg hw1.chg hbl0);rintro v Lo ⟨rfl,hq⟩;rw [hq];clear hq)|(apply R.callE (Li:=LD) (vs:=[.pointer (some ⟨br,0,none⟩),.int .i64 1]);(iterate 3 exact rfl);(focus ((repeat' (exact Ext.here _ _));done));intro w1 hw1;exact h4 w1 (oD.chg hw1.chg hbl0);rintro v Lo ⟨rfl,hq⟩;rw [hq];clear hq)|(apply R.callV (vs:=[.pointer (some ⟨br,0,none⟩)]);(iterate 3 exact rfl);intro w1 hw1;(apply hre w1;apply hw1.get;apply Ext.memI9 hm3;(focus (repeat' first|exact Ext.here _ _|apply Ext.cons);done)))|apply R.callP rfl rfl rfl hck)|(apply R.pure;exact rfl;first|(apply Ok1.move;exact rfl)|(apply Ok1.load;exact rfl;(apply Ld.ownk;exact rfl;exact rfl;exact At.head;exact rfl))|(apply Ok1.assign;exact rfl)|(apply Ok1.build;(iterate 5 exact rfl)))|(apply R.alloc;(iterate 3 exact rfl);intro))|(apply R.is0;(apply R.store;(iterate 6 exact rfl);(focus (repeat' first|exact Upd.head|apply Upd.tail|apply Upd.right);done);exact rfl))|apply R.nil|(apply T.is;first|apply T.seq|apply T.region|apply T.skip|apply T.ret|(apply T.cond_f;exact rfl)))
      (apply RetOk.ct;exact rfl;((apply Ld.ownk;exact rfl;exact rfl;(focus (repeat' first|exact At.head|apply At.tail|apply At.right);done);exact rfl));exact rfl)
      exact ⟨_,by (focus (repeat' first|exact Ext.here _ _|apply Keep.last|apply Ext.cons);done),rfl,rfl⟩
    · rw [if_neg hr] at hD hck
      subst hD
      repeat' (first|(apply R.is1;first|(apply R.isBin;(apply R.pure;exact rfl;first|(apply Ok1.neq_t;exact rfl;exact rfl;omega)|(apply Ok1.neq_f;exact rfl;exact rfl;omega)))|(apply R.isCall;first|(apply R.callE (Li:=LS) (vs:=[.pointer (some ⟨br,0,none⟩),.int .i64 1]);(iterate 3 exact rfl);(focus (repeat' first|exact Ext.all _|apply Ext.cons|apply Ext.app);done);intro w1 hw1;exact h1 w1 (hs.chg hw1.chg hbl0);rintro v Lo ⟨rfl,hq⟩;rw [hq];clear hq)|(apply R.callE (Li:=LA) (vs:=[.pointer (some ⟨br,0,none⟩),.int .i64 0]);(iterate 3 exact rfl);(focus ((repeat' (exact Ext.here _ _));done));intro w1 hw1;exact h2 w1 (oA.chg hw1.chg hbl0);rintro v Lo ⟨rfl,hq⟩;rw [hq];clear hq)|(apply R.callE (Li:=LB) (vs:=[.pointer (some ⟨br,0,none⟩),.int .i64 2]);(iterate 3 exact rfl);(focus ((repeat' (exact Ext.here _ _));done));intro w1 hw1;exact h3 w1 (oB.chg hw1.chg hbl0);rintro v Lo ⟨rfl,hq⟩;rw [hq];clear hq)|(apply R.callE (Li:=LD) (vs:=[.pointer (some ⟨br,0,none⟩),.int .i64 1]);(iterate 3 exact rfl);(focus ((repeat' (exact Ext.here _ _));done));intro w1 hw1;exact h4 w1 (oD.chg hw1.chg hbl0);rintro v Lo ⟨rfl,hq⟩;rw [hq];clear hq)|(apply R.callV (vs:=[.pointer (some ⟨br,0,none⟩)]);(iterate 3 exact rfl);intro w1 hw1;(apply hre w1;apply hw1.get;apply Ext.memI9 hm3;(focus (repeat' first|exact Ext.here _ _|apply Ext.cons);done)))|apply R.callP rfl rfl rfl hck)|(apply R.pure;exact rfl;first|(apply Ok1.move;exact rfl)|(apply Ok1.load;exact rfl;(apply Ld.ownk;exact rfl;exact rfl;exact At.head;exact rfl))|(apply Ok1.assign;exact rfl)|(apply Ok1.build;(iterate 5 exact rfl)))|(apply R.alloc;(iterate 3 exact rfl);intro))|(apply R.is0;(apply R.store;(iterate 6 exact rfl);(focus (repeat' first|exact Upd.head|apply Upd.tail|apply Upd.right);done);exact rfl))|apply R.nil|(apply T.is;first|apply T.seq|apply T.region|apply T.skip|apply T.ret|(apply T.cond_t;exact rfl)|(apply T.cond_f;exact rfl)))
      (apply RetOk.ct;exact rfl;((apply Ld.ownk;exact rfl;exact rfl;(focus (repeat' first|exact At.head|apply At.tail|apply At.right);done);exact rfl));exact rfl)
      exact ⟨_,by (focus (repeat' first|exact Ext.here _ _|apply Keep.last|apply Ext.cons);done),rfl,rfl⟩
  · rw [if_pos he] at hD
    subst hD
    repeat' (first|(apply R.is1;first|(apply R.isBin;(apply R.pure;exact rfl;(apply Ok1.neq_t;exact rfl;exact rfl;omega)))|(apply R.isCall;first|(apply R.callE (Li:=LS) (vs:=[.pointer (some ⟨br,0,none⟩),.int .i64 1]);(iterate 3 exact rfl);(focus (repeat' first|exact Ext.all _|apply Ext.cons|apply Ext.app);done);intro w1 hw1;exact h1 w1 (hs.chg hw1.chg hbl0);rintro v Lo ⟨rfl,hq⟩;rw [hq];clear hq)|(apply R.callE (Li:=LA) (vs:=[.pointer (some ⟨br,0,none⟩),.int .i64 0]);(iterate 3 exact rfl);(focus ((repeat' (exact Ext.here _ _));done));intro w1 hw1;exact h2 w1 (oA.chg hw1.chg hbl0);rintro v Lo ⟨rfl,hq⟩;rw [hq];clear hq)|(apply R.callE (Li:=LB) (vs:=[.pointer (some ⟨br,0,none⟩),.int .i64 2]);(iterate 3 exact rfl);(focus ((repeat' (exact Ext.here _ _));done));intro w1 hw1;exact h3 w1 (oB.chg hw1.chg hbl0);rintro v Lo ⟨rfl,hq⟩;rw [hq];clear hq)|(apply R.callE (Li:=LD) (vs:=[.pointer (some ⟨br,0,none⟩),.int .i64 1]);(iterate 3 exact rfl);(focus ((repeat' (exact Ext.here _ _));done));intro w1 hw1;exact h4 w1 (oD.chg hw1.chg hbl0);rintro v Lo ⟨rfl,hq⟩;rw [hq];clear hq)|(apply R.callV (vs:=[.pointer (some ⟨br,0,none⟩)]);(iterate 3 exact rfl);intro w1 hw1;(apply hre w1;apply hw1.get;apply Ext.memI9 hm3;(focus (repeat' first|exact Ext.here _ _|apply Ext.cons);done))))|(apply R.pure;exact rfl;first|(apply Ok1.move;exact rfl)|(apply Ok1.assign;exact rfl)|(apply Ok1.build;(iterate 5 exact rfl)))|(apply R.alloc;(iterate 3 exact rfl);intro))|(apply R.is0;(apply R.store;(iterate 6 exact rfl);(focus (repeat' first|exact Upd.head|apply Upd.tail|apply Upd.right);done);exact rfl))|apply R.nil|(apply T.is;first|apply T.seq|apply T.region|apply T.ret|(apply T.cond_t;exact rfl)))
    all_goals (apply RetOk.ct;exact rfl;((apply Ld.ownk;exact rfl;exact rfl;(focus (repeat' first|exact At.head|apply At.tail|apply At.right);done);exact rfl));exact rfl)
    all_goals exact ⟨_,by (focus (repeat' first|exact Ext.here _ _|apply Keep.last|apply Ext.cons);done),rfl,rfl⟩
section
variable {X:Cx} {σ:Env} {L:Lst} {Rp:Value→Lst→Prop} {a b c' ta tb:Nat} {u v z:Value} {p q:Addr}
end
def NR (a b:Int):Prop:=1≤a∧a≤65535∧1≤b∧b≤2147483647
instance (a b:Int):Decidable (NR a b):=by unfold NR;infer_instance
theorem nonce_ok (a b:Int):CallP Tryz.prog 138 [.agg ⟨[.int .i64 a,.int .i64 b]⟩] (.int .i64 (if NR a b then 0 else 10)):=by
  refine enterP (tb:=tb) Tryz.func138 rfl Tryz.ntmps138 rfl fun w=>?_
  repeat' (first|(apply R.is1;first|(apply R.isBin;first|(apply R.lss rfl rfl rfl<;>intro)|(apply R.gtr rfl rfl rfl<;>intro))|(apply R.pure;exact rfl;first|(apply Ok1.move;exact rfl)|(apply Ok1.fieldAddr;(iterate 5 exact rfl))|(apply Ok1.load;exact rfl;(apply Ld.own1;exact rfl;exact rfl;exact At.head;exact rfl))|(apply Ok1.assign;exact rfl)|(apply Ok1.pick_t;exact rfl;exact rfl)|(apply Ok1.pick_f;exact rfl;exact rfl))|(apply R.box;(iterate 3 exact rfl);intro))|(apply R.isG;first|(apply R.guard_run;exact rfl;exact rfl)|(apply R.guard_not;(iterate 3 exact rfl)))|apply R.nil|(apply T.is;first|apply T.seq|apply T.region|apply T.skip|apply T.ret|(apply T.cond_t;exact rfl)|(apply T.cond_f;exact rfl)))
  all_goals (apply RetOk.t;exact rfl)
  all_goals first
    | (rw [if_pos (by unfold NR;omega)];done)
    | (rw [if_neg (by unfold NR;omega)];done)
theorem Rs.num_many {s:Rs} {k:Nat} (he:s.e=0) (h:k≤s.xs.length) (hv:beN (s.xs.take k)≤9223372036854775807):s.num k=(beN (s.xs.take k),true,s.drop k):=by
  unfold Rs.num
  rw [if_neg (by omega),if_pos hv]
def ZK (z k:Nat):Prop:=z=0∧k=1 ∨ z=1∧k=2 ∨ z=2∧k=4
theorem be_numI {z k:Nat} (hz:ZK z k) {v:Int} (h0:0≤v) (h1:k=1→v≤255) (h2:k=2→v≤65535) (h4:v≤4294967295):beN (numI z v)=v∧(numI z v).length=k:=by
  rcases hz with ⟨rfl,rfl⟩|⟨rfl,rfl⟩|⟨rfl,rfl⟩
  · have:=h1 rfl
    refine ⟨?_,rfl⟩
    simp only [numI,beN,List.foldl]
    omega
  · have:=h2 rfl
    refine ⟨?_,rfl⟩
    simp only [numI,beN,List.foldl]
    omega
  · refine ⟨?_,rfl⟩
    simp only [numI,len4,beN,List.foldl]
    omega
theorem Rs.num_fwd {s:Rs} {z k:Nat} {v:Int} {rest:List Int} (hz:ZK z k) (h0:0≤v) (h1:k=1→v≤255) (h2:k=2→v≤65535) (h4:v≤4294967295) (hs:s.xs=numI z v++rest) (he:s.e=0) :
    (s.num k).1=v∧(s.num k).2.2.xs=rest∧(s.num k).2.2.e=0:=by
  obtain ⟨g1,g2⟩:=be_numI hz h0 h1 h2 h4
  have ht:s.xs.take k=numI z v:=by rw [hs,← g2,List.take_left]
  have hd:s.xs.drop k=rest:=by rw [hs,← g2,List.drop_left]
  have hl:k≤s.xs.length:=by rw [hs,List.length_append,g2];omega
  rw [Rs.num_many he hl (by rw [ht,g1];omega),ht,g1]
  exact ⟨rfl,hd,he⟩
theorem Rs.c4_fwd {s:Rs} {c:Cl} {rest:List Int} (hr:c.right) (hs:s.xs=clI c++rest) (he:s.e=0):s.cv=c∧s.c4.xs=rest∧s.c4.e=0:=by
  unfold Cl.right at hr
  simp only [clI,List.nil_append,List.append_assoc] at hs
  obtain ⟨a1,a2,a3⟩:=Rs.num_fwd (z:=1) (k:=2) (.inr (.inl ⟨rfl,rfl⟩)) (by omega) (by omega) (by omega) (by omega) hs he
  obtain ⟨b1,b2,b3⟩:=Rs.num_fwd (s:=s.cA) (z:=0) (k:=1) (.inl ⟨rfl,rfl⟩) (by omega) (by omega) (by omega) (by omega) a2 a3
  obtain ⟨c1,c2,c3⟩:=Rs.num_fwd (s:=s.cB) (z:=2) (k:=4) (.inr (.inr ⟨rfl,rfl⟩)) (by omega) (by omega) (by omega) (by omega) b2 b3
  obtain ⟨d1,d2,d3⟩:=Rs.num_fwd (s:=s.cD) (z:=1) (k:=2) (.inr (.inl ⟨rfl,rfl⟩)) (by omega) (by omega) (by omega) (by omega) c2 c3
  refine ⟨?_,d2,d3⟩
  simp only [Rs.cv,a1,b1,c1,d1]
theorem rdC_fwd {s:Rs} {c:Cl} {rest:List Int} (hr:c.right) (hs:s.xs=clI c++rest) (he:s.e=0):rdC s=(c,0):=by
  obtain ⟨h1,h2,h3⟩:=Rs.c4_fwd hr hs he
  unfold rdC
  rw [if_neg (fun h=>h h3),h1,if_pos hr]
section
variable {X:Cx} {σ:Env} {L L':Lst} {dd:Nat} {ty:TypeId} {pos:String} {af:Array Edge} {x y:Operand} {t t2 e:TypeId} {r r2 re:TRow}
variable {all:Array Oper} {rest:List Oper} {K:Env→Lst→Prop} {p:Option Addr} {n m cap b o:Nat}
theorem copy_runO {α:Type} {v:α→List Value} {xs:List α} {P:Program} (tb:Tb P) (ht:tb.row t=some r) (hk:r.k = .slice e) (he:tb.row e=some re) (hs:re.size=1) (hv:∀ a,(v a).length=1) {w:World} {dn dcap:Nat} {cs cs':List Value} {te:TypeId}
    (hp:RdSl w p v xs) (h1:(fl v xs).all Value.oneCell'=true) (hb:w.heap[b]? = some (.cells ⟨cs⟩ te (0,0))) (hc:setE cs o (fl v (xs.take dn))=some cs') :
    ∃ w',(Builtin.copy_ #[t,t2] ty #[.slice (some ⟨b,o,none⟩) dn dcap,.slice p xs.length cap]).run P w = .ok (.int .i64 (min xs.length dn:Nat)) w' ∧ w'.heap[b]? = some (.cells ⟨cs'⟩ te (0,0))∧Chg [b] w w':=by
  have hu:P.underlying t=some (.slice e):=by have:=(tb.get ht).is;rw [hk] at this;exact this
  have hone:(fl v (xs.take dn)).all Value.oneCell'=true:=by
    rw [List.all_eq_true] at h1 ⊢
    intro z hz
    rw [← fl_takeG hv] at hz
    exact h1 z (List.mem_of_mem_take hz)
  obtain ⟨w',g1,g2,g3⟩:=run_stores P ⟨b,o,none⟩ rfl te (fl v (xs.take dn)) 0 w cs cs' hone hb hc
  have hf:(Builtin.firstCells 1 (min xs.length dn) (.slice p xs.length cap)).run P w = .ok ⟨fl v (xs.take dn)⟩ w:=by
    by_cases hx:xs.take dn=[]
    · have h9:(xs.take dn).length=0:=by rw [hx];rfl
      have h0:min xs.length dn=0:=by
        rw [List.length_take] at h9
        omega
      rw [hx,h0]
      cases p<;>simp [Builtin.firstCells,loadCells,loadCellsFrom,fl]
    · refine first_run ((hp.pre hv dn).holds hx) ?_
      rw [fl_len hv,List.length_take,Nat.min_comm]
  refine ⟨w',?_,g2,g3⟩
  unfold Builtin.copy_
  simp only [List.getElem?_toArray,List.getElem?_cons_zero,List.getElem?_cons_succ,Sem.run_bind,run_underlying hu,Result.andThen_ok,(tb.get he).size,hs,Sem.run_pure,Builtin.lenOf,show Nat.min xs.length dn=min xs.length dn from rfl,hf,g1,goInt]
theorem R.copyOff {α:Type} {v:α→List Value} {xs:List α} {dn dcap:Nat} {cs cs':List Value} {te:TypeId} {k:Nat} (hn:Nat.blt dd X.n=true) (ht:X.tb.row t=some r) (hk:r.k = .slice e) (he:X.tb.row e=some re) (hs:re.size=1)
    (hx:ev σ x=some (.slice (some ⟨b,o,none⟩) dn dcap)) (hy:ev σ y=some (.slice p m cap)) (hm:m=xs.length) (hv:∀ a,(v a).length=1) (hh:∀ w,Hp X.w0 X.S L w→RdSl w p v xs) (h1:(fl v xs).all Value.oneCell'=true)
    (hu:Upd L b (.cells ⟨cs⟩ te (0,0)) (.cells ⟨cs'⟩ te (0,0)) L') (hc:setE cs o (fl v (xs.take dn))=some cs') (hmin:min m dn=k) (h:R X all rest K ((dd,.int .i64 (k:Nat))::σ) L') :
    R X all (⟨some dd,.call { callee:=.builtin .copy,args:=#[x,y],argTypes:=#[t,t2] },ty,pos,af,none⟩::rest) K σ L :=
  R.value rfl rfl hn fun a w ha hw=>by
    subst hm
    subst hmin
    obtain ⟨w',g1,g2,g3⟩:=copy_runO (ty:=ty) (t2:=t2) (dcap:=dcap) (cap:=cap) X.tb ht hk he hs hv (hh w hw) h1 (hw.get _ _ hu.mem) hc
    refine ⟨_,w',L',?_,hw.upd hu g3 g2,h⟩
    simp [execOp,resolve,ha.ev hx,ha.ev hy,invoke,builtin,g1]
/-- All of what is read is copied. -/
theorem R.copyAll {α:Type} {v:α→List Value} {xs:List α} {dn dcap o':Nat} {cs cs':List Value} {te:TypeId} (hn:Nat.blt dd X.n=true) (ht:X.tb.row t=some r) (hk:r.k = .slice e) (he:X.tb.row e=some re) (hs:re.size=1)
    (hx:ev σ x=some (.slice (some ⟨b,o,none⟩) dn dcap)) (hy:ev σ y=some (.slice p m cap)) (hm:m=xs.length) (hv:∀ a,(v a).length=1) (hh:∀ w,Hp X.w0 X.S L w→RdSl w p v xs) (h1:(fl v xs).all Value.oneCell'=true)
    (hdn:xs.length≤dn) (ho:o=o') (hu:Upd L b (.cells ⟨cs⟩ te (0,0)) (.cells ⟨cs'⟩ te (0,0)) L') (hc:setE cs o' (fl v xs)=some cs') (h:R X all rest K ((dd,.int .i64 (m:Nat))::σ) L') :
    R X all (⟨some dd,.call { callee:=.builtin .copy,args:=#[x,y],argTypes:=#[t,t2] },ty,pos,af,none⟩::rest) K σ L :=
  R.copyOff hn ht hk he hs hx hy hm hv hh h1 hu (by rw [List.take_of_length_le hdn,ho];exact hc) (Nat.min_eq_left (by omega)) h
theorem setE_off (pre vs cs:List Value) (h:vs.length≤cs.length):setE (pre++cs) pre.length vs=some (pre++(vs++cs.drop vs.length)):=by
  rw [setE_mid _ h,List.append_assoc]
/-- What bytealg.MakeNoZero does: a new row of some bytes. -/
def NoZero (P:Program) (f:FuncId) (e:TypeId):Prop:=∀ (n:Nat) (w:World),n≤1000000000→∃ cs:List Value,(callFunc f #[.int .i64 n]).run P w = .ok (.value (.slice (some ⟨w.heap.size,0,none⟩) n cs.length)) (w.drew.drew.alloc (.cells ⟨cs⟩ e))∧n≤cs.length
theorem NoZero.of {P:Program} {f:FuncId} {fn:Func} {ps:Array TypeId} {t e:TypeId} (hf:P.funcs[f]? = some fn) (hname:(fn.name == "runtime.NumGoroutine")=false) (hb:fn.body.isNone=true) (hn:Extern.findNext fn=none) (he:Extern.find fn=some (Extern.BytealgMakeNoZero.makeNoZero ps #[t])) (ht:P.underlying t=some (.slice e)):NoZero P f e:=by
  intro n w hn9
  obtain ⟨cs,h1,h2,_⟩:=Lib.run_makeNoZero (P:=P) w ps t e ht n (by omega)
  refine ⟨cs.toList,?_,by simpa using h2⟩
  rw [run_callFunc_extern hf hname hb hn he,h1]
  simp
theorem R.noZero {f:FuncId} {xs:List Operand} {ats:Array TypeId} (hz:NoZero X.P f e) (hx:evs σ xs=some [.int .i64 (n:Nat)]) (hl:n≤1000000000) (hn:Nat.blt dd X.n=true)
    (h:∀ b cs,n≤cs.length→R X all rest K ((dd,.slice (some ⟨b,0,none⟩) n cs.length)::σ) ((b,.cells ⟨cs⟩ e (0,0))::L)) :
    R X all (⟨some dd,.call { callee:=.value (.func f),args:=xs.toArray,argTypes:=ats },ty,pos,af,none⟩::rest) K σ L :=
  R.value rfl rfl hn fun a w ha hw=>by
    obtain ⟨cs,h1,h2⟩:=hz n w hl
    have hw2:Hp X.w0 X.S L w.drew.drew:=(hw.step (Chg.drew [] w)).step (Chg.drew [] w.drew)
    have hs:w.drew.drew.heap.size=w.heap.size:=rfl
    refine ⟨_,_,_,?_,hw2.alloc (.cells ⟨cs⟩ e (0,0)),h _ cs h2⟩
    have hargs:xs.map a.eval=[.int .i64 (n:Nat)]:=evs_map ha hx
    simp only [execOp,resolve,Act.eval,List.map_toArray,hargs,Deferred.ofValue,Sem.run_bind,Sem.run_pure,Result.andThen_ok,invoke,hs]
    simpa using h1
end
theorem nozero_ok:NoZero Tryz.prog 405 5:=NoZero.of (ps:=#[3]) (t:=22) Tryz.func405 (by kernel_rfl) (by kernel_rfl) (by kernel_rfl) (by kernel_rfl) (by have:=(tb.get (t:=22) rfl).is;exact this)
theorem setE_nilO (cs:List Value) (o:Nat):setE cs o []=some cs:=by simp [setE]
def nbI (a b:Int):List Int:=([]++numI 1 a)++numI 2 b
theorem wnbytes_ok (a b:Int) (hr:NR a b) (w:World):CallM Tryz.prog 279 [.agg ⟨[.int .i64 a,.int .i64 b]⟩] [] w fun v L=>∃ ov,OvOk 1 ov 6 (u8s (nbI a b))∧v = .tuple #[slV ov 6,.int .i64 0]∧L=blkL 5 ov (u8s (nbI a b)):=by
  have hck:=nonce_ok a b
  rw [if_pos hr] at hck
  have hf1:Fits 1 a:=by unfold NR at hr;unfold Fits;omega
  have hf2:Fits 2 b:=by unfold NR at hr;unfold Fits;omega
  refine enterK (tb:=tb) Tryz.func279 rfl Tryz.ntmps279 rfl ?_
  repeat' (first|(apply R.is1;first|(apply R.isBin;(apply R.pure;exact rfl;(apply Ok1.neq_f;exact rfl;exact rfl;omega)))|(apply R.isCall;apply R.callP rfl rfl rfl hck)|(apply R.pure;exact rfl;first|(apply Ok1.move;exact rfl)|(apply Ok1.load;exact rfl;(apply Ld.ownk;exact rfl;exact rfl;exact At.head;exact rfl))|(apply Ok1.assign;exact rfl))|(apply R.box;(iterate 3 exact rfl);intro)|(apply R.alloc;(iterate 3 exact rfl);intro))|apply R.nil|(apply T.is;first|apply T.seq|apply T.region|apply T.skip|(apply T.cond_f;exact rfl)))
  rename_i bc bw
  obtain ⟨B0,hB0⟩:∃ B:List Int,B=[]:=⟨_,rfl⟩
  obtain ⟨B1,hB1⟩:∃ B,B=B0++numI 1 a:=⟨_,rfl⟩
  obtain ⟨B2,hB2⟩:∃ B,B=B1++numI 2 b:=⟨_,rfl⟩
  have hl0:B0.length≤1000:=by rw [hB0];decide
  have hl1:B1.length≤1000:=by rw [hB1,hB0];exact Nat.le_of_ble_eq_true rfl
  have hB:B2=nbI a b:=by rw [hB2,hB1,hB0];rfl
  have hBl:B2.length=6:=by rw [hB];rfl
  have hw0:OvOk 1 none B0.length (u8s B0):=by rw [hB0];exact OvOk.start 1
  apply T.drawC (id:=5) [1] (by decide)
  (apply A.tk 0;exact rfl;kernel_rfl;(apply Ok1.fieldAddr;(iterate 5 exact rfl)))<;>(apply A.tk 1;exact rfl;kernel_rfl;(apply Ok1.load;exact rfl;(apply Ld.own1;exact rfl;exact rfl;exact At.head;exact rfl)))<;>(apply A.tk 4;exact rfl;kernel_rfl;(apply Ok1.fieldAddr;(iterate 5 exact rfl)))<;>(apply A.tk 5;exact rfl;kernel_rfl;(apply Ok1.load;exact rfl;(apply Ld.own1;exact rfl;exact rfl;exact At.head;exact rfl)))
  refine A.merge (fun σ L=>∃ (ov:Ov),OvOk 1 ov B2.length (u8s B2)∧Sub [(5,.pointer (some ⟨bw,0,none⟩)),(12,.int .i64 a),(16,.int .i64 b),(18,.pointer (some ⟨bw,0,none⟩))] σ∧Keep L (WL bw ov B2++[(bc,.cells ⟨[.int .i64 a,.int .i64 b]⟩ 46 (0,0))])) 5 #[true,true,true,true,true,true,true,true,false,false,false,false,false] ?_ ?_
  rotate_left 1
  focus
    intro H2_
    refine A.merge (fun σ L=>∃ (ov:Ov) (b1:Nat),OvOk 1 ov B1.length (u8s B1)∧Sub [(5,.pointer (some ⟨bw,0,none⟩)),(12,.int .i64 a),(16,.int .i64 b),(14,.pointer (some ⟨bw,0,none⟩)),(17,.slice (some ⟨b1,0,none⟩) 1 1)] σ∧Keep L (WL bw ov B1++[(bc,.cells ⟨[.int .i64 a,.int .i64 b]⟩ 46 (0,0)),(b1,.cells ⟨[.int .i64 b]⟩ 3 (0,0))])) 6 #[true,true,true,true,true,true,true,false,false,false,false,false,false] ?_ ?_
    · rintro σ L ⟨ov,b1,hov,hs,hk⟩
      refine A.weak ?_ hs hk
      refine A.multi [7] (by kernel_rfl) (by decide) ⟨⟨_,rfl,?_⟩,trivial⟩
      · (apply R.callE (Li:=WL bw ov B1);(iterate 3 exact rfl);(focus ((repeat' (exact Ext.here _ _));done));intro w1 hw1;have h9:=number1_ok bw ov B1 hov 2 b hf2 hl1 b1 _ _ w1 (hw1.get _ _ (At.mem (by (focus (repeat' first|exact At.head|apply At.tail|apply At.right);done)))) (RdSl.off hw1 (by (focus ((repeat' (exact Ext.here _ _));done))) (At.mem (by (focus (repeat' first|exact At.head|apply At.tail);done))));rw [← hB2] at h9;exact h9;rintro v Lo ⟨ov1,rfl,hov1,rfl⟩);apply R.nil;refine ⟨(by (focus (repeat' first|exact trivial|exact At.head|apply At.tail|apply At.right|refine ⟨?_,?_⟩))),A.cast (by kernel_rfl) (H2_ _ _ ⟨ov1,hov1,⟨rfl,rfl,rfl,rfl,trivial⟩,(by (focus (repeat' first|exact Keep.nil _|exact Ext.one _ _|exact Ext.here _ _|apply Keep.cons|apply Keep.app);done))⟩)⟩
    intro H1_1
    refine A.merge (fun σ L=>∃ (ov:Ov),OvOk 1 ov B1.length (u8s B1)∧Sub [(5,.pointer (some ⟨bw,0,none⟩)),(12,.int .i64 a),(16,.int .i64 b),(14,.pointer (some ⟨bw,0,none⟩))] σ∧Keep L (WL bw ov B1++[(bc,.cells ⟨[.int .i64 a,.int .i64 b]⟩ 46 (0,0))])) 7 #[true,true,true,true,true,true,false,false,false,false,false,false,false] ?_ ?_
    · rintro σ L ⟨ov,hov,hs,hk⟩
      refine A.weak ?_ hs hk
      refine A.multi [6] (by kernel_rfl) (by decide) ⟨⟨_,rfl,?_⟩,trivial⟩
      · (((apply R.buildSlice;(iterate 12 exact rfl);intro)));rename_i b1;apply R.nil;refine ⟨(by (focus (repeat' first|exact trivial|exact At.head|apply At.tail|apply At.right|refine ⟨?_,?_⟩))),A.cast (by kernel_rfl) (H1_1 _ _ ⟨ov,b1,hov,⟨rfl,rfl,rfl,rfl,rfl,trivial⟩,(by (focus (repeat' first|exact Keep.nil _|exact Ext.one _ _|exact Ext.here _ _|apply Keep.cons|apply Keep.app|apply Ext.cons);done))⟩)⟩
    intro H1_
    refine A.merge (fun σ L=>∃ (ov:Ov) (b0:Nat) (b1:Nat),OvOk 1 ov B0.length (u8s B0)∧Sub [(5,.pointer (some ⟨bw,0,none⟩)),(12,.int .i64 a),(16,.int .i64 b),(13,.slice (some ⟨b0,0,none⟩) 1 1),(17,.slice (some ⟨b1,0,none⟩) 1 1)] σ∧Keep L (WL bw ov B0++[(bc,.cells ⟨[.int .i64 a,.int .i64 b]⟩ 46 (0,0)),(b0,.cells ⟨[.int .i64 a]⟩ 3 (0,0)),(b1,.cells ⟨[.int .i64 b]⟩ 3 (0,0))])) 7 #[true,true,true,false,true,true,true,false,false,false,false,false,false] ?_ ?_
    · rintro σ L ⟨ov,b0,b1,hov,hs,hk⟩
      refine A.weak ?_ hs hk
      refine A.multi [3] (by kernel_rfl) (by decide) ⟨⟨_,rfl,?_⟩,trivial⟩
      · (apply R.callE (Li:=WL bw ov B0);(iterate 3 exact rfl);(focus ((repeat' (exact Ext.here _ _));done));intro w1 hw1;have h9:=number1_ok bw ov B0 hov 1 a hf1 hl0 b0 _ _ w1 (hw1.get _ _ (At.mem (by (focus (repeat' first|exact At.head|apply At.tail|apply At.right);done)))) (RdSl.off hw1 (by (focus ((repeat' (exact Ext.here _ _));done))) (At.mem (by (focus (repeat' first|exact At.head|apply At.tail);done))));rw [← hB1] at h9;exact h9;rintro v Lo ⟨ov1,rfl,hov1,rfl⟩);apply R.nil;refine ⟨(by (focus (repeat' first|exact trivial|exact At.head|apply At.tail|apply At.right|refine ⟨?_,?_⟩))),A.cast (by kernel_rfl) (H1_1 _ _ ⟨ov1,b1,hov1,⟨rfl,rfl,rfl,rfl,rfl,trivial⟩,(by (focus (repeat' first|exact Keep.nil _|exact Ext.one _ _|exact Ext.here _ _|apply Keep.cons|apply Keep.app|apply Ext.cons);done))⟩)⟩
    intro H0_01
    refine A.merge (fun σ L=>∃ (ov:Ov) (b0:Nat),OvOk 1 ov B0.length (u8s B0)∧Sub [(5,.pointer (some ⟨bw,0,none⟩)),(12,.int .i64 a),(16,.int .i64 b),(13,.slice (some ⟨b0,0,none⟩) 1 1)] σ∧Keep L (WL bw ov B0++[(bc,.cells ⟨[.int .i64 a,.int .i64 b]⟩ 46 (0,0)),(b0,.cells ⟨[.int .i64 a]⟩ 3 (0,0))])) 8 #[true,true,true,false,true,true,false,false,false,false,false,false,false] ?_ ?_
    · rintro σ L ⟨ov,b0,hov,hs,hk⟩
      refine A.weak ?_ hs hk
      refine A.multi [3,6] (by kernel_rfl) (by decide) ⟨⟨_,rfl,?_⟩,⟨_,rfl,?_⟩,trivial⟩
      · (apply R.callE (Li:=WL bw ov B0);(iterate 3 exact rfl);(focus ((repeat' (exact Ext.here _ _));done));intro w1 hw1;have h9:=number1_ok bw ov B0 hov 1 a hf1 hl0 b0 _ _ w1 (hw1.get _ _ (At.mem (by (focus (repeat' first|exact At.head|apply At.tail|apply At.right);done)))) (RdSl.off hw1 (by (focus ((repeat' (exact Ext.here _ _));done))) (At.mem (by (focus (repeat' first|exact At.head|apply At.tail);done))));rw [← hB1] at h9;exact h9;rintro v Lo ⟨ov1,rfl,hov1,rfl⟩);apply R.nil;refine ⟨(by (focus (repeat' first|exact trivial|exact At.head|apply At.tail|apply At.right|refine ⟨?_,?_⟩))),A.cast (by kernel_rfl) (H1_ _ _ ⟨ov1,hov1,⟨rfl,rfl,rfl,rfl,trivial⟩,(by (focus (repeat' first|exact Keep.nil _|exact Ext.one _ _|exact Ext.here _ _|apply Keep.cons|apply Keep.app);done))⟩)⟩
      · (((apply R.buildSlice;(iterate 12 exact rfl);intro)));rename_i b1;apply R.nil;refine ⟨(by (focus (repeat' first|exact trivial|exact At.head|apply At.tail|apply At.right|refine ⟨?_,?_⟩))),A.cast (by kernel_rfl) (H0_01 _ _ ⟨ov,b0,b1,hov,⟨rfl,rfl,rfl,rfl,rfl,trivial⟩,(by (focus (repeat' first|exact Keep.nil _|exact Ext.one _ _|exact Ext.here _ _|apply Keep.cons|apply Keep.app|apply Ext.cons);done))⟩)⟩
    intro H0_0
    refine A.merge (fun σ L=>∃ (ov:Ov) (b1:Nat),OvOk 1 ov B0.length (u8s B0)∧Sub [(5,.pointer (some ⟨bw,0,none⟩)),(12,.int .i64 a),(16,.int .i64 b),(17,.slice (some ⟨b1,0,none⟩) 1 1)] σ∧Keep L (WL bw ov B0++[(bc,.cells ⟨[.int .i64 a,.int .i64 b]⟩ 46 (0,0)),(b1,.cells ⟨[.int .i64 b]⟩ 3 (0,0))])) 8 #[true,true,false,false,true,true,true,false,false,false,false,false,false] ?_ ?_
    · rintro σ L ⟨ov,b1,hov,hs,hk⟩
      refine A.weak ?_ hs hk
      refine A.multi [2] (by kernel_rfl) (by decide) ⟨⟨_,rfl,?_⟩,trivial⟩
      · (((apply R.buildSlice;(iterate 12 exact rfl);intro)));rename_i b0;apply R.nil;refine ⟨(by (focus (repeat' first|exact trivial|exact At.head|apply At.tail|apply At.right|refine ⟨?_,?_⟩))),A.cast (by kernel_rfl) (H0_01 _ _ ⟨ov,b0,b1,hov,⟨rfl,rfl,rfl,rfl,rfl,trivial⟩,(by (focus (repeat' first|exact Keep.nil _|exact Ext.one _ _|exact Ext.here _ _|apply Keep.cons|apply Keep.app|apply Ext.cons);done))⟩)⟩
    intro H0_1
    refine A.merge (fun σ L=>∃ (ov:Ov),OvOk 1 ov B0.length (u8s B0)∧Sub [(5,.pointer (some ⟨bw,0,none⟩)),(12,.int .i64 a),(16,.int .i64 b)] σ∧Keep L (WL bw ov B0++[(bc,.cells ⟨[.int .i64 a,.int .i64 b]⟩ 46 (0,0))])) 9 #[true,true,false,false,true,true,false,false,false,false,false,false,false] ?_ ?_
    · rintro σ L ⟨ov,hov,hs,hk⟩
      refine A.weak ?_ hs hk
      refine A.multi [2,6] (by kernel_rfl) (by decide) ⟨⟨_,rfl,?_⟩,⟨_,rfl,?_⟩,trivial⟩
      · (((apply R.buildSlice;(iterate 12 exact rfl);intro)));rename_i b0;apply R.nil;refine ⟨(by (focus (repeat' first|exact trivial|exact At.head|apply At.tail|apply At.right|refine ⟨?_,?_⟩))),A.cast (by kernel_rfl) (H0_0 _ _ ⟨ov,b0,hov,⟨rfl,rfl,rfl,rfl,trivial⟩,(by (focus (repeat' first|exact Keep.nil _|exact Ext.one _ _|exact Ext.here _ _|apply Keep.cons|apply Keep.app|apply Ext.cons);done))⟩)⟩
      · (((apply R.buildSlice;(iterate 12 exact rfl);intro)));rename_i b1;apply R.nil;refine ⟨(by (focus (repeat' first|exact trivial|exact At.head|apply At.tail|apply At.right|refine ⟨?_,?_⟩))),A.cast (by kernel_rfl) (H0_1 _ _ ⟨ov,b1,hov,⟨rfl,rfl,rfl,rfl,trivial⟩,(by (focus (repeat' first|exact Keep.nil _|exact Ext.one _ _|exact Ext.here _ _|apply Keep.cons|apply Keep.app|apply Ext.cons);done))⟩)⟩
    intro H0_
    exact A.cast (by kernel_rfl) (H0_ _ _ ⟨none,hw0,⟨rfl,rfl,rfl,trivial⟩,(by (focus (repeat' first|exact Keep.nil _|exact Ext.one _ _|apply Keep.cons);done))⟩)
  rintro σ L ⟨ov,hov,hs,hk⟩
  refine A.weak ?_ hs hk
  clear hs hk
  (apply A.one 8;kernel_rfl;exact rfl;(((simp only [WL,List.cons_append];apply R.callE;(iterate 3 exact rfl);exact Ext.none _;intro w1 hw1;exact wout_ok bw ov B2 hov (by rw [hBl];decide) w1 (hw1.get _ _ (At.mem (by exact At.head))) (rdown hov hw1 (Ext.mem (by (focus (repeat' first|exact Ext.here _ _|apply Ext.cons);done))));rintro v Lo ⟨ov9,hov9,rfl,rfl⟩)));apply R.nil;refine ⟨?_,?_⟩;(focus (repeat' first|exact trivial|exact At.head|apply At.tail|apply At.right|refine ⟨?_,?_⟩)))<;>(apply A.tk 9;exact rfl;kernel_rfl;(apply Ok1.extract;exact rfl;exact rfl))<;>(apply A.tk 10;exact rfl;kernel_rfl;(apply Ok1.extract;exact rfl;exact rfl))<;>(apply A.tk 11;exact rfl;kernel_rfl;(apply Ok1.assign;exact rfl))<;>(apply A.tk 12;exact rfl;kernel_rfl;(apply Ok1.assign;exact rfl))<;>(apply A.done;kernel_rfl)
  rw [hBl] at hov9
  repeat' ((apply T.is;apply T.ret))
  (apply RetOk.tt;exact rfl;exact rfl)
  refine ⟨_,?_,ov9,hB ▸ hov9,by rw [hBl],rfl⟩
  rw [← hB]
  (focus (repeat' first|exact Ext.here _ _|apply Keep.last);done)
def sSend:ByteArray:=⟨#[115,101,110,100,101,114]⟩
def sSeed:ByteArray:=⟨#[115,101,101,100]⟩
def twoB (n:Int):List Int:=[n / 256 % 256,n % 256]
def lastI (sz:Nat) (n:Int):List Int:=(twoB n).drop (2 - sz)
def senderI (k:List Int) (v:Int):List Int:=deriveI k sSend [lastI 2 v]
def seedI (k:List Int) (v:Int):List Int:=deriveI k sSeed [lastI 1 v]
theorem two_byt (n:Int):Byt (twoB n):=by
  intro x hx
  simp only [twoB,List.mem_cons,List.not_mem_nil,or_false] at hx
  omega
theorem last_byt (sz:Nat) (n:Int):Byt (lastI sz n):=Byt.drop (two_byt n) _
theorem derived_off (bk:Nat) (lab:ByteArray) (n a b s:Int) (h:n < a ∨ n > b):CallP Tryz.prog 339 [.pointer (some ⟨bk,0,none⟩),.string lab,.int .i64 n,.int .i64 a,.int .i64 b,.int .i64 s] (.tuple #[.pointer none,.int .i64 10]):=by
  refine enterP (tb:=tb) Tryz.func339 rfl Tryz.ntmps339 rfl fun w0=>?_
  rcases h with h|h
  · repeat' (first|(apply R.is1;first|(apply R.isBin;(apply R.pure;exact rfl;first|(apply Ok1.lss_t;exact rfl;exact rfl;omega)|(apply Ok1.eqlP;(iterate 5 exact rfl))))|(apply R.pure;exact rfl;first|(apply Ok1.move;exact rfl)|(apply Ok1.assign;exact rfl)|(apply Ok1.pick_t;exact rfl;exact rfl)))|(apply R.isG;(apply R.guard_not;(iterate 3 exact rfl)))|apply R.nil|(apply T.is;first|apply T.seq|apply T.region|apply T.block|apply T.ret|(apply T.cond_t;exact rfl)|(apply T.cond_f;exact rfl)))
    all_goals (apply RetOk.tt;exact rfl;exact rfl)
    all_goals rfl
  · by_cases h2:n < a
    · repeat' (first|(apply R.is1;first|(apply R.isBin;(apply R.pure;exact rfl;first|(apply Ok1.lss_t;exact rfl;exact rfl;omega)|(apply Ok1.eqlP;(iterate 5 exact rfl))))|(apply R.pure;exact rfl;first|(apply Ok1.move;exact rfl)|(apply Ok1.assign;exact rfl)|(apply Ok1.pick_t;exact rfl;exact rfl)))|(apply R.isG;(apply R.guard_not;(iterate 3 exact rfl)))|apply R.nil|(apply T.is;first|apply T.seq|apply T.region|apply T.block|apply T.ret|(apply T.cond_t;exact rfl)|(apply T.cond_f;exact rfl)))
      all_goals (apply RetOk.tt;exact rfl;exact rfl)
      all_goals rfl
    · repeat' (first|(apply R.is1;first|(apply R.isBin;(apply R.pure;exact rfl;first|(apply Ok1.lss_f;exact rfl;exact rfl;omega)|(apply Ok1.gtr_t;exact rfl;exact rfl;omega)|(apply Ok1.eqlP;(iterate 5 exact rfl))))|(apply R.pure;exact rfl;first|(apply Ok1.move;exact rfl)|(apply Ok1.assign;exact rfl)|(apply Ok1.pick_f;exact rfl;exact rfl)))|(apply R.isG;(apply R.guard_run;exact rfl;exact rfl))|apply R.nil|(apply T.is;first|apply T.seq|apply T.region|apply T.block|apply T.ret|(apply T.cond_t;exact rfl)|(apply T.cond_f;exact rfl)))
      all_goals (apply RetOk.tt;exact rfl;exact rfl)
      all_goals rfl
theorem derived_ok (bk:Nat) (k:List Int) (hkl:k.length≤999999000) (hkb:Byt k) (lab:ByteArray) (hlab:lab.size≤1000) (n a b:Int) (s:Nat) (h1:a≤n) (h2:n≤b) (hs:s≤2) (w:World) (hk:KeyR w bk k) :
    CallM Tryz.prog 339 [.pointer (some ⟨bk,0,none⟩),.string lab,.int .i64 n,.int .i64 a,.int .i64 b,.int .i64 s] [] w fun v L=>∃ bk' ov,v = .tuple #[.pointer (some ⟨bk',0,none⟩),.int .i64 0]∧OvOk 1 ov 32 (u8s (deriveI k lab [lastI s n]))∧L=KL bk' ov (deriveI k lab [lastI s n]):=by
  have hll:(lastI s n).length=s:=by simp [lastI,twoB];omega
  have hfl:(frameI [strI lab,lastI s n]).length≤999998000:=by
    have h3:(strI lab).length=lab.size:=by simp [strI]
    simp only [frameI,List.flatMap_cons,List.flatMap_nil,List.append_nil,List.length_append,hll,h3]
    simp only [len4,List.length_cons,List.length_nil]
    omega
  refine enterK (tb:=tb) Tryz.func339 rfl Tryz.ntmps339 rfl ?_
  have hsub:(2:Int) - (s:Int)=((2 - s:Nat):Int):=by omega
  have hsuf:=fun p (w1:World) (h:RdSl w1 p u8V (twoB n))=>RdSl.suf u8V_len h (cap:=2) (i:=2 - s) (by simp [twoB]) (by simp [twoB])
  have hl0:(twoB n).length=2:=rfl
  have hcells:u8s (twoB n)=[.int .u8 (IntKind.u8.wrap (n / 256)),.int .u8 (IntKind.u8.wrap n)]:=by simp only [u8_mod];rfl
  have hss:2 - (2 - s)=s:=by omega
  repeat' (first|(apply R.is1;first|(apply R.isBin;(apply R.pure;exact rfl;first|(apply Ok1.sub64;exact rfl;exact rfl;omega;omega)|(apply Ok1.lss_f;exact rfl;exact rfl;omega)|(apply Ok1.gtr_f;exact rfl;exact rfl;omega)|(apply Ok1.shr;exact rfl;exact rfl;omega;exact Nat.le_of_ble_eq_true rfl;(exact pwE8))|(apply Ok1.eqlP;(iterate 5 exact rfl))))|(apply R.isCall;(apply R.callE;(iterate 3 exact rfl);exact Ext.none _;intro w1 hw1;exact derive_ok bk k hkl hkb lab (by omega) _ 1 1 [⟨_,2 - (2 - s),lastI s n⟩] rfl (by decide) (by intro x hx;cases List.mem_singleton.1 hx;exact last_byt _ _) hfl (by intro x hx;cases List.mem_singleton.1 hx;rw [hll];omega) w1 (hk.chg hw1.chg) (RdSl.of (junk:=[]) hw1 (by exact At.head) (by simp only [fl,Pt.v,List.map_cons,List.map_nil,List.flatten_cons,List.flatten_nil,List.append_nil];rw [hll,hss])) (by intro x hx;cases List.mem_singleton.1 hx;exact hsuf _ _ (RdSl.of (junk:=[]) hw1 (by (focus (repeat' first|exact At.head|apply At.tail);done)) (by rw [fl_u8,hcells];rfl)));rw [List.map_cons,List.map_nil];rintro v Lo ⟨bk2,ov2,rfl,hov2,rfl⟩))|(apply R.pure;exact rfl;first|(apply Ok1.sufR (i:=2 - s) (sz:=1);(iterate 5 exact rfl);exact congrArg (fun z=>some (Value.int .i64 z)) hsub;omega;omega)|(apply Ok1.move;exact rfl)|(apply Ok1.assign;exact rfl)|(apply Ok1.pick_f;exact rfl;exact rfl)|(apply Ok1.conv;(iterate 5 exact rfl)))|(apply R.buildSlice;(iterate 12 exact rfl);intro))|(apply R.isG;(apply R.guard_run;exact rfl;exact rfl))|apply R.nil|(apply T.is;first|apply T.seq|apply T.region|apply T.block|apply T.skip|apply T.ret|(apply T.cond_f;exact rfl)))
  all_goals (apply RetOk.tt;exact rfl;exact rfl)
  all_goals refine ⟨_,?_,bk2,ov2,rfl,hov2,rfl⟩
  all_goals (focus (repeat' first|exact Ext.one _ _|exact Ext.here _ _|apply Keep.cons|apply Keep.last);done)
theorem sender_off (bk:Nat) (n:Int) (h:n < 1 ∨ n > 65535):CallP Tryz.prog 357 [.pointer (some ⟨bk,0,none⟩),.int .i64 n] (.tuple #[.pointer none,.int .i64 10]):=by
  have hd:=derived_off bk sSend n 1 65535 2 h
  refine enterP (tb:=tb) Tryz.func357 rfl Tryz.ntmps357 rfl fun w0=>?_
  repeat' (first|(apply R.is1;first|(apply R.isCall;apply R.callP rfl rfl rfl hd)|(apply R.pure;exact rfl;first|(apply Ok1.move;exact rfl)|(apply Ok1.assign;exact rfl)|(apply Ok1.extract;exact rfl;exact rfl)))|apply R.nil|(apply T.is;first|apply T.seq|apply T.region|apply T.ret))
  all_goals (apply RetOk.tt;exact rfl;exact rfl)
  all_goals rfl
theorem sender_ok (bk:Nat) (k:List Int) (hkl:k.length≤999999000) (hkb:Byt k) (n:Int) (h1:1≤n) (h2:n≤65535) (w:World) (hk:KeyR w bk k) :
    CallM Tryz.prog 357 [.pointer (some ⟨bk,0,none⟩),.int .i64 n] [] w fun v L=>∃ bk' ov,v = .tuple #[.pointer (some ⟨bk',0,none⟩),.int .i64 0]∧OvOk 1 ov 32 (u8s (senderI k n))∧L=KL bk' ov (senderI k n):=by
  refine enterK (tb:=tb) Tryz.func357 rfl Tryz.ntmps357 rfl ?_
  repeat' (first|(apply R.is1;first|(apply R.isCall;(apply R.callE;(iterate 3 exact rfl);exact Ext.none _;intro w1 hw1;exact derived_ok bk k hkl hkb sSend (by decide) n 1 65535 2 h1 h2 (by decide) w1 (hk.chg hw1.chg);rintro v Lo ⟨bk2,ov2,rfl,hov2,rfl⟩))|(apply R.pure;exact rfl;first|(apply Ok1.move;exact rfl)|(apply Ok1.assign;exact rfl)|(apply Ok1.extract;exact rfl;exact rfl)))|apply R.nil|(apply T.is;first|apply T.seq|apply T.region|apply T.ret))
  all_goals (apply RetOk.tt;exact rfl;exact rfl)
  all_goals refine ⟨_,?_,bk2,ov2,rfl,hov2,rfl⟩
  all_goals (focus (repeat' first|exact Ext.one _ _|exact Ext.here _ _|apply Keep.cons|apply Keep.last);done)
theorem seed_off (bk:Nat) (n:Int) (h:n < 0 ∨ n > 3):CallP Tryz.prog 277 [.pointer (some ⟨bk,0,none⟩),.int .i64 n] (.tuple #[.pointer none,.int .i64 10]):=by
  have hd:=derived_off bk sSeed n 0 3 1 h
  refine enterP (tb:=tb) Tryz.func277 rfl Tryz.ntmps277 rfl fun w0=>?_
  repeat' (first|(apply R.is1;first|(apply R.isCall;apply R.callP rfl rfl rfl hd)|(apply R.pure;exact rfl;first|(apply Ok1.move;exact rfl)|(apply Ok1.assign;exact rfl)|(apply Ok1.extract;exact rfl;exact rfl)))|apply R.nil|(apply T.is;first|apply T.seq|apply T.region|apply T.ret))
  all_goals (apply RetOk.tt;exact rfl;exact rfl)
  all_goals rfl
theorem seed_ok (bk:Nat) (k:List Int) (hkl:k.length≤999999000) (hkb:Byt k) (n:Int) (h1:0≤n) (h2:n≤3) (w:World) (hk:KeyR w bk k) :
    CallM Tryz.prog 277 [.pointer (some ⟨bk,0,none⟩),.int .i64 n] [] w fun v L=>∃ bk' ov,v = .tuple #[.pointer (some ⟨bk',0,none⟩),.int .i64 0]∧OvOk 1 ov 32 (u8s (seedI k n))∧L=KL bk' ov (seedI k n):=by
  refine enterK (tb:=tb) Tryz.func277 rfl Tryz.ntmps277 rfl ?_
  repeat' (first|(apply R.is1;first|(apply R.isCall;(apply R.callE;(iterate 3 exact rfl);exact Ext.none _;intro w1 hw1;exact derived_ok bk k hkl hkb sSeed (by decide) n 0 3 1 h1 h2 (by decide) w1 (hk.chg hw1.chg);rintro v Lo ⟨bk2,ov2,rfl,hov2,rfl⟩))|(apply R.pure;exact rfl;first|(apply Ok1.move;exact rfl)|(apply Ok1.assign;exact rfl)|(apply Ok1.extract;exact rfl;exact rfl)))|apply R.nil|(apply T.is;first|apply T.seq|apply T.region|apply T.ret))
  all_goals (apply RetOk.tt;exact rfl;exact rfl)
  all_goals refine ⟨_,?_,bk2,ov2,rfl,hov2,rfl⟩
  all_goals (focus (repeat' first|exact Ext.one _ _|exact Ext.here _ _|apply Keep.cons|apply Keep.last);done)
def ringC (c:Cl) (s:List Int) (m1 m2:Nat):List Value:=tkC c s++[.map (some m1),.map (some m2)]
theorem fill_ring (a b e:Nat) (c:Cl) (s:List Int) (hs:s.length=32) (m1 m2:Nat):fillE (fldPl [(a,0,36),(b,36,1),(e,37,1)]) (tkC ⟨0,0,0,0⟩ (zI 32)++[.map none,.map none]) [(0,.agg ⟨tkC c s⟩),(1,.map (some m1)),(2,.map (some m2))]=some (ringC c s m1 m2):=by
  obtain ⟨x0,x1,x2,x3,x4,x5,x6,x7,x8,x9,x10,x11,x12,x13,x14,x15,x16,x17,x18,x19,x20,x21,x22,x23,x24,x25,x26,x27,x28,x29,x30,x31,rfl⟩:=list32 s hs
  rfl
def vvK (b:Nat):Value:=.pointer (some ⟨b,0,none⟩)
def kvR (n:Int):Value:=.int .i64 n
theorem tk_len {c:Cl} {s:List Int} (hs:s.length=32):(tkC c s).length=36:=by simp [tkC,clC,u8s_len,hs]
theorem tk_one (c:Cl) (s:List Int):(tkC c s).all Value.oneCell'=true:=by simp only [tkC,List.all_append,u8s_one,Bool.and_true];rfl
theorem tk_cl (c:Cl) (s:List Int):subE (tkC c s) 0 4=some (clC c):=subE_app (clC c) (u8s s) rfl
def RL0 (br m1 m2:Nat) (c:Cl) (s:List Int):Lst:=[(br,.cells ⟨ringC c s m1 m2⟩ 177 (0,0)),(m2,mobj kvR vvK [] 0),(m1,mobj kvC vvK [] 0)]
theorem ring_new (c:Cl) (hr:c.right) (s:List Int) (hs:s.length=32) (w:World):CallM Tryz.prog 162 [.agg ⟨tkC c s⟩] [] w fun v L=>∃ br m1 m2,v = .tuple #[.pointer (some ⟨br,0,none⟩),.int .i64 0]∧L=RL0 br m1 m2 c s:=by
  have hck:=check_ok c.id c.roles c.exp c.ser
  rw [if_pos hr] at hck
  have htl:=tk_len (c:=c) hs
  have hfill:=fun a b e m1 m2=>fill_ring a b e c s hs m1 m2
  refine enterK (tb:=tb) Tryz.func162 rfl Tryz.ntmps162 rfl ?_
  repeat' (first|(apply R.is1;first|(apply R.makeMap kvC vvK;exact rfl;intro m2)|(apply R.isBin;(apply R.pure;exact rfl;(apply Ok1.neq_f;exact rfl;exact rfl;omega)))|(apply R.isCall;apply R.callP rfl rfl rfl hck)|(apply R.pure;exact rfl;first|(apply Ok1.load;exact rfl;first|(apply Ld.ownk;exact rfl;exact rfl;exact At.head;exact subE_all htl)|(apply Ld.ownk;exact rfl;exact rfl;exact At.head;exact tk_cl c s))|(apply Ok1.build;(iterate 4 exact rfl);exact hfill _ _ _ _ _)|(apply Ok1.move;exact rfl)|(apply Ok1.fieldAddr;(iterate 5 exact rfl))|(apply Ok1.assign;exact rfl))|(apply R.box;(iterate 3 exact rfl);intro))|apply R.nil|(apply T.is;first|apply T.seq|apply T.region|apply T.skip|apply T.ret|(apply T.cond_f;exact rfl)))
  rename_i m1 br
  (apply RetOk.tt;exact rfl;exact rfl)
  refine ⟨_,?_,br,m1,m2,rfl,rfl⟩
  show Keep ((br,_)::(m2,mobj kvR vvK [] 0)::_) _
  unfold RL0
  (focus (repeat' first|exact Keep.nil _|exact Ext.one _ _|apply Keep.cons);done)
theorem ring_bad (c:Cl) (hr:¬ c.right) (s:List Int) (hs:s.length=32):CallP Tryz.prog 162 [.agg ⟨tkC c s⟩] (.tuple #[.pointer none,.int .i64 10]):=by
  have hck:=check_ok c.id c.roles c.exp c.ser
  rw [if_neg hr] at hck
  refine enterP (tb:=tb) Tryz.func162 rfl Tryz.ntmps162 rfl fun w0=>?_
  repeat' (first|(apply R.is1;first|(apply R.isBin;(apply R.pure;exact rfl;(apply Ok1.neq_t;exact rfl;exact rfl;omega)))|(apply R.isCall;apply R.callP rfl rfl rfl hck)|(apply R.pure;exact rfl;first|(apply Ok1.load;exact rfl;(apply Ld.ownk;exact rfl;exact rfl;exact At.head;exact tk_cl c s))|(apply Ok1.move;exact rfl)|(apply Ok1.fieldAddr;(iterate 5 exact rfl))|(apply Ok1.assign;exact rfl))|(apply R.box;(iterate 3 exact rfl);intro))|apply R.nil|(apply T.is;first|apply T.seq|apply T.region|apply T.ret|(apply T.cond_t;exact rfl)))
  all_goals (apply RetOk.tt;exact rfl;exact rfl)
  all_goals rfl
theorem ring_tk (c:Cl) {s:List Int} (hs:s.length=32) (m1 m2:Nat):subE (ringC c s m1 m2) 0 36=some (tkC c s):=subE_app _ _ (tk_len hs)
theorem to_ok (br:Nat) (c:Cl) (s:List Int) (hs:s.length=32) (hsb:Byt s) (m1 m2:Nat) (e:TypeId) (n:Int) (h1:1≤n) (h2:n≤65535) (w:World) (hb:w.heap[br]? = some (.cells ⟨ringC c s m1 m2⟩ e (0,0))) :
    CallM Tryz.prog 296 [.pointer (some ⟨br,0,none⟩),.int .i64 n] [] w fun v L=>∃ bk' ov,v = .tuple #[.pointer (some ⟨bk',0,none⟩),.int .i64 0]∧OvOk 1 ov 32 (u8s (senderI s n))∧L=KL bk' ov (senderI s n):=by
  refine enterK (tb:=tb) Tryz.func296 rfl Tryz.ntmps296 rfl ?_
  repeat' (first|(apply R.is1;first|(apply R.isBin;(apply R.pure;exact rfl;(apply Ok1.eqlP;(iterate 5 exact rfl))))|(apply R.isCall;first|(apply R.callE (vs:=[.agg ⟨tkC c s⟩]);(iterate 3 exact rfl);exact Ext.none _;intro w1 hw1;exact key_ok c s hs w1;rintro v Lo ⟨bk2,ov2,rfl,hov2,rfl⟩)|(apply R.callE (vs:=[.pointer (some ⟨bk2,0,none⟩),.int .i64 n]);(iterate 3 exact rfl);exact Ext.none _;intro w1 hw1;exact sender_ok bk2 s (by rw [hs];decide) hsb n h1 h2 w1 (KeyR.of (by rw [hs];exact hov2) hw1 (Ext.mem (by (focus ((repeat' (exact Ext.here _ _));done)))));rintro v Lo ⟨bk3,ov3,rfl,hov3,rfl⟩))|(apply R.pure;exact rfl;first|(apply Ok1.load;exact rfl;apply Ld.blkk;exact rfl;exact rfl;exact hb;exact List.not_mem_nil;exact ring_tk c hs m1 m2)|(apply Ok1.move;exact rfl)|(apply Ok1.fieldAddr;(iterate 5 exact rfl))|(apply Ok1.assign;exact rfl)|(apply Ok1.extract;exact rfl;exact rfl)|(apply Ok1.nilCheck;exact rfl)))|apply R.nil|(apply T.is;first|apply T.seq|apply T.region|apply T.skip|apply T.ret|(apply T.cond_f;exact rfl)))
  all_goals (apply RetOk.tt;exact rfl;exact rfl)
  all_goals refine ⟨_,?_,bk3,ov3,rfl,hov3,rfl⟩
  all_goals (focus (repeat' first|exact Ext.one _ _|exact Ext.here _ _|apply Keep.cons|apply Keep.last);done)
theorem clvinjK {a b:Cl}:([.int .i64 a.id,.int .i64 a.roles,.int .i64 a.exp,.int .i64 a.ser]:List Value)=[.int .i64 b.id,.int .i64 b.roles,.int .i64 b.exp,.int .i64 b.ser] ↔ a=b:=by
  simp only [List.cons.injEq,Value.int.injEq,true_and,and_true]
  constructor
  · rintro ⟨h1,h2,h3,h4⟩
    cases a;cases b;simp_all
  · rintro h;simp [h]
theorem ktK:KeyT Tryz.prog 31 kvC:=KeyT.flat tb (fun c:Cl=>[.int .i64 c.id,.int .i64 c.roles,.int .i64 c.exp,.int .i64 c.ser]) rfl rfl rfl (fun _=>rfl) fun _ _ h=>clvinjK.1 h
structure En where
  boot:Int
  ctr:Int
  bits:Int
  key:Option Addr
  asked:Int
def En.v (e:En):List Value:=[.int .i64 e.boot,.int .i64 e.ctr,.int .u64 e.bits,.pointer e.key,.int .i64 e.asked]
structure BE where
  c:Cl
  blk:Nat
  born:Nat
  e:En
abbrev BS:=List BE
def vvP (a:Nat):Value:=.pointer (some ⟨a,0,none⟩)
def bms (es:BS):Ms Cl Nat:=es.map fun x=>(x.c,x.blk,x.born)
def bls (es:BS):Lst:=es.map fun x=>(x.blk,.cells ⟨x.e.v⟩ 196 (0,0))
def BL (b bm:Nat) (es:BS) (clk:Nat):Lst:=(b,.cells ⟨[.map (some bm)]⟩ 200 (0,0))::(bm,mobj kvC vvP (bms es) clk)::bls es
theorem New_ok (w:World):CallM Tryz.prog 165 [] [] w fun v L=>∃ b bm,v = .pointer (some ⟨b,0,none⟩)∧L=BL b bm [] 0:=by
  refine enterK (tb:=tb) Tryz.func165 rfl Tryz.ntmps165 rfl ?_
  repeat' (first|(apply R.is1;first|(apply R.makeMap kvC vvP;exact rfl;intro bm)|(apply R.pure;exact rfl;first|(apply Ok1.assign;exact rfl)|(apply Ok1.build;(iterate 5 exact rfl)))|(apply R.box;(iterate 3 exact rfl);intro))|apply R.nil|(apply T.is;first|apply T.seq|apply T.region|apply T.ret))
  (apply RetOk.t;exact rfl)
  exact ⟨_,by (focus (repeat' first|exact Keep.nil _|exact Ext.one _ _|apply Keep.cons);done),_,bm,rfl,rfl⟩
theorem bms_len (es:BS):(bms es).length=es.length:=by simp [bms]
structure Ak where
  seed:Int
  tick:Int
  a:Int
  b:Int
  c:Int
  d:Int
  e:Int
  f:Int
  g:Int
  h:Int
def Ak.v (x:Ak):List Value:=[.int .i64 x.seed,.int .i64 x.tick,.int .u8 x.a,.int .u8 x.b,.int .u8 x.c,.int .u8 x.d,.int .u8 x.e,.int .u8 x.f,.int .u8 x.g,.int .u8 x.h]
def Ak.op (x:Ak) (tick:Int):Bool:=decide (x.tick > tick - 64)
section
variable {X:Cx} {σ:Env} {L L':Lst} {ty:TypeId} {pos:String} {af:Array Edge} {x y:Operand} {t t2 e te:TypeId} {r r2 re:TRow} {b o n m j cap:Nat} {cs cs':List Value} {all:Array Oper} {rest:List Oper} {K:Env→Lst→Prop} {dd:Nat}
theorem zc_gen {zero:Array Value} {zc:List Value} (hk:0 < zc.length) (hz:zero=⟨zc⟩):∀ n,(Builtin.zeroCells zero n).toList=(List.replicate n zc).flatten
  | 0=>by subst hz;simp [Builtin.zeroCells]
  | n + 1=>by
    have ih:=zc_gen hk hz n
    subst hz
    simp only [Builtin.zeroCells,Array.toList_map,Array.toList_range] at ih ⊢
    rw [List.replicate_succ',List.flatten_append,← ih,show (n+1) * (⟨zc⟩:Array Value).size=n * (⟨zc⟩:Array Value).size+(⟨zc⟩:Array Value).size by rw [Nat.add_mul,Nat.one_mul],List.range_add,List.map_append]
    congr 1
    simp only [List.map_map,List.flatten_cons,List.flatten_nil,List.append_nil]
    apply List.ext_getElem
    · simp
    · intro i h1 h2
      have hi:i < zc.length:=h2
      have hm:(n * zc.length+i) % zc.length=i:=by rw [Nat.add_comm,Nat.add_mul_mod_self_right,Nat.mod_eq_of_lt hi]
      simp [hm,hi]
theorem R.clearG {zc:List Value} (ht:X.tb.row t=some r) (hk:r.k = .slice e) (he:X.tb.row e=some re) (hz:cellsE re.zero=some zc) (hk0:0 < zc.length) (h10:zc.all Value.oneCell'=true) (hx:ev σ x=some (.slice (some ⟨b,o,none⟩) n cap)) (hn:0 < n)
    (hu:Upd L b (.cells ⟨cs⟩ te (0,0)) (.cells ⟨cs'⟩ te (0,0)) L') (hc:setE cs o (List.replicate n zc).flatten=some cs') (h:R X all rest K σ L') :
    R X all (⟨none,.call { callee:=.builtin .clear,args:=#[x],argTypes:=#[t] },ty,pos,af,none⟩::rest) K σ L :=
  R.value0 rfl rfl fun a w ha hw=>by
    have hall:((List.replicate n zc).flatten).all Value.oneCell'=true:=by
      rw [List.all_eq_true] at h10 ⊢
      intro v hv
      obtain ⟨l,hl,hvl⟩:=List.mem_flatten.1 hv
      rw [(List.mem_replicate.1 hl).2] at hvl
      exact h10 v hvl
    obtain ⟨w',h2,h3,h4⟩:=run_stores X.P ⟨b,o,none⟩ rfl te (List.replicate n zc).flatten 0 w cs cs' hall (hw.get _ _ hu.mem) hc
    have hcs:=cellsE_eq hz
    have hzc:=zc_gen hk0 hcs n
    have hu1:X.P.underlying t=some (.slice e):=by have:=(X.tb.get ht).is;rw [hk] at this;exact this
    refine ⟨.tuple #[],w',L',?_,hw.upd hu h4 h3,h⟩
    obtain ⟨n,rfl⟩:∃ m,n=m+1:=⟨n - 1,by omega⟩
    simp [execOp,resolve,ha.ev hx,invoke,builtin,Builtin.clear_,run_underlying hu1,(X.tb.get he).zero,hzc,h2]
theorem Ok1.sufB {d:Option Nat} {g:Option (Nat × Bool)} {lo:Operand} {i sz:Nat} (ht:X.tb.row t=some r) (hk:r.k = .slice e) (he:X.tb.row e=some re) (hsz:re.size=sz) (hx:ev σ x=some (.slice (some ⟨b,0,none⟩) n cap)) (hl:ev σ lo=some (.int .i64 i)) (h1:i≤n) (h2:n≤cap) (h3:i < cap) :
    Ok1 X ⟨d,.slice t x (some lo) none none,ty,pos,af,g⟩ σ L (.slice (some ⟨b,i * sz,none⟩) (n - i) (cap - i)):=.mk fun a w ha hw=>by
  subst hsz
  rw [slice_run (l:=(i:Int)) (h:=(n:Int)) (m:=(cap:Int)) X.tb ht hk he ha hx rfl rfl (by simp [bd,hl]) (by omega) (by omega) (by omega) (by omega) (.inl rfl)]
  simp only [Int.toNat_natCast,Option.map_some,Addr.add_none,Nat.zero_add,if_neg (show ¬ cap=i by omega)]
theorem Ok1.preB {d:Option Nat} {g:Option (Nat × Bool)} {hi:Operand} {i:Nat} (ht:X.tb.row t=some r) (hk:r.k = .slice e) (he:X.tb.row e=some re) (hx:ev σ x=some (.slice (some ⟨b,0,none⟩) n cap)) (hl:ev σ hi=some (.int .i64 i)) (h2:i≤cap) :
    Ok1 X ⟨d,.slice t x none (some hi) none,ty,pos,af,g⟩ σ L (.slice (some ⟨b,0,none⟩) i cap):=.mk fun a w ha hw=>by
  rw [slice_run (l:=0) (h:=(i:Int)) (m:=(cap:Int)) X.tb ht hk he ha hx rfl (by simp [bd,hl]) rfl (by omega) (by omega) (by omega) (by omega) (.inl rfl)]
  simp [Addr.add_none]
end
def FrC (bs:Nat) (ov:Ov) (n:Nat) (since:Int) (is:Bool):List Value:=[.pointer (some ⟨bs,0,none⟩),slV ov n,.int .i64 since,.bool is]
def FL (bf bs:Nat) (gs:List Lg) (ov:Ov) (al:List Ak) (since:Int) (is:Bool):Lst :=
  (bf,.cells ⟨FrC bs ov al.length since is⟩ 293 (0,0))::(blkL 337 ov (fl Ak.v al)++SetL bs gs)
structure FOk (gs:List Lg) (ov:Ov) (al:List Ak) (since:Int):Prop where
  g:GOk gs
  ov:OvOk 10 ov al.length (fl Ak.v al)
  le:al.length≤8
  tk:∀ a∈al,0≤a.tick∧a.tick≤1073741824
  si:0≤since∧since≤1073741824
theorem fset_ok (bf bs:Nat) (gs:List Lg) (hg:GOk gs) (ov:Ov) (n:Nat) (since:Int) (is:Bool) (w:World) (hb:w.heap[bf]? = some (.cells ⟨FrC bs ov n since is⟩ 293 (0,0))) (hs:SetR w bs gs) :
    CallM Tryz.prog 84 [.pointer (some ⟨bf,0,none⟩)] [] w fun v L=>∃ bc gs',v = .pointer (some ⟨bc,0,none⟩)∧lgs gs'=lgs gs∧GOk gs' ∧ L=SetL bc gs':=by
  have h:=fun w1 (hc:Chg [] w w1)=>copy_ok bs gs hg w1 (hs.chg hc)
  refine enterK (tb:=tb) Tryz.func84 rfl Tryz.ntmps84 rfl ?_
  repeat' (first|(apply R.is1;first|(apply R.isBin;(apply R.pure;exact rfl;(apply Ok1.eqlP;(iterate 5 exact rfl))))|(apply R.isCall;(apply R.callE (vs:=[.pointer (some ⟨bs,0,none⟩)]);(iterate 3 exact rfl);exact Ext.none _;intro w1 hw1;exact h w1 hw1.chg;rintro v Lo ⟨bc,gs',rfl,hl,hg',rfl⟩))|(apply R.pure;exact rfl;first|(apply Ok1.load;exact rfl;apply Ld.blk1;exact rfl;exact rfl;exact hb;exact List.not_mem_nil;exact rfl)|(apply Ok1.move;exact rfl)|(apply Ok1.fieldAddr;(iterate 5 exact rfl))|(apply Ok1.assign;exact rfl)|(apply Ok1.nilCheck;exact rfl)))|apply R.nil|(apply T.is;first|apply T.seq|apply T.region|apply T.skip|apply T.ret|(apply T.cond_f;exact rfl)))
  (apply RetOk.t;exact rfl)
  exact ⟨_,by (focus (repeat' first|exact Ext.one _ _|exact Ext.here _ _|apply Keep.cons|apply Keep.last);done),bc,gs',rfl,hl,hg',rfl⟩
theorem fnew_ok (w:World):CallM Tryz.prog 80 [.pointer none] [] w fun v L=>∃ bf bs gs,v = .pointer (some ⟨bf,0,none⟩)∧lgs gs=[[],[],[],[]]∧FOk gs none [] 0∧L=FL bf bs gs none [] 0 false:=by
  have hn:=fun w1=>rnew_ok w1
  have hc:=fun bs w1 hs=>copy_ok bs [lg0,lg0,lg0,lg0] GOk.new w1 hs
  refine enterK (tb:=tb) Tryz.func80 rfl Tryz.ntmps80 rfl ?_
  repeat' (first|(apply R.is1;first|(apply R.isBin;(apply R.pure;exact rfl;(apply Ok1.eqlP;(iterate 5 exact rfl))))|(apply R.isCall;first|(apply R.callE (vs:=[]);(iterate 3 exact rfl);exact Ext.none _;intro w1 hw1;exact hn w1;rintro v Lo ⟨bs,rfl,rfl⟩)|(apply R.callE (vs:=[.pointer (some ⟨bs,0,none⟩)]);(iterate 3 exact rfl);exact Ext.none _;intro w1 hw1;exact hc bs w1 (SetR.of GOk.new hw1 (Ext.mem (by (focus ((repeat' (exact Ext.one _ _));done)))));rintro v Lo ⟨bc,gs',rfl,hl,hg',rfl⟩))|(apply R.pure;exact rfl;first|(apply Ok1.move;exact rfl)|(apply Ok1.assign;exact rfl)|(apply Ok1.build;(iterate 5 exact rfl)))|(apply R.box;(iterate 3 exact rfl);intro))|apply R.nil|(apply T.is;first|apply T.seq|apply T.region|apply T.ret|(apply T.cond_t;exact rfl)))
  (apply RetOk.t;exact rfl)
  refine ⟨_,?_,_,bc,gs',rfl,hl,⟨hg',⟨rfl,rfl⟩,by decide,by simp,by decide⟩,rfl⟩
  simp only [FL,blkL,List.nil_append]
  (focus (repeat' first|exact Ext.one _ _|exact Ext.here _ _|apply Keep.cons|apply Keep.last);done)
def evC (c:Cl):List Value:=[.int .i64 c.id,.int .i64 c.roles,.int .i64 c.exp,.int .i64 c.ser,.bool false,.int .i64 0,.int .i64 0,.int .i64 0]
def evE (c:Cl):Value:=.agg ⟨[.int .i64 c.id,.int .i64 c.roles,.int .i64 c.exp,.int .i64 c.ser,.bool false,.int .i64 0,.int .i64 0,.int .i64 0]⟩
def kvI (z:Int):Value:=.int .i64 z
theorem ktI:KeyT Tryz.prog 3 kvI:=KeyT.intK tb rfl rfl
abbrev VMs:=Ms Int Cl
def VL (bv bm:Nat) (own:Cl) (ms:VMs) (clk:Nat):Lst:=[(bv,.cells ⟨[.int .i64 own.id,.int .i64 own.roles,.int .i64 own.exp,.int .i64 own.ser,.map (some bm)]⟩ 265 (0,0)),(bm,mobj kvI evE ms clk)]
theorem vnew_ok (own:Cl) (hr:own.right) (w:World):CallM Tryz.prog 78 [kvC own] [] w fun v L=>∃ bv bm,v = .tuple #[.pointer (some ⟨bv,0,none⟩),.int .i64 0]∧L=VL bv bm own [] 0:=by
  have hck:=check_ok own.id own.roles own.exp own.ser
  rw [if_pos hr] at hck
  refine enterK (tb:=tb) Tryz.func78 rfl Tryz.ntmps78 rfl ?_
  simp only [kvC]
  repeat' (first|(apply R.is1;first|(apply R.makeMap kvI evE;exact rfl;intro bm)|(apply R.isBin;(apply R.pure;exact rfl;(apply Ok1.neq_f;exact rfl;exact rfl;omega)))|(apply R.isCall;apply R.callP rfl rfl rfl hck)|(apply R.pure;exact rfl;first|(apply Ok1.move;exact rfl)|(apply Ok1.load;exact rfl;(apply Ld.ownk;exact rfl;exact rfl;exact At.head;exact rfl))|(apply Ok1.assign;exact rfl)|(apply Ok1.build;(iterate 5 exact rfl)))|(apply R.box;(iterate 3 exact rfl);intro))|apply R.nil|(apply T.is;first|apply T.seq|apply T.region|apply T.skip|apply T.ret|(apply T.cond_f;exact rfl)))
  (apply RetOk.tt;exact rfl;exact rfl)
  exact ⟨_,by (focus (repeat' first|exact Keep.nil _|exact Ext.one _ _|apply Keep.cons);done),_,bm,rfl,rfl⟩
/-- Who has an identity. -/
def vfind (dl:List Cl) (id:Int):Option Cl:=dl.find? fun x=>decide (x.id=id)
/-- The map and the sorted list are the same. -/
structure VSame (ms:VMs) (clk:Nat) (dl:List Cl):Prop where
  find:∀ k,mget k ms=vfind dl k
  len:ms.length=dl.length
  keys:(ms.map (·.1)).Nodup
  born:(ms.map (·.2.2)).Nodup
  bnd:∀ e∈ms,e.2.2 < clk
  id:∀ e∈ms,e.1=e.2.1.id
  sorted:dl.Pairwise fun a b=>a.id < b.id
  few:dl.length≤16
theorem vfind_id {dl:List Cl} {id:Int} {c:Cl} (h:vfind dl id=some c):c.id=id∧c∈dl:=by
  have h1:=List.find?_some h
  exact ⟨by simpa using h1,List.mem_of_find?_eq_some h⟩
theorem sorted_ids {dl:List Cl}:(dl.Pairwise fun a b=>a.id < b.id) ↔ (dl.map (·.id)).Pairwise (· < ·):=by rw [List.pairwise_map]
theorem keys_ok (m:Option Nat) (w:World):CallM Tryz.prog 150 [.map m] [] w fun v L=>∃ cb,v = .func (.func 245) #[] #[.pointer (some ⟨cb,0,none⟩)]∧L=[(cb,.cells ⟨[.map m]⟩ 263 (0,0))]:=by
  refine enterK (tb:=tb) Tryz.func150 rfl Tryz.ntmps150 rfl ?_
  repeat' (first|(apply R.is1;first|(apply R.pure;exact rfl;first|(apply Ok1.assign;exact rfl)|(apply Ok1.makeFunc;exact rfl;exact rfl))|(apply R.box;(iterate 3 exact rfl);intro))|apply R.nil|(apply T.is;first|apply T.seq|apply T.region|apply T.ret))
  (apply RetOk.t;exact rfl)
  exact ⟨_,by (focus (repeat' first|exact Keep.nil _|exact Ext.one _ _|apply Keep.cons);done),_,rfl,rfl⟩
theorem keys1_ok {β:Type} (I:VMs→β→Prop) (Li:VMs→β→Lst) (l:Nat) (o:Obj) (cb bm:Nat) (ms:VMs) (clk:Nat) (hbnd:∀ e∈ms,e.2.2 < clk) (hnd:(ms.map (·.2.2)).Nodup) (y0:β) (h0:I [] y0)
    (hY:∀ vis y x w,I vis y→x∈ms→vis.length < ms.length→YieldM Tryz.prog l [kvI x.1] ((l,o)::Li vis y) w fun v L=>v = .bool true∧∃ L5,(∃ y',I (vis++[x]) y' ∧ L5=Li (vis++[x]) y')∧L=(l,o)::L5) (w:World) :
    CallM Tryz.prog 245 [.func (.yield l) #[] #[],.pointer (some ⟨cb,0,none⟩)] ((l,o)::(cb,.cells ⟨[.map (some bm)]⟩ 263 (0,0))::(bm,mobj kvI evE ms clk)::Li [] y0) w fun v L=>∃ vis y,vis.Perm ms∧I vis y∧L=(l,o)::(cb,.cells ⟨[.map (some bm)]⟩ 263 (0,0))::(bm,mobj kvI evE ms clk)::Li vis y:=by
  refine enterK (tb:=tb) Tryz.func245 rfl Tryz.ntmps245 rfl ?_
  repeat' (first|(apply R.is1;first|(apply R.range (kv:=kvI) (vv:=evE) (ms:=ms) (clk:=clk);(iterate 4 exact rfl);(focus (repeat' first|exact At.head|apply At.tail);done);intro c)|(apply R.pure;exact rfl;(apply Ok1.load;exact rfl;(apply Ld.own1;exact rfl;exact rfl;(focus (repeat' first|exact At.head|apply At.tail);done);exact rfl))))|apply R.nil|(apply T.is;first|apply T.seq|apply T.region|apply T.block))
  apply T.loopK (α:=VMs × β) (I:=fun x=>Met ms x.1∧I x.1 x.2) (σi:=fun x=>[(0,.func (.yield l) #[] #[]),(5,.pointer (some ⟨c,0,none⟩))])
    (Li:=fun x=>(c,.mapIter (some bm) clk ⟨x.1.map (·.2.2)⟩ clk)::(l,o)::(cb,.cells ⟨[.map (some bm)]⟩ 263 (0,0))::(bm,mobj kvI evE ms clk)::(Li x.1 x.2++[])) (μ:=fun x=>ms.length - x.1.length) (i0:=([],y0))
  · exact ⟨Met.start _,h0⟩
  · exact ⟨rfl,rfl,trivial⟩
  · simp only [List.append_nil]
    (focus (repeat' first|exact Ext.one _ _|exact Ext.all _|apply Keep.cons|apply Keep.last);done)
  · rintro ⟨vis,y⟩ ⟨hmet,hI⟩
    simp only at hmet hI ⊢
    repeat' (first|(apply RI.yield;(iterate 3 exact rfl);(focus (exact Ext.two _ (Ext.cons _ (Ext.one _ _)) (Ext.cons _ (Ext.cons _ (Ext.cons _ (Ext.here _ _))))));intro w1 hw1;exact hY vis y _ w1 hI he (hmet.le hnd he hne);rintro v Lo ⟨rfl,L5,⟨y',hI',rfl⟩,rfl⟩)|(apply R.is1;first|(apply R.next (kv:=kvI) (vv:=evE) (ms:=ms);exact rfl;exact rfl;(focus (repeat' first|exact At.head|apply At.tail);done);exact At.head;exact hbnd;intro hall;rotate_left 1;intro e he hne;apply Exists.intro;apply And.intro;exact Upd.head)|(apply R.pure;exact rfl;first|(apply Ok1.entry;exact rfl;exact At.head;(focus (repeat' first|exact At.head|apply At.tail);done);assumption;exact hnd)|(apply Ok1.move;exact rfl)|(apply Ok1.assign;exact rfl)|(apply Ok1.extract;exact rfl;exact rfl)|(apply Ok1.not_t;exact rfl)))|apply R.nil|(apply T.is;first|apply T.regionIn (id:=3)|apply T.seq|apply T.region|apply T.block|apply T.skip|apply T.exit|(apply T.cond_t;exact rfl)|(apply T.cond_f;exact rfl))|(apply RI.step;exact rfl)|apply RI.nil)
    · refine ⟨(vis++[e],y'),⟨hmet.step he hne,hI'⟩,?_,⟨rfl,rfl,trivial⟩,?_⟩
      · have:=hmet.le hnd he hne
        simp only [List.length_append,List.length_cons,List.length_nil]
        omega
      · simp only [List.map_append,List.map_cons,List.map_nil,List.append_nil,List.cons_append]
        (focus (repeat' first|exact Ext.one _ _|exact Ext.here _ _|apply Keep.cons|apply Keep.last|apply Ext.cons|apply Ext.app);done)
    · (apply RetOk.n)
      exact ⟨_,by (focus (repeat' first|exact Ext.one _ _|exact Ext.here _ _|apply Keep.cons|apply Keep.last|apply Ext.cons);done),vis,y,hmet.perm hnd hall,hI,rfl⟩
theorem kappend_ok (cb bm:Nat) (ms:VMs) (clk:Nat) (hbnd:∀ e∈ms,e.2.2 < clk) (hnd:(ms.map (·.2.2)).Nodup) (hlen:ms.length≤1000) (w:World) :
    CallM Tryz.prog 325 [.slice none 0 0,.func (.func 245) #[] #[.pointer (some ⟨cb,0,none⟩)]] [(cb,.cells ⟨[.map (some bm)]⟩ 263 (0,0)),(bm,mobj kvI evE ms clk)] w fun v L=>∃ ov ks,ks.Perm (ms.map (·.1))∧OvOk 1 ov ks.length (iis ks)∧v=slV ov ks.length∧L=(cb,.cells ⟨[.map (some bm)]⟩ 263 (0,0))::(bm,mobj kvI evE ms clk)::blkL 3 ov (iis ks):=by
  refine enterF (tb:=tb) Tryz.func325 rfl Tryz.ntmps325 rfl ?_
  repeat' (first|(apply TF.range (gf:=245);exact rfl;exact rfl)|apply TF.seq|(apply R.is1;first|(apply R.pure;exact rfl;first|(apply Ok1.move;exact rfl)|(apply Ok1.assign;exact rfl))|(apply R.box;(iterate 3 exact rfl);intro))|apply R.nil|(apply T.is;apply T.region))
  rename_i out
  obtain ⟨Li,hLi⟩:∃ Li:VMs→Ov→Lst,Li=fun vis ov=>(out,.cells ⟨[slV ov vis.length]⟩ 25 (0,0))::blkL 3 ov (iis (vis.map (·.1))):=⟨_,rfl⟩
  refine ⟨⟨_,(cb,.cells ⟨[.map (some bm)]⟩ 263 (0,0))::(bm,mobj kvI evE ms clk)::Li [] none,[],fun Lb=>∃ vis ov,vis.Perm ms∧OvOk 1 ov vis.length (iis (vis.map (·.1)))∧Lb=(cb,.cells ⟨[.map (some bm)]⟩ 263 (0,0))::(bm,mobj kvI evE ms clk)::Li vis ov,?_,rfl,?_,?_⟩⟩
  · subst hLi
    change Keep _ [_,_,_]
    (focus (repeat' first|exact Keep.nil _|exact Ext.one _ _|apply Keep.cons|apply Ext.cons);done)
  · intro l rec w1 hok _
    refine (keys1_ok (fun vis ov=>OvOk 1 ov vis.length (iis (vis.map (·.1)))) Li l _ cb bm _ _ hbnd hnd none (OvOk.start 1) ?_ w1).to ?_
    · intro vis ov x w2 hI hx hlt
      subst hLi
      apply YieldM.of (tb:=tb) hok.mod hok.params (blt_lt rfl) hok.assign hok.body hok.state hok.pending
      repeat' (first|(apply R.is1;(apply R.pure;exact rfl;(apply Ok1.assign;exact rfl)))|apply R.nil|(apply RI.step;exact rfl)|apply RI.nil)
      refine ⟨_,.cons (.one _ _) (.last (.all _)),?_⟩
      repeat' (first|(apply R.is1;first|(apply R.isCall;(apply R.append1;(iterate 12 exact rfl);(focus (repeat' first|exact OwnAt.base hI|apply OwnAt.tail);done);exact At.head;exact rfl;exact rfl;omega;omega;intro b2 j2 k2 hj2))|(apply R.pure;exact rfl;first|(apply Ok1.move;exact rfl)|(apply Ok1.load;exact rfl;(apply Ld.own1;exact rfl;exact rfl;(focus (repeat' first|exact At.head|apply At.tail);done);exact rfl)))|(apply R.buildSlice;(iterate 12 exact rfl);intro))|(apply R.is0;(apply R.store;(iterate 6 exact rfl);(focus (repeat' first|exact Upd.head|apply Upd.tail);done);exact rfl))|apply R.nil|(apply RI.step;exact rfl)|apply RI.nil)
      have hs:iis ((vis++[x]).map (·.1))=iis (vis.map (·.1))++[.int .i64 x.1]:=by rw [List.map_append,iis_app];rfl
      refine ⟨(out,.cells ⟨[slV (some (b2,j2,k2)) (vis++[x]).length]⟩ 25 (0,0))::blkL 3 (some (b2,j2,k2)) (iis ((vis++[x]).map (·.1))),?_,some (b2,j2,k2),?_,rfl⟩
      · rw [hs,List.length_append,List.length_singleton]
        (focus (repeat' first|exact Keep.nil _|exact Ext.one _ _|apply Keep.cons|apply Ext.cons);done)
      · rw [hs,List.length_append,List.length_singleton]
        exact hI.some (b:=b2) (ys:=[.int .i64 x.1]) (m:=1) rfl hj2
    · rintro v L ⟨vis,ov,h1,h2,rfl⟩
      exact ⟨_,⟨vis,ov,h1,h2,rfl⟩,rfl⟩
  · rintro D Lb ⟨vis,ov,h1,h2,rfl⟩
    subst hLi
    simp only [List.cons_append,List.append_nil]
    repeat' (first|apply TD.seq|apply TD.region|apply TD.ret|(apply R.is1;(apply R.pure;exact rfl;first|(apply Ok1.load;exact rfl;(apply Ld.own1;exact rfl;exact rfl;(focus (repeat' first|exact At.head|apply At.tail);done);exact rfl))|(apply Ok1.assign;exact rfl)))|apply R.nil)
    refine ⟨rfl,_,_,rfl,?_,ov,vis.map (·.1),h1.map _,by rw [List.length_map];exact h2,by rw [List.length_map],rfl⟩
    (focus (repeat' first|exact Ext.one _ _|exact Ext.all _|apply Keep.cons|apply Keep.last|apply Ext.cons);done)
theorem vfind_self {dl:List Cl} (hs:dl.Pairwise fun a b=>a.id < b.id) {i:Nat} {c:Cl} (hc:dl[i]? = some c):vfind dl c.id=some c:=by
  obtain ⟨hlt,he⟩:=List.getElem?_eq_some_iff.1 hc
  unfold vfind
  rw [List.find?_eq_some_iff_getElem]
  refine ⟨by simp,i,hlt,he,fun j hj=>?_⟩
  have:=(List.pairwise_iff_getElem.1 hs) j i (by omega) hlt hj
  rw [he] at this
  simp
  omega
theorem asc_one {a b:List Int} (hp:a.Perm b) (ha:a.Pairwise (· ≤ ·)) (hb:b.Pairwise (· ≤ ·)):a=b :=
  List.Perm.eq_of_pairwise (le:=(· ≤ ·)) (fun x y _ _ h1 h2=>by omega) ha hb hp
theorem mget_memS {κ α:Type} [DecidableEq κ] {k:κ}:∀ {ms:Ms κ α},(∃ a,mget k ms=some a) ↔ k∈ms.map (·.1)
  | []=>by simp [mget]
  | x :: r=>by
    simp only [mget,List.map_cons,List.mem_cons]
    by_cases h:x.1=k
    · simp [h]
    · rw [if_neg h,mget_memS (ms:=r)]
      constructor
      · exact .inr
      · rintro (e|e)
        · exact absurd e.symm h
        · exact e
theorem keys_sorted {ms:VMs} {clk:Nat} {dl:List Cl} (hs:VSame ms clk dl) {ks:List Int} (hp:ks.Perm (ms.map (·.1))):srt ks=dl.map (·.id):=by
  have hdn:(dl.map (·.id)).Pairwise (· < ·):=sorted_ids.1 hs.sorted
  have hperm:(ms.map (·.1)).Perm (dl.map (·.id)):=by
    refine (List.perm_ext_iff_of_nodup hs.keys (hdn.imp fun h=>by omega)).2 fun k=>?_
    rw [← mget_memS,hs.find k]
    constructor
    · rintro ⟨a,ha⟩
      obtain ⟨h1,h2⟩:=vfind_id ha
      exact List.mem_map.2 ⟨a,h2,h1⟩
    · intro hk
      obtain ⟨c,hc,rfl⟩:=List.mem_map.1 hk
      obtain ⟨i,hi⟩:=List.mem_iff_getElem?.1 hc
      exact ⟨c,vfind_self hs.sorted hi⟩
  exact asc_one ((srt_perm ks).trans (hp.trans hperm)) (srt_asc ks) (hdn.imp fun h=>by omega)
theorem kcollect_ok (cb bm:Nat) (ms:VMs) (clk:Nat) (hbnd:∀ e∈ms,e.2.2 < clk) (hnd:(ms.map (·.2.2)).Nodup) (hlen:ms.length≤1000) (w:World) :
    CallM Tryz.prog 244 [.func (.func 245) #[] #[.pointer (some ⟨cb,0,none⟩)]] [(cb,.cells ⟨[.map (some bm)]⟩ 263 (0,0)),(bm,mobj kvI evE ms clk)] w fun v L=>∃ ov ks,ks.Perm (ms.map (·.1))∧OvOk 1 ov ks.length (iis ks)∧v=slV ov ks.length∧L=(cb,.cells ⟨[.map (some bm)]⟩ 263 (0,0))::(bm,mobj kvI evE ms clk)::blkL 3 ov (iis ks):=by
  have h:=fun w1=>kappend_ok cb bm ms clk hbnd hnd hlen w1
  refine enterK (tb:=tb) Tryz.func244 rfl Tryz.ntmps244 rfl ?_
  repeat' (first|(apply R.is1;first|(apply R.isCall;(apply R.callE (vs:=[.slice none 0 0,.func (.func 245) #[] #[.pointer (some ⟨cb,0,none⟩)]]);(iterate 3 exact rfl);exact Ext.all _;intro w1 hw1;exact h w1;rintro v Lo ⟨ov,ks,hp,hov,rfl,rfl⟩))|(apply R.pure;exact rfl;first|(apply Ok1.move;exact rfl)|(apply Ok1.assign;exact rfl)))|apply R.nil|(apply T.is;first|apply T.seq|apply T.region|apply T.ret))
  (apply RetOk.t;exact rfl)
  exact ⟨_,by (focus (repeat' first|exact Ext.one _ _|exact Ext.here _ _|apply Keep.cons|apply Keep.last);done),ov,ks,hp,hov,rfl,rfl⟩
theorem ksorted_ok (cb bm:Nat) (ms:VMs) (clk:Nat) (dl:List Cl) (hs:VSame ms clk dl) (w:World) :
    CallM Tryz.prog 149 [.func (.func 245) #[] #[.pointer (some ⟨cb,0,none⟩)]] [(cb,.cells ⟨[.map (some bm)]⟩ 263 (0,0)),(bm,mobj kvI evE ms clk)] w fun v L=>∃ ov,OvOk 1 ov dl.length (iis (dl.map (·.id)))∧v=slV ov dl.length∧L=(cb,.cells ⟨[.map (some bm)]⟩ 263 (0,0))::(bm,mobj kvI evE ms clk)::blkL 3 ov (iis (dl.map (·.id))):=by
  have hln:=hs.len
  have hfw:=hs.few
  have h:=fun w1=>kcollect_ok cb bm ms clk hs.bnd hs.born (by omega) w1
  refine enterK (tb:=tb) Tryz.func149 rfl Tryz.ntmps149 rfl ?_
  repeat' (first|(apply R.is1;first|(apply R.isCall;(apply R.callE (vs:=[.func (.func 245) #[] #[.pointer (some ⟨cb,0,none⟩)]]);(iterate 3 exact rfl);exact Ext.all _;intro w1 hw1;exact h w1;rintro v Lo ⟨ov,ks,hp,hov,rfl,rfl⟩))|(apply R.pure;exact rfl;first|(apply Ok1.move;exact rfl)|(apply Ok1.assign;exact rfl)))|apply R.nil|(apply T.is;first|apply T.seq|apply T.region))
  have hkl:ks.length=dl.length:=by rw [hp.length_eq,List.length_map,hln]
  have hss:=fun w1=>isort_ok ks (by omega) ov hov w1
  rw [keys_sorted hs hp] at hss
  repeat' (first|(apply R.is1;first|(apply R.isCall;(apply R.callE (vs:=[slV ov ks.length]);(iterate 3 exact rfl);exact Ext.cons _ (Ext.cons _ (Ext.here _ _));intro w1 hw1;exact hss w1;rintro v Lo ⟨rfl,rfl⟩))|(apply R.pure;exact rfl;first|(apply Ok1.move;exact rfl)|(apply Ok1.assign;exact rfl)))|apply R.nil|(apply T.is;first|apply T.seq|apply T.region|apply T.ret))
  (apply RetOk.t;exact rfl)
  refine ⟨_,?_,ov,⟨by rw [iis_len,List.length_map,Nat.mul_one],by rw [← hkl];exact hov.2⟩,by rw [hkl],rfl⟩
  (focus (repeat' first|exact Ext.one _ _|exact Ext.here _ _|apply Keep.cons|apply Keep.last|apply Ext.app);done)
theorem iis_fl (xs:List Int):iis xs=fl iV xs:=by
  induction xs with
  | nil=>rfl
  | cons a l ih =>
    show Value.int .i64 a::iis l=iV a++fl iV l
    rw [ih]
    rfl
theorem vall_ok (bv bm:Nat) (own:Cl) (ms:VMs) (clk:Nat) (dl:List Cl) (hs:VSame ms clk dl) (w:World):CallM Tryz.prog 68 [.pointer (some ⟨bv,0,none⟩)] (VL bv bm own ms clk) w fun v L=>∃ ov,OvOk 8 ov dl.length (fl evC dl)∧v=slV ov dl.length∧L=VL bv bm own ms clk++blkL 148 ov (fl evC dl):=by
  have hfw:=hs.few
  have hk:=fun w1=>keys_ok (some bm) w1
  refine enterK (tb:=tb) Tryz.func68 rfl Tryz.ntmps68 rfl ?_
  simp only [VL]
  repeat' (first|(apply R.is1;first|(apply R.isBin;(apply R.pure;exact rfl;(apply Ok1.eqlP;(iterate 5 exact rfl))))|(apply R.isCall;(apply R.callE (vs:=[.map (some bm)]);(iterate 3 exact rfl);exact Ext.none _;intro w1 hw1;exact hk w1;rintro v Lo ⟨cb,rfl,rfl⟩))|(apply R.pure;exact rfl;first|(apply Ok1.move;exact rfl)|(apply Ok1.fieldAddr;(iterate 5 exact rfl))|(apply Ok1.load;exact rfl;(apply Ld.own1;exact rfl;exact rfl;exact At.head;exact rfl))|(apply Ok1.assign;exact rfl)|(apply Ok1.nilCheck;exact rfl)))|apply R.nil|(apply T.is;first|apply T.seq|apply T.region|apply T.skip|(apply T.cond_f;exact rfl)))
  have hks:=fun w1=>ksorted_ok cb bm ms clk dl hs w1
  repeat' (first|(apply R.is1;first|(apply R.isCall;first|(apply R.callE (vs:=[.func (.func 245) #[] #[.pointer (some ⟨cb,0,none⟩)]]);(iterate 3 exact rfl);(focus (exact Ext.two _ (Ext.one _ _) (Ext.cons _ (Ext.one _ _))));intro w1 hw1;exact hks w1;rintro v Lo ⟨ovk,hovk,rfl,rfl⟩)|(apply R.pure;exact rfl;apply Ok1.lenOv;(iterate 3 exact rfl);exact hovk))|(apply R.pure;exact rfl;(apply Ok1.move;exact rfl)))|apply R.nil|(apply T.is;apply T.block))
  cases ovk with
  | none =>
    have h0:dl.length=0:=hovk.2
    have h00:dl=[]:=List.eq_nil_of_length_eq_zero h0
    subst h00
    simp only [slV,blkL,List.append_nil,List.length_nil]
    repeat' (first|(apply R.is1;first|(apply R.isBin;(apply R.pure;exact rfl;(apply Ok1.lss_f;exact rfl;exact rfl;omega)))|(apply R.pure;exact rfl;first|(apply Ok1.move;exact rfl)|(apply Ok1.assign;exact rfl)))|apply R.nil|(apply T.is;first|apply T.rounds 1|apply T.seq|apply T.region|apply T.exit|apply T.ret|(apply T.cond_f;exact rfl)))
    (apply RetOk.t;exact rfl)
    exact ⟨_,by (focus (repeat' first|exact Keep.nil _|exact Ext.one _ _|apply Keep.cons|apply Ext.cons);done),none,OvOk.start 8,rfl,rfl⟩
  | some q =>
    obtain ⟨bk,j,junk⟩:=q
    simp only [slV,blkL,iis_fl]
    apply T.loopK (α:=Nat × Ov) (I:=fun y=>y.1≤dl.length∧OvOk 8 y.2 y.1 (fl evC (dl.take y.1))) (σi:=fun y=>[(0,.pointer (some ⟨bv,0,none⟩)),(3,slV y.2 y.1),(13,.slice (some ⟨bk,0,none⟩) dl.length (dl.length+j)),(14,.int .i64 dl.length),(15,.int .i64 y.1)]) (Li:=fun y=>(bk,.cells ⟨fl iV (dl.map (·.id))++junk⟩ 3 (0,0))::(bv,.cells ⟨[.int .i64 own.id,.int .i64 own.roles,.int .i64 own.exp,.int .i64 own.ser,.map (some bm)]⟩ 265 (0,0))::(bm,mobj kvI evE ms clk)::blkL 148 y.2 (fl evC (dl.take y.1))) (μ:=fun y=>dl.length - y.1) (i0:=(0,none))
    · exact ⟨Nat.zero_le _,OvOk.start 8⟩
    · exact ⟨rfl,rfl,rfl,rfl,rfl,trivial⟩
    · show Keep _ ((bk,_)::(bv,_)::(bm,_)::[])
      (focus (repeat' first|exact Keep.nil _|exact Ext.one _ _|apply Keep.cons|apply Ext.cons);done)
    · rintro ⟨i,ov⟩ ⟨hi,hov⟩
      simp only at hi hov ⊢
      rcases Nat.lt_or_ge i dl.length with hlt|hge
      · obtain ⟨c,hc⟩:∃ c,dl[i]? = some c:=⟨_,List.getElem?_eq_getElem (by omega)⟩
        have hci:(dl.map (·.id))[i]? = some c.id:=by rw [List.getElem?_map,hc];rfl
        have hm:mget c.id ms=some c:=by rw [hs.find c.id,vfind_self hs.sorted hc]
        repeat' (first|(apply R.is1;first|(apply R.isBin;(apply R.pure;exact rfl;first|(apply Ok1.add64;exact rfl;exact rfl;omega;omega)|(apply Ok1.lss_t;exact rfl;exact rfl;omega)))|(apply R.isCall;(apply R.append1;(iterate 12 exact rfl);(focus (repeat' first|exact OwnAt.base hov|apply OwnAt.tail);done);exact At.head;exact rfl;exact rfl;omega;omega;intro b2 j2 k2 hj2))|(apply R.pure;exact rfl;first|(apply Ok1.load;exact rfl;(apply Ld.ownrow1 (f:=0);(focus (repeat' first|exact At.head|apply At.tail);done);exact iV_len;exact hci;(focus ((simp;done)));(iterate 3 exact rfl)))|(apply Ok1.lookup_some (kv:=kvI) (vv:=evE) c.id ktI;(iterate 6 exact rfl);(focus (repeat' first|exact At.head|apply At.tail);done);assumption;(exact (if_neg Bool.false_ne_true).symm))|(apply Ok1.move;exact rfl)|(apply Ok1.fieldAddr;(iterate 5 exact rfl))|(apply Ok1.load;exact rfl;(apply Ld.own1;exact rfl;exact rfl;(focus (repeat' first|exact At.head|apply At.tail);done);exact rfl))|(apply Ok1.assign;exact rfl)|(apply Ok1.indexAddr;(iterate 5 exact rfl);omega;omega)|(apply Ok1.nilCheck;exact rfl))|(apply R.buildSlice;(iterate 12 exact rfl);intro))|apply R.nil|(apply T.is;first|apply T.seq|apply T.region|apply T.block|apply T.skip|(apply T.cond_t;exact rfl)))
        refine ⟨(i+1,some (b2,j2,k2)),⟨by simp only;omega,?_⟩,by simp only;omega,⟨rfl,rfl,rfl,rfl,rfl,trivial⟩,?_⟩
        · simp only [fl_take hc];exact OvOk.some (b:=b2) hov (m:=1) rfl hj2
        · simp only [fl_take hc,blkL];(focus (repeat' first|exact Keep.nil _|exact Ext.one _ _|apply Keep.cons|apply Ext.cons);done)
      · have him:i=dl.length:=by omega
        subst him
        rw [List.take_length] at hov ⊢
        repeat' (first|(apply R.is1;first|(apply R.isBin;(apply R.pure;exact rfl;(apply Ok1.lss_f;exact rfl;exact rfl;omega)))|(apply R.pure;exact rfl;first|(apply Ok1.move;exact rfl)|(apply Ok1.assign;exact rfl)))|apply R.nil|(apply T.is;first|apply T.seq|apply T.region|apply T.exit|apply T.ret|(apply T.cond_f;exact rfl)))
        (apply RetOk.t;exact rfl)
        exact ⟨VL bv bm own ms clk++blkL 148 ov (fl evC dl),by simp only [VL,List.cons_append,List.nil_append];(focus (repeat' first|exact Ext.one _ _|exact Ext.all _|apply Keep.cons|apply Keep.last|apply Ext.cons);done),ov,hov,rfl,rfl⟩
def k0:List Int:=[48,49,50,51,52,53,54,55,56,57,97,98,99,100,101,102]
end Go.Proofs.YtcfdgnajepilbaaGreat
set_option linter.unusedSimpArgs false
set_option linter.unusedVariables false
namespace Go.Proofs.YtcfdgnajepilbaaGreat
open Go.RowKit Go.Shelf Go.Sort
set_option maxRecDepth 100000
/-- The claims of those of which Q says yes,sorted. -/
def ARes (Q:Cl × Nat × Nat→Bool) (b bm:Nat) (es:BS) (clk:Nat) (v:Value) (L:Lst):Prop:=∃ ov cs,cs.Perm (((bms es).filter Q).map (·.1))∧Asc cmpCl cs∧OvOk 4 ov cs.length (fl Cl.v cs)∧v=slV ov cs.length∧L=blkL 31 ov (fl Cl.v cs)++BL b bm es clk
theorem ball_ok (b bm:Nat) (es:BS) (clk:Nat) (hwf:MWf (bms es,clk)) (hlen:es.length≤1000) (f:FuncId) (cb:List Value) (hf:tb.fns.contains f=true) (Q:Cl × Nat × Nat→Bool) (w:World)
    (hcall:∀ m∈bms es,∀ W,Hp w (blks (BL b bm es clk)) (BL b bm es clk) W→CallW Tryz.prog f ([vvP m.2.1]++cb) W fun v _=>v = .bool (Q m)) :
    CallM Tryz.prog 111 [.pointer (some ⟨b,0,none⟩),.func (.func f) #[] cb.toArray] (BL b bm es clk) w (ARes Q b bm es clk):=by
  refine enterK (tb:=tb) Tryz.func111 rfl Tryz.ntmps111 rfl ?_
  have hbl:=bms_len es
  obtain ⟨S,hS⟩:∃ S,S=blks (BL b bm es clk):=⟨_,rfl⟩
  rw [← hS] at hcall ⊢
  simp only [BL] at hcall ⊢
  repeat' (first|(apply R.is1;first|(apply R.range (kv:=kvC) (vv:=vvP) (ms:=bms es) (clk:=clk);(iterate 4 exact rfl);(focus (repeat' first|exact At.head|apply At.tail);done);intro c)|(apply R.isBin;(apply R.pure;exact rfl;(apply Ok1.eqlP;(iterate 5 exact rfl))))|(apply R.pure;exact rfl;first|(apply Ok1.move;exact rfl)|(apply Ok1.fieldAddr;(iterate 5 exact rfl))|(apply Ok1.load;exact rfl;(apply Ld.own1;exact rfl;exact rfl;exact At.head;exact rfl))|(apply Ok1.assign;exact rfl)|(apply Ok1.nilCheck;exact rfl)))|apply R.nil|(apply T.is;first|apply T.seq|apply T.region|apply T.block|apply T.skip|(apply T.cond_f;exact rfl)))
  obtain ⟨flt,hflt⟩:∃ flt:Ms Cl Nat→List Cl,flt=fun vis=>(vis.filter Q).map (·.1):=⟨_,rfl⟩
  have hf1:∀ vis e,Q e=true→flt (vis++[e])=flt vis++[e.1]:=by intro vis e h;subst hflt;simp [h]
  have hf0:∀ vis e,Q e=false→flt (vis++[e])=flt vis:=by intro vis e h;subst hflt;simp [h]
  have hfl:∀ vis,(flt vis).length≤vis.length:=by
    intro vis;subst hflt;rw [List.length_map];exact List.length_filter_le ..
  have hfp:∀ vis,vis.Perm (bms es)→(flt vis).Perm (((bms es).filter Q).map (·.1)):=by
    intro vis h;subst hflt;exact (h.filter Q).map _
  have hfe:flt []=[]:=by subst hflt;rfl
  clear hflt
  apply T.loopK (α:=Ms Cl Nat × Ov) (I:=fun x=>Met (bms es) x.1∧OvOk 4 x.2 (flt x.1).length (fl Cl.v (flt x.1))) (σi:=fun x=>[(1,.func (.func f) #[] cb.toArray),(5,slV x.2 (flt x.1).length),(14,.pointer (some ⟨c,0,none⟩))])
    (Li:=fun x=>(c,.mapIter (some bm) clk ⟨x.1.map (·.2.2)⟩ clk)::(b,.cells ⟨[.map (some bm)]⟩ 200 (0,0))::(bm,mobj kvC vvP (bms es) clk)::(bls es++blkL 31 x.2 (fl Cl.v (flt x.1)))) (μ:=fun x=>(bms es).length - x.1.length) (i0:=([],none))
  · simp only [hfe];exact ⟨Met.start _,OvOk.start 4⟩
  · simp only [hfe];exact ⟨rfl,rfl,rfl,trivial⟩
  · simp only [blkL,List.append_nil]
    (focus (repeat' first|exact Ext.one _ _|exact Ext.all _|apply Keep.cons|apply Keep.last);done)
  · rintro ⟨vis,ov⟩ ⟨hmet,hov⟩
    simp only at hmet hov ⊢
    have hvl:vis.length≤(bms es).length:=nodup_sub_len (nodup_map_born hmet.nd) hmet.sub
    have hfl1:=hfl vis
    repeat' (first|(apply R.is1;first|(apply R.next (kv:=kvC) (vv:=vvP) (ms:=bms es);exact rfl;exact rfl;(focus (repeat' first|exact At.head|apply At.tail);done);exact At.head;exact hwf.bnd;intro hall;rotate_left 1;intro e he hne;apply Exists.intro;apply And.intro;exact Upd.head)|(apply R.isCall;first|(apply R.callFV (fa:=[]) (cb:=cb);exact rfl;exact hf;exact rfl;exact rfl;intro w1 hw1;exact hcall e he w1 (hw1.keep (by (focus (repeat' first|exact Ext.one _ _|exact Ext.here _ _|apply Keep.cons|apply Keep.last|apply Ext.cons);done))))|(apply R.append1;(iterate 12 exact rfl);(focus (repeat' first|exact OwnAt.base hov|apply OwnAt.tail|apply OwnAt.right);done);exact At.head;exact rfl;exact rfl;omega;omega;intro b2 j2 k2 hj2))|(apply R.pure;exact rfl;first|(apply Ok1.entry;exact rfl;exact At.head;(focus (repeat' first|exact At.head|apply At.tail);done);assumption;exact hwf.nd)|(apply Ok1.move;exact rfl)|(apply Ok1.load;exact rfl;(apply Ld.ownk;exact rfl;exact rfl;exact At.head;exact rfl))|(apply Ok1.assign;exact rfl)|(apply Ok1.extract;exact rfl;exact rfl))|(apply R.alloc;(iterate 3 exact rfl);intro)|(apply R.buildSlice;(iterate 12 exact rfl);intro))|(apply R.is0;(apply R.store;(iterate 6 exact rfl);exact Upd.head;exact rfl))|apply R.nil|(apply T.is;first|apply T.seq|apply T.region|apply T.block|apply T.skip|apply T.exit|(apply T.cond_t;exact rfl)|(apply T.cond_f;exact rfl)|(apply T.cond rfl<;>intro)))
    · refine ⟨(vis++[e],some (b2,j2,k2)),⟨hmet.step he hne,?_⟩,?_,?_,?_⟩
      · have:=hov.some (b:=b2) (ys:=Cl.v e.1) (m:=1) rfl hj2
        simpa only [hf1 vis e ‹_›,List.length_append,List.length_cons,List.length_nil,fl_snoc] using this
      · have:=hmet.le hwf.nd he hne
        simp only [List.length_append,List.length_cons,List.length_nil]
        omega
      · simp only [hf1 vis e ‹_›,List.length_append,List.length_cons,List.length_nil]
        exact ⟨rfl,rfl,rfl,trivial⟩
      · simp only [hf1 vis e ‹_›,List.map_append,List.map_cons,List.map_nil,fl_snoc]
        (focus (repeat' first|exact Keep.nil _|exact Ext.one _ _|exact Ext.here _ _|apply Keep.cons|apply Keep.app|apply Ext.cons);done)
    · refine ⟨(vis++[e],ov),⟨hmet.step he hne,?_⟩,?_,?_,?_⟩
      · simp only [hf0 vis e ‹_›];exact hov
      · have:=hmet.le hwf.nd he hne
        simp only [List.length_append,List.length_cons,List.length_nil]
        omega
      · simp only [hf0 vis e ‹_›];exact ⟨rfl,rfl,rfl,trivial⟩
      · simp only [hf0 vis e ‹_›,List.map_append,List.map_cons,List.map_nil]
        (focus (repeat' first|exact Ext.one _ _|exact Ext.here _ _|exact Ext.all _|apply Keep.cons|apply Keep.app|apply Keep.last|apply Ext.cons);done)
    · have hperm:vis.Perm (bms es):=hmet.perm hwf.nd hall
      have hsort:=fun w1=>sortC_ok (flt vis) (by omega) ov hov w1
      repeat' (first|(apply R.is1;first|(apply R.isCall;(apply R.callE;(iterate 3 exact rfl);(focus (exact Ext.cons _ (Ext.cons _ (Ext.cons _ (Ext.app _ (Ext.all _))))));intro w1 hw1;exact hsort w1;rintro v Lo ⟨rfl,cs,hp',hasc,rfl⟩))|(apply R.pure;exact rfl;first|(apply Ok1.move;exact rfl)|(apply Ok1.assign;exact rfl)))|apply R.nil|(apply T.is;first|apply T.seq|apply T.region|apply T.ret))
      have hl:(flt vis).length=cs.length:=hp'.length_eq.symm
      (apply RetOk.t;exact rfl)
      refine ⟨blkL 31 ov (fl Cl.v cs)++BL b bm es clk,?_,ov,cs,hp'.trans (hfp vis hperm),hasc,?_,by rw [hl],rfl⟩
      · simp only [BL,List.append_nil]
        (focus (repeat' first|exact Ext.one _ _|exact Ext.here _ _|exact Ext.all _|apply Keep.cons|apply Keep.app|apply Keep.last|apply Ext.cons);done)
      · rw [← hl];exact ⟨by rw [fl_len Cl.v_len,← hl],hov.2⟩
theorem wanted1_ok (a:Nat) (x:En) (fz:Nat × Nat) (w:World) (hb:w.heap[a]? = some (.cells ⟨x.v⟩ 196 fz)):CallW Tryz.prog 194 [vvP a] w fun v _=>v = .bool x.key.isNone:=by
  refine enterW (tb:=tb) Tryz.func194 rfl Tryz.ntmps194 rfl ?_
  simp only [vvP]
  simp only [En.v] at hb
  repeat' (first|(apply R.is1;first|(apply R.isBin;(apply R.pure;exact rfl;(apply Ok1.eqlP;(iterate 5 exact rfl))))|(apply R.pure;exact rfl;first|(apply Ok1.move;exact rfl)|(apply Ok1.fieldAddr;(iterate 5 exact rfl))|(apply Ok1.load;exact rfl;(apply Ld.blk1;exact rfl;exact rfl;assumption;(exact List.not_mem_nil);exact rfl))|(apply Ok1.assign;exact rfl)|(apply Ok1.nilCheck;exact rfl)))|apply R.nil|(apply T.is;first|apply T.seq|apply T.region|apply T.ret))
  (apply RetOk.t;exact rfl)
  rfl
theorem bms_mem {es:BS} {m:Cl × Nat × Nat} (h:m∈bms es):∃ x∈es,m=(x.c,x.blk,x.born):=by
  obtain ⟨x,hx,e⟩:=List.mem_map.1 h
  exact ⟨x,hx,e.symm⟩
theorem BL_mem {b bm:Nat} {es:BS} {clk:Nat} {x:BE} (h:x∈es):(x.blk,Obj.cells ⟨x.e.v⟩ 196 (0,0))∈BL b bm es clk:=List.mem_cons_of_mem _ (List.mem_cons_of_mem _ (List.mem_map.2 ⟨x,h,rfl⟩))
end Go.Proofs.YtcfdgnajepilbaaGreat
set_option linter.unusedSimpArgs false
set_option linter.unusedVariables false
namespace Go.Proofs.YtcfdgnajepilbaaGreat
open Go.RowKit Go.Shelf
set_option maxRecDepth 100000
/-- A key in blocks of one's own. -/
structure KE where
  bk:Nat
  ov:Ov
  K:List Int
def KE.L (x:KE):Lst:=KL x.bk x.ov x.K
def vvE (x:KE):Value:=.pointer (some ⟨x.bk,0,none⟩)
section
variable (br:Nat) (c:Cl) (s:List Int) (hs:s.length=32) (m1 m2:Nat) (e9:TypeId) (f9:Nat × Nat)
end
end Go.Proofs.YtcfdgnajepilbaaGreat
set_option linter.unusedSimpArgs false
set_option linter.unusedVariables false
set_option linter.unusedSectionVars false
namespace Go.Proofs.YtcfdgnajepilbaaGreat
open Go.RowKit Go.Shelf Go.Sort
set_option maxRecDepth 100000
/-- A label's bytes,as the statement keeps them: nil,or 1 and the key. -/
structure LB where
  ov:Ov
  xs:List Int
def LB.L (x:LB):Lst:=blkL 5 x.ov (u8s x.xs)
end Go.Proofs.YtcfdgnajepilbaaGreat
set_option linter.unusedSimpArgs false
set_option linter.unusedVariables false
namespace Go.Proofs.YtcfdgnajepilbaaGreat
open Go.RowKit Go.Shelf
set_option maxRecDepth 100000
/-- A book's two blocks;the same with an entry's. -/
def B2L (b bm:Nat) (ms:Ms Cl Nat) (clk:Nat):Lst:=[(b,.cells ⟨[.map (some bm)]⟩ 200 (0,0)),(bm,mobj kvC vvP ms clk)]
section
variable (b bm:Nat) (ms:Ms Cl Nat) (clk:Nat) (c:Cl)
theorem lenC_ok (w:World):CallM Tryz.prog 189 [.pointer (some ⟨b,0,none⟩)] (B2L b bm ms clk) w fun v L=>v = .int .i64 ms.length∧L=B2L b bm ms clk:=by
  refine enterK (tb:=tb) Tryz.func189 rfl Tryz.ntmps189 rfl ?_
  simp only [B2L]
  repeat' (first|(apply R.is1;first|(apply R.isBin;(apply R.pure;exact rfl;(apply Ok1.eqlP;(iterate 5 exact rfl))))|(apply R.isCall;(apply R.pure;exact rfl;(apply Ok1.lenMm;(iterate 3 exact rfl);(focus (repeat' first|exact At.head|apply At.tail);done))))|(apply R.pure;exact rfl;first|(apply Ok1.load;exact rfl;(apply Ld.own1;exact rfl;exact rfl;exact At.head;exact rfl))|(apply Ok1.move;exact rfl)|(apply Ok1.fieldAddr;(iterate 5 exact rfl))|(apply Ok1.assign;exact rfl)|(apply Ok1.nilCheck;exact rfl)))|apply R.nil|(apply T.is;first|apply T.seq|apply T.region|apply T.skip|apply T.ret|(apply T.cond_f;exact rfl)))
  (apply RetOk.t;exact rfl)
  exact ⟨_,by (focus (repeat' first|exact Keep.nil _|exact Ext.one _ _|apply Keep.cons);done),rfl,rfl⟩
section
variable (blk:Nat) (x:En) (hm:mget c ms=some blk)
end
end
def posC (xs:List Cl) (pr:Cl→Bool):Int:=if xs.findIdx pr < xs.length then (xs.findIdx pr:Int) else -1
theorem posC_at {xs:List Cl} {pr:Cl→Bool} {i:Nat} {x:Cl} (h:∀ y∈xs.take i,pr y=false) (hx:xs[i]? = some x) (hp:pr x=true):posC xs pr=i:=by
  obtain ⟨hi,rfl⟩:=List.getElem?_eq_some_iff.1 hx
  have:xs.findIdx pr=i:=by
    rw [List.findIdx_eq hi]
    refine ⟨hp,fun j hj=>?_⟩
    exact h _ (List.mem_of_getElem? (i:=j) (by rw [List.getElem?_take_of_lt hj,List.getElem?_eq_getElem (by omega)]))
  rw [posC,this,if_pos hi]
theorem posC_none {xs:List Cl} {pr:Cl→Bool} (h:∀ y∈xs,pr y=false):posC xs pr = -1:=by
  rw [posC,if_neg]
  rw [List.findIdx_lt_length]
  rintro ⟨y,hy,hp⟩
  rw [h y hy] at hp;cases hp
theorem cidx_ok (p:Option Addr) (cap:Nat) (xs:List Cl) (hbig:xs.length≤1000000) (g:Nat) (hgc:tb.fns.contains g=true) (cb:List Value) (pr:Cl→Bool) (w:World) (hg:∀ x w1,Chg [] w w1→CallW Tryz.prog g ([.agg ⟨Cl.v x⟩]++cb) w1 fun v _=>v = .bool (pr x)) (hp:RdSl w p Cl.v xs) :
    CallW Tryz.prog 265 [.slice p xs.length cap,.func (.func g) #[] cb.toArray] w fun v _=>v = .int .i64 (posC xs pr):=by
  refine enterW (tb:=tb) Tryz.func265 rfl Tryz.ntmps265 rfl ?_
  repeat' (first|(apply R.is1;first|(apply R.isCall;(apply R.pure;exact rfl;(apply Ok1.lenS;(iterate 3 exact rfl))))|(apply R.pure;exact rfl;first|(apply Ok1.move;exact rfl)|(apply Ok1.assign;exact rfl)))|apply R.nil|(apply T.is;first|apply T.seq|apply T.region|apply T.block))
  apply T.loopK (α:=Nat) (I:=fun i=>i≤xs.length∧∀ x∈xs.take i,pr x=false) (σi:=fun i=>[(0,.slice p xs.length cap),(1,.func (.func g) #[] cb.toArray),(7,.int .i64 xs.length),(8,.int .i64 i)]) (Li:=fun _=>[]) (μ:=fun i=>xs.length - i) (i0:=0)
  · exact ⟨Nat.zero_le _,by simp⟩
  · exact ⟨rfl,rfl,rfl,rfl,trivial⟩
  · (focus ((repeat' (exact Keep.nil _));done))
  · intro i ⟨hi,hall⟩
    rcases Nat.lt_or_ge i xs.length with hlt|hge
    · obtain ⟨x,hx⟩:∃ x,xs[i]? = some x:=⟨_,List.getElem?_eq_getElem (by omega)⟩
      obtain ⟨bb,o,hpe,H⟩:=hp.at hx
      replace H:=H 4 Cl.v_len
      have hgx:=hg x
      cases hxi:pr x with
      | true =>
        simp only [hxi] at hgx
        repeat' (first|(apply R.is1;first|(apply R.isBin;(apply R.pure;exact rfl;(apply Ok1.lss_t;exact rfl;exact rfl;omega)))|(apply R.isCall;(apply R.callFV (fa:=[]) (cb:=cb) (vs:=[.agg ⟨x.v⟩]);exact rfl;exact hgc;exact rfl;exact rfl;intro w1 hw1;exact hgx w1 hw1.chg))|(apply R.pure;exact rfl;first|(apply Ok1.indexAddrP;(iterate 4 exact rfl);exact hpe;exact rfl;omega;omega)|(apply Ok1.load;exact rfl;apply Ld.rowk0 H;exact rfl;exact List.not_mem_nil;(iterate 3 exact rfl))|(apply Ok1.move;exact rfl)|(apply Ok1.assign;exact rfl)))|apply R.nil|(apply T.is;first|apply T.seq|apply T.region|apply T.block|apply T.skip|apply T.ret|(apply T.cond_t;exact rfl)))
        (apply RetOk.t;exact rfl)
        rw [posC_at hall hx hxi]
      | false =>
        simp only [hxi] at hgx
        repeat' (first|(apply R.is1;first|(apply R.isBin;(apply R.pure;exact rfl;first|(apply Ok1.add64;exact rfl;exact rfl;omega;omega)|(apply Ok1.lss_t;exact rfl;exact rfl;omega)))|(apply R.isCall;(apply R.callFV (fa:=[]) (cb:=cb) (vs:=[.agg ⟨x.v⟩]);exact rfl;exact hgc;exact rfl;exact rfl;intro w1 hw1;exact hgx w1 hw1.chg))|(apply R.pure;exact rfl;first|(apply Ok1.indexAddrP;(iterate 4 exact rfl);exact hpe;exact rfl;omega;omega)|(apply Ok1.load;exact rfl;apply Ld.rowk0 H;exact rfl;exact List.not_mem_nil;(iterate 3 exact rfl))|(apply Ok1.move;exact rfl)|(apply Ok1.assign;exact rfl)))|apply R.nil|(apply T.is;first|apply T.seq|apply T.region|apply T.block|apply T.skip|(apply T.cond_t;exact rfl)|(apply T.cond_f;exact rfl)))
        refine ⟨i+1,⟨by omega,?_⟩,by omega,⟨rfl,rfl,rfl,rfl,trivial⟩,by (focus ((repeat' (exact Keep.nil _));done))⟩
        intro y hy
        rw [List.take_add_one,hx] at hy
        rcases List.mem_append.1 hy with h|h
        · exact hall y h
        · simp only [Option.toList,List.mem_singleton] at h
          rw [h];exact hxi
    · have him:i=xs.length:=by omega
      subst him
      rw [List.take_length] at hall
      repeat' (first|(apply R.is1;first|(apply R.isBin;(apply R.pure;exact rfl;(apply Ok1.lss_f;exact rfl;exact rfl;omega)))|(apply R.pure;exact rfl;(apply Ok1.assign;exact rfl)))|apply R.nil|(apply T.is;first|apply T.seq|apply T.region|apply T.exit|apply T.ret|(apply T.cond_f;exact rfl)))
      (apply RetOk.t;exact rfl)
      rw [posC_none hall]
def cl0C:Cl:=⟨0,0,0,0⟩
theorem filt_noneC {xs:List Cl} {pr:Cl→Bool} (h:¬ xs.findIdx pr < xs.length):xs.filter (fun x=>!pr x)=xs:=by
  rw [List.filter_eq_self]
  intro x hx
  cases hp:pr x with
  | false=>rfl
  | true=>exact absurd (List.findIdx_lt_length.2 ⟨x,hx,hp⟩) h
theorem filt_preC {xs:List Cl} {pr:Cl→Bool}:(xs.take (xs.findIdx pr+1)).filter (fun x=>!pr x)=xs.take (xs.findIdx pr):=by
  rcases Nat.lt_or_ge (xs.findIdx pr) xs.length with h|h
  · rw [List.take_add_one,List.getElem?_eq_getElem h,List.filter_append]
    have h1:(xs.take (xs.findIdx pr)).filter (fun x=>!pr x)=xs.take (xs.findIdx pr):=by
      rw [List.filter_eq_self]
      intro x hx
      obtain ⟨i,hi,rfl⟩:=List.getElem_of_mem hx
      rw [List.getElem_take]
      rw [List.length_take] at hi
      have:=List.not_of_lt_findIdx (p:=pr) (xs:=xs) (i:=i) (by omega)
      simpa using this
    have h2:=List.findIdx_getElem (p:=pr) (xs:=xs) (w:=h)
    rw [h1]
    simp [h2]
  · rw [List.take_of_length_le (by omega),List.take_of_length_le h]
    exact filt_noneC (by omega)
theorem cdel_ok (ov:Ov) (xs:List Cl) (hov:OvOk 4 ov xs.length (fl Cl.v xs)) (hbig:xs.length≤1000000) (g:Nat) (hgc:tb.fns.contains g=true) (cb:List Value) (pr:Cl→Bool) (w:World) (hg:∀ x w1,Chg (blks (blkL 31 ov (fl Cl.v xs))) w w1→CallW Tryz.prog g ([.agg ⟨Cl.v x⟩]++cb) w1 fun v _=>v = .bool (pr x)) :
    CallM Tryz.prog 159 [slV ov xs.length,.func (.func g) #[] cb.toArray] (blkL 31 ov (fl Cl.v xs)) w fun v L=>∃ ov',OvOk 4 ov' (xs.filter (fun x=>!pr x)).length (fl Cl.v (xs.filter (fun x=>!pr x)))∧v=slV ov' (xs.filter (fun x=>!pr x)).length∧L=blkL 31 ov' (fl Cl.v (xs.filter (fun x=>!pr x))):=by
  have hidx:=fun w1 (hw1:Hp w (blks (blkL 31 ov (fl Cl.v xs))) (blkL 31 ov (fl Cl.v xs)) w1)=>cidx_ok (ovp ov) (ovc ov xs.length) xs hbig g hgc cb pr w1 (fun x w2 hc=>hg x w2 (hw1.chg.trans (hc.mono (by simp)))) (RdSl.own' hw1 (fun _ h=>h) hov Cl.v_len)
  rw [← slV_eq hov] at hidx
  by_cases hf:xs.findIdx pr < xs.length
  · have hpi:posC xs pr=((xs.findIdx pr:Nat):Int):=by rw [posC,if_pos hf]
    rw [hpi] at hidx
    have hpre:=filt_preC (xs:=xs) (pr:=pr)
    generalize hi0:xs.findIdx pr=i0 at *
    match ov,hov with
    | none,hov=>exact absurd hov.2 (by omega)
    | some (b,j,junk),hov =>
    have hjl:junk.length=j * 4:=hov.2
    refine enterK (tb:=tb) Tryz.func159 rfl Tryz.ntmps159 rfl ?_
    repeat' (first|(apply R.is1;first|(apply R.isBin;(apply R.pure;exact rfl;first|(apply Ok1.add64;exact rfl;exact rfl;omega;omega)|(apply Ok1.eql_f;exact rfl;exact rfl;omega)))|(apply R.isCall;(apply R.callV (vs:=[slV (some (b,j,junk)) xs.length,.func (.func g) #[] cb.toArray]);(iterate 3 exact rfl);intro w1 hw1;exact hidx w1 hw1))|(apply R.pure;exact rfl;first|(apply Ok1.move;exact rfl)|(apply Ok1.assign;exact rfl)))|apply R.nil|(apply T.is;first|apply T.seq|apply T.region|apply T.block|apply T.skip|(apply T.cond_f;exact rfl)))
    apply T.loopK (α:=Nat × Nat × List Cl) (I:=fun y=>y.1 < y.2.1∧y.2.1≤xs.length∧y.2.2.length=xs.length∧y.2.2.take y.1=(xs.take y.2.1).filter (fun x=>!pr x)∧y.2.2.drop y.2.1=xs.drop y.2.1)
      (σi:=fun y=>[(0,.slice (some ⟨b,0,none⟩) xs.length (xs.length+j)),(1,.func (.func g) #[] cb.toArray),(5,.int .i64 y.1),(6,.int .i64 y.2.1)]) (Li:=fun y=>[(b,.cells ⟨fl Cl.v y.2.2++junk⟩ 31 (0,0))]) (μ:=fun y=>xs.length - y.2.1) (i0:=(i0,i0+1,xs))
    · exact ⟨by simp,by simp only;omega,rfl,hpre.symm,rfl⟩
    · exact ⟨rfl,rfl,rfl,rfl,trivial⟩
    · (focus (repeat' first|exact Keep.nil _|exact Ext.one _ _|apply Keep.cons);done)
    · rintro ⟨i,k,cur⟩ ⟨hik,hkn,hcl,htk,hdk⟩
      simp only at hik hkn hcl htk hdk ⊢
      rcases Nat.lt_or_ge k xs.length with hlt|hge
      · obtain ⟨x,hx⟩:∃ x,xs[k]? = some x:=⟨_,List.getElem?_eq_getElem (by omega)⟩
        have hxc:cur[k]? = some x:=by
          have h1:(cur.drop k)[0]? = (xs.drop k)[0]?:=by rw [hdk]
          simpa [hx] using h1
        have hset:=setE_row (v:=Cl.v) Cl.v_len (l:=cur) (i:=i) (by omega) x junk
        have hd2:cur.drop (k+1)=xs.drop (k+1):=by
          have:=congrArg (List.drop 1) hdk
          simpa [List.drop_drop] using this
        have htk2:(cur.set i x).take (i+1)=cur.take i++[x]:=by
          rw [List.take_add_one,List.take_set_of_le (Nat.le_refl _),List.getElem?_set_self (by omega)]
          rfl
        have hgx:=fun w1 (hc:Chg [b] w w1)=>hg x w1 hc
        cases hpx:pr x with
        | true =>
          simp only [hpx] at hgx
          have hft:(xs.take (k+1)).filter (fun x=>!pr x)=(xs.take k).filter (fun x=>!pr x):=by
            rw [List.take_add_one,hx,List.filter_append]
            simp [hpx]
          repeat' (first|(apply R.is1;first|(apply R.isBin;(apply R.pure;exact rfl;first|(apply Ok1.add64;exact rfl;exact rfl;omega;omega)|(apply Ok1.lss_t;exact rfl;exact rfl;omega)))|(apply R.isCall;first|(apply R.callFV (fa:=[]) (cb:=cb) (vs:=[.agg ⟨x.v⟩]);exact rfl;exact hgc;exact rfl;exact rfl;intro w1 hw1;exact hgx w1 hw1.chg)|(apply R.pure;exact rfl;(apply Ok1.lenS;(iterate 3 exact rfl))))|(apply R.pure;exact rfl;first|(apply Ok1.indexAddr;(iterate 5 exact rfl);omega;omega)|(apply Ok1.load;exact rfl;first|(apply Ld.ownrowk (f:=0);(focus (repeat' first|exact At.head|apply At.tail);done);exact Cl.v_len;exact hxc;(focus ((simp;done)));(iterate 3 exact rfl))|(apply Ld.ownk;exact rfl;exact rfl;exact At.head;exact rfl))|(apply Ok1.move;exact rfl)|(apply Ok1.assign;exact rfl)|(apply Ok1.not_t;exact rfl))|(apply R.alloc;(iterate 3 exact rfl);intro))|(apply R.is0;(apply R.store;(iterate 6 exact rfl);exact Upd.head;exact rfl))|apply R.nil|(apply T.is;first|apply T.seq|apply T.region|apply T.block|apply T.skip|(apply T.cond_t;exact rfl)|(apply T.cond_f;exact rfl)))
          exact ⟨(i,k+1,cur),⟨by simp only;omega,by simp only;omega,hcl,by simp only;rw [hft];exact htk,hd2⟩,by simp only;omega,⟨rfl,rfl,rfl,rfl,trivial⟩,by (focus (repeat' first|exact Keep.nil _|exact Ext.one _ _|apply Keep.cons|apply Ext.cons);done)⟩
        | false =>
          simp only [hpx] at hgx
          have hft:(xs.take (k+1)).filter (fun x=>!pr x)=(xs.take k).filter (fun x=>!pr x)++[x]:=by
            rw [List.take_add_one,hx,List.filter_append]
            simp [hpx]
          repeat' (first|(apply R.is1;first|(apply R.isBin;(apply R.pure;exact rfl;first|(apply Ok1.add64;exact rfl;exact rfl;omega;omega)|(apply Ok1.lss_t;exact rfl;exact rfl;omega)))|(apply R.isCall;first|(apply R.callFV (fa:=[]) (cb:=cb) (vs:=[.agg ⟨x.v⟩]);exact rfl;exact hgc;exact rfl;exact rfl;intro w1 hw1;exact hgx w1 hw1.chg)|(apply R.pure;exact rfl;(apply Ok1.lenS;(iterate 3 exact rfl))))|(apply R.pure;exact rfl;first|(apply Ok1.indexAddr;(iterate 5 exact rfl);omega;omega)|(apply Ok1.load;exact rfl;first|(apply Ld.ownrowk (f:=0);(focus (repeat' first|exact At.head|apply At.tail);done);exact Cl.v_len;exact hxc;(focus ((simp;done)));(iterate 3 exact rfl))|(apply Ld.ownk;exact rfl;exact rfl;exact At.head;exact rfl))|(apply Ok1.move;exact rfl)|(apply Ok1.assign;exact rfl)|(apply Ok1.not_f;exact rfl))|(apply R.alloc;(iterate 3 exact rfl);intro))|(apply R.is0;first|(apply R.store;(iterate 5 exact rfl);exact (rfl:(Cl.v x).all Value.oneCell'=true);(focus (repeat' first|exact Upd.head|apply Upd.tail);done);exact hset)|(apply R.store;(iterate 6 exact rfl);exact Upd.head;exact rfl))|apply R.nil|(apply T.is;first|apply T.seq|apply T.region|apply T.block|apply T.skip|(apply T.cond_t;exact rfl)))
          exact ⟨(i+1,k+1,cur.set i x),⟨by simp only;omega,by simp only;omega,by simp only;rw [List.length_set];exact hcl,by simp only;rw [hft,htk2,htk],by simp only;rw [List.drop_set_of_lt (by omega)];exact hd2⟩,by simp only;omega,⟨rfl,rfl,rfl,rfl,trivial⟩,by (focus (repeat' first|exact Keep.nil _|exact Ext.one _ _|apply Keep.cons|apply Ext.cons);done)⟩
      · have hkn':k=xs.length:=by omega
        subst hkn'
        rw [List.take_length] at htk
        have hfl:(xs.filter fun x=>!pr x).length=i:=by rw [← htk,List.length_take];omega
        have hflen:(fl Cl.v (cur.drop i)).length=(xs.length - i) * 4:=by rw [fl_len Cl.v_len,List.length_drop,hcl]
        have hcells:fl Cl.v cur++junk=fl Cl.v (cur.take i)++(fl Cl.v (cur.drop i)++junk):=by
          rw [← List.append_assoc,← fl_app,List.take_append_drop]
        have hzl:(List.replicate (xs.length - i) (Cl.v cl0C)).flatten.length=(xs.length - i) * 4:=by simp [Cl.v_len]
        have hclr:setE (fl Cl.v cur++junk) (i * 4) (List.replicate (xs.length - i) (Cl.v cl0C)).flatten=some (fl Cl.v (cur.take i)++((List.replicate (xs.length - i) (Cl.v cl0C)).flatten++junk)):=by
          rw [hcells]
          have h1:=setE_mid (fl Cl.v (cur.take i)) (vs:=(List.replicate (xs.length - i) (Cl.v cl0C)).flatten) (junk:=fl Cl.v (cur.drop i)++junk) (by rw [hzl,List.length_append,hflen];omega)
          rw [show (fl Cl.v (cur.take i)).length=i * 4 by rw [fl_len Cl.v_len,List.length_take];congr 1;omega] at h1
          rw [h1,hzl,← hflen,List.drop_left,List.append_assoc]
        repeat' (first|(apply R.is1;first|(apply R.isBin;(apply R.pure;exact rfl;(apply Ok1.lss_f;exact rfl;exact rfl;omega)))|(apply R.isCall;(apply R.pure;exact rfl;(apply Ok1.lenS;(iterate 3 exact rfl))))|(apply R.pure;exact rfl;first|(apply Ok1.sufB (sz:=4);(iterate 6 exact rfl);omega;omega;omega)|(apply Ok1.preB;(iterate 5 exact rfl);omega)|(apply Ok1.move;exact rfl)|(apply Ok1.assign;exact rfl)))|(apply R.is0;(apply R.clearG (zc:=Cl.v cl0C) (n:=xs.length - i);(iterate 4 exact rfl);exact (by decide);exact rfl;exact rfl;omega;exact Upd.head;exact hclr))|apply R.nil|(apply T.is;first|apply T.seq|apply T.region|apply T.exit|apply T.ret|(apply T.cond_f;exact rfl)))
        (apply RetOk.t;exact rfl)
        refine ⟨_,?_,some (b,j+(xs.length - i),(List.replicate (xs.length - i) (Cl.v cl0C)).flatten++junk),⟨?_,?_⟩,?_,rfl⟩
        · rw [← htk]
          (focus (repeat' first|exact Keep.nil _|exact Ext.one _ _|apply Keep.cons);done)
        · rw [fl_len Cl.v_len]
        · show _=_
          rw [List.length_append,hzl,hjl,Nat.add_mul];omega
        · rw [hfl]
          show Value.slice _ _ _=Value.slice _ _ _
          rw [show i+(j+(xs.length - i))=xs.length+j by omega]
  · have hpi:posC xs pr = -1:=by rw [posC,if_neg hf]
    rw [hpi] at hidx
    rw [filt_noneC hf]
    have hbb:blks (blkL 31 ov (fl Cl.v xs))=blks (blkL 31 ov (fl Cl.v xs)):=rfl
    refine enterK (tb:=tb) Tryz.func159 rfl Tryz.ntmps159 rfl ?_
    repeat' (first|(apply R.is1;first|(apply R.isBin;(apply R.pure;exact rfl;(apply Ok1.eql_t;exact rfl;exact rfl;omega)))|(apply R.isCall;(apply R.callV (vs:=[slV ov xs.length,.func (.func g) #[] cb.toArray]);(iterate 3 exact rfl);intro w1 hw1;exact hidx w1 hw1))|(apply R.pure;exact rfl;first|(apply Ok1.move;exact rfl)|(apply Ok1.assign;exact rfl)))|apply R.nil|(apply T.is;first|apply T.seq|apply T.region|apply T.ret|(apply T.cond_t;exact rfl)))
    (apply RetOk.t;exact rfl)
    exact ⟨_,by (focus (repeat' first|exact Ext.all _|apply Keep.last);done),ov,hov,rfl,rfl⟩

theorem cindex_ok (p:Option Addr) (cap:Nat) (xs:List Cl) (hbig:xs.length≤1000000) (c:Cl) (w:World) (hp:RdSl w p Cl.v xs) :
    CallW Tryz.prog 266 [.slice p xs.length cap,kvC c] w fun v _=>v = .int .i64 (posC xs fun x=>decide (c=x)):=by
  refine enterW (tb:=tb) Tryz.func266 rfl Tryz.ntmps266 rfl ?_
  simp only [kvC]
  repeat' (first|(apply R.is1;first|(apply R.isCall;(apply R.pure;exact rfl;(apply Ok1.lenS;(iterate 3 exact rfl))))|(apply R.pure;exact rfl;first|(apply Ok1.move;exact rfl)|(apply Ok1.assign;exact rfl))|(apply R.box;(iterate 3 exact rfl);intro))|apply R.nil|(apply T.is;first|apply T.seq|apply T.region|apply T.block))
  rename_i bc
  apply T.loopK (α:=Nat) (I:=fun i=>i≤xs.length∧∀ x∈xs.take i,(decide (c=x))=false) (σi:=fun i=>[(0,.slice p xs.length cap),(3,.pointer (some ⟨bc,0,none⟩)),(7,.int .i64 xs.length),(8,.int .i64 i)]) (Li:=fun _=>[(bc,.cells ⟨[.int .i64 c.id,.int .i64 c.roles,.int .i64 c.exp,.int .i64 c.ser]⟩ 31 (0,0))]) (μ:=fun i=>xs.length - i) (i0:=0)
  · exact ⟨Nat.zero_le _,by simp⟩
  · exact ⟨rfl,rfl,rfl,rfl,trivial⟩
  · (focus (repeat' first|exact Keep.nil _|exact Ext.one _ _|apply Keep.cons);done)
  · intro i ⟨hi,hall⟩
    rcases Nat.lt_or_ge i xs.length with hlt|hge
    · obtain ⟨x,hx⟩:∃ x,xs[i]? = some x:=⟨_,List.getElem?_eq_getElem (by omega)⟩
      obtain ⟨bb,o,hpe,H⟩:=hp.at hx
      replace H:=H 4 Cl.v_len
      repeat' (first|(apply R.is1;first|(apply R.isBin;(apply R.pure;exact rfl;first|(apply Ok1.add64;exact rfl;exact rfl;omega;omega)|(apply Ok1.lss_t;exact rfl;exact rfl;omega)))|(apply R.pure;exact rfl;first|(apply Ok1.move;exact rfl)|(apply Ok1.assign;exact rfl)))|apply R.nil|(apply T.is;first|(apply T.drawC (id:=4) [0] (by decide);((apply A.tk 0;exact rfl;kernel_rfl;(apply Ok1.load;exact rfl;(apply Ld.ownk;exact rfl;exact rfl;exact At.head;exact rfl)))<;>(apply A.tk 1;exact rfl;kernel_rfl;(apply Ok1.move;exact rfl))<;>(apply A.tk 2;exact rfl;kernel_rfl;(apply Ok1.move;exact rfl))<;>(apply A.tk 3;exact rfl;kernel_rfl;(apply Ok1.indexAddrP;(iterate 4 exact rfl);exact hpe;exact rfl;omega;omega))<;>(apply A.tk 4;exact rfl;kernel_rfl;(apply Ok1.load;exact rfl;apply Ld.rowk0 H;exact rfl;exact List.not_mem_nil;(iterate 3 exact rfl)))<;>((apply A.tk 5;exact rfl;kernel_rfl;((apply Ok1.eqlF;(iterate 7 exact rfl)));apply A.dec (t:=16);exact rfl;all_goals intro))<;>(apply A.done;kernel_rfl)))|apply T.seq|apply T.region|apply T.block|apply T.skip|apply T.ret|(apply T.cond_t;exact rfl)|(apply T.cond_f;exact rfl)))
      · have hc:c=x:=clvinjK.1 ‹_›
        (apply RetOk.t;exact rfl)
        rw [posC_at hall hx (decide_eq_true hc)]
      · have hc:c≠x:=fun h=>absurd (clvinjK.2 h) ‹_›
        refine ⟨i+1,⟨by omega,?_⟩,by omega,⟨rfl,rfl,rfl,rfl,trivial⟩,by (focus (repeat' first|exact Keep.nil _|exact Ext.one _ _|apply Keep.cons);done)⟩
        intro y hy
        rw [List.take_add_one,hx] at hy
        rcases List.mem_append.1 hy with h|h
        · exact hall y h
        · simp only [Option.toList,List.mem_singleton] at h
          rw [h];exact decide_eq_false hc
    · have him:i=xs.length:=by omega
      subst him
      rw [List.take_length] at hall
      repeat' (first|(apply R.is1;first|(apply R.isBin;(apply R.pure;exact rfl;(apply Ok1.lss_f;exact rfl;exact rfl;omega)))|(apply R.pure;exact rfl;(apply Ok1.assign;exact rfl)))|apply R.nil|(apply T.is;first|apply T.seq|apply T.region|apply T.exit|apply T.ret|(apply T.cond_f;exact rfl)))
      (apply RetOk.t;exact rfl)
      rw [posC_none hall]
theorem ccont_ok (p:Option Addr) (cap:Nat) (xs:List Cl) (hbig:xs.length≤1000000) (c:Cl) (w:World) (hp:RdSl w p Cl.v xs) :
    CallW Tryz.prog 161 [.slice p xs.length cap,kvC c] w fun v _=>v = .bool (decide (c∈xs)):=by
  have hix:=fun w1 (hc:Chg [] w w1)=>cindex_ok p cap xs hbig c w1 (hp.chg hc (Off.nil _))
  simp only [kvC] at hix ⊢
  by_cases hm:c∈xs
  · have hps:0≤posC xs (fun x=>decide (c=x)):=by
      rw [posC,if_pos (List.findIdx_lt_length.2 ⟨c,hm,decide_eq_true rfl⟩)];omega
    have hle:posC xs (fun x=>decide (c=x))≤1000000:=by
      unfold posC;split<;>omega
    generalize posC xs (fun x=>decide (c=x))=P at *
    rw [decide_eq_true hm]
    refine enterW (tb:=tb) Tryz.func161 rfl Tryz.ntmps161 rfl ?_
    repeat' (first|(apply R.is1;first|(apply R.isBin;(apply R.pure;exact rfl;(apply Ok1.geq_t;exact rfl;exact rfl;omega)))|(apply R.isCall;(apply R.callV (vs:=[.slice p xs.length cap,.agg ⟨_⟩]);(iterate 3 exact rfl);intro w1 hw1;exact hix w1 hw1.chg))|(apply R.pure;exact rfl;first|(apply Ok1.load;exact rfl;(apply Ld.ownk;exact rfl;exact rfl;exact At.head;exact rfl))|(apply Ok1.move;exact rfl)|(apply Ok1.assign;exact rfl))|(apply R.box;(iterate 3 exact rfl);intro))|apply R.nil|(apply T.is;first|apply T.seq|apply T.region|apply T.ret))
    all_goals skip
    (apply RetOk.t;exact rfl)
    rfl
  · have hps:posC xs (fun x=>decide (c=x)) = -1:=posC_none fun y hy=>decide_eq_false fun e=>hm (e ▸ hy)
    simp only [hps] at hix
    rw [decide_eq_false hm]
    refine enterW (tb:=tb) Tryz.func161 rfl Tryz.ntmps161 rfl ?_
    repeat' (first|(apply R.is1;first|(apply R.isBin;(apply R.pure;exact rfl;(apply Ok1.geq_f;exact rfl;exact rfl;omega)))|(apply R.isCall;(apply R.callV (vs:=[.slice p xs.length cap,.agg ⟨_⟩]);(iterate 3 exact rfl);intro w1 hw1;exact hix w1 hw1.chg))|(apply R.pure;exact rfl;first|(apply Ok1.load;exact rfl;(apply Ld.ownk;exact rfl;exact rfl;exact At.head;exact rfl))|(apply Ok1.move;exact rfl)|(apply Ok1.assign;exact rfl))|(apply R.box;(iterate 3 exact rfl);intro))|apply R.nil|(apply T.is;first|apply T.seq|apply T.region|apply T.ret))
    (apply RetOk.t;exact rfl)
    rfl
def dropM (cs:List Cl) (ms:Ms Cl Nat):Ms Cl Nat:=ms.filter fun x=>decide (x.1 ∉ cs)
theorem mdel_filt {κ α:Type} [DecidableEq κ] (k:κ):∀ {ms:Ms κ α},(mkeys ms).Nodup→mdel k ms=ms.filter fun x=>decide (x.1≠k)
  | [],_=>rfl
  | x :: r,h=>by
    simp only [mkeys,List.map_cons,List.nodup_cons] at h
    by_cases hx:x.1=k
    · simp only [mdel,hx,if_true,List.filter_cons,ne_eq,not_true_eq_false,decide_false,Bool.false_eq_true,if_false]
      rw [List.filter_eq_self.2]
      intro y hy
      refine decide_eq_true fun e=>h.1 ?_
      rw [hx,← e]
      exact List.mem_map_of_mem hy
    · simp only [mdel,hx,if_false,List.filter_cons,ne_eq,not_false_eq_true,decide_true,if_true]
      rw [mdel_filt k h.2]
theorem dropM_nil (ms:Ms Cl Nat):dropM [] ms=ms:=by simp [dropM]
theorem dropM_snoc {ms:Ms Cl Nat} (h:(mkeys ms).Nodup) (cs:List Cl) (c:Cl):mdel c (dropM cs ms)=dropM (cs++[c]) ms:=by
  rw [mdel_filt]
  · unfold dropM
    rw [List.filter_filter]
    congr 1
    funext x
    simp only [ne_eq,List.mem_append,List.mem_singleton,not_or,Bool.decide_and,Bool.and_comm]
  · exact (List.Sublist.map _ List.filter_sublist).nodup h
theorem dropM_le (cs:List Cl) (ms:Ms Cl Nat):(dropM cs ms).length≤ms.length:=List.length_filter_le ..
section
variable (b bm:Nat) (ms:Ms Cl Nat) (clk:Nat)
theorem dropC_ok (hnd:(mkeys ms).Nodup) (hl:ms.length≤1000) (p:Option Addr) (cap:Nat) (cs:List Cl) (hcs:cs.length≤1000) (w:World) (hp:RdSl w p Cl.v cs) (hq:cs≠[]→Off p [b,bm]) :
    CallM Tryz.prog 94 [.pointer (some ⟨b,0,none⟩),.slice p cs.length cap] (B2L b bm ms clk) w fun v L=>v = .int .i64 ((ms.length:Int) - (dropM cs ms).length)∧L=B2L b bm (dropM cs ms) clk:=by
  have hln:=fun ms w1=>lenC_ok b bm ms clk w1
  refine enterK (tb:=tb) Tryz.func94 rfl Tryz.ntmps94 rfl ?_
  simp only [B2L] at hln ⊢
  repeat' (first|(apply R.is1;first|(apply R.isCall;first|(apply R.callE (Li:=[(b,.cells ⟨[.map (some bm)]⟩ 200 (0,0)),(bm,mobj kvC vvP ms clk)]) (vs:=[.pointer (some ⟨b,0,none⟩)]);(iterate 3 exact rfl);(focus ((repeat' (exact Ext.all _));done));intro w1 hw1;exact hln ms w1;rintro v Lo ⟨rfl,rfl⟩;simp only [List.cons_append,List.nil_append])|(apply R.pure;exact rfl;(apply Ok1.lenS;(iterate 3 exact rfl))))|(apply R.pure;exact rfl;first|(apply Ok1.move;exact rfl)|(apply Ok1.assign;exact rfl)))|apply R.nil|(apply T.is;first|apply T.seq|apply T.region|apply T.block))
  apply T.loopK (α:=Nat) (I:=fun i=>i≤cs.length) (σi:=fun i=>[(0,.pointer (some ⟨b,0,none⟩)),(5,.int .i64 ms.length),(10,.slice p cs.length cap),(11,.int .i64 cs.length),(12,.int .i64 i)]) (Li:=fun i=>[(b,.cells ⟨[.map (some bm)]⟩ 200 (0,0)),(bm,mobj kvC vvP (dropM (cs.take i) ms) clk)]) (μ:=fun i=>cs.length - i) (i0:=0)
  · exact Nat.zero_le _
  · exact ⟨rfl,rfl,rfl,rfl,rfl,trivial⟩
  · rw [List.take_zero,dropM_nil];(focus (repeat' first|exact Keep.nil _|exact Ext.one _ _|apply Keep.cons);done)
  intro i hi
  rcases Nat.lt_or_ge i cs.length with hlt|hge
  · obtain ⟨c,hc⟩:∃ c,cs[i]? = some c:=⟨_,List.getElem?_eq_getElem hlt⟩
    obtain ⟨bb,o,hpe,H⟩:=hp.at hc
    replace H:=H 4 Cl.v_len
    have hS:bb ∉ [b,bm]:=hq (fun e=>by rw [e] at hlt;simp at hlt) _ hpe
    have hsn:=dropM_snoc hnd (cs.take i) c
    have htk:cs.take (i+1)=cs.take i++[c]:=by rw [List.take_add_one,hc];rfl
    rw [← htk] at hsn
    repeat' (first|(apply R.is1;first|(apply R.isBin;(apply R.pure;exact rfl;first|(apply Ok1.neqP;(iterate 5 exact rfl))|(apply Ok1.add64;exact rfl;exact rfl;omega;omega)|(apply Ok1.lss_t;exact rfl;exact rfl;omega)))|(apply R.pure;exact rfl;first|(apply Ok1.indexAddrP;(iterate 4 exact rfl);exact hpe;exact rfl;omega;omega)|(apply Ok1.load;exact rfl;(apply Ld.rowk0 H;exact rfl;exact hS;(iterate 3 exact rfl)))|(apply Ok1.move;exact rfl))|(apply R.alloc;(iterate 3 exact rfl);intro))|(apply R.is0;(apply R.store;(iterate 6 exact rfl);exact Upd.head;exact rfl))|apply R.nil|(apply T.is;first|(apply T.drawC (id:=6) [0,1] (by decide);((apply A.tk 0;exact rfl;kernel_rfl;(apply Ok1.move;exact rfl))<;>(apply A.tk 1;exact rfl;kernel_rfl;(apply Ok1.nilCheck;exact rfl))<;>(apply A.tk 2;exact rfl;kernel_rfl;(apply Ok1.fieldAddr;(iterate 5 exact rfl)))<;>(apply A.tk 3;exact rfl;kernel_rfl;(apply Ok1.load;exact rfl;(apply Ld.own1;exact rfl;exact rfl;(focus (repeat' first|exact At.head|apply At.tail);done);exact rfl)))<;>(apply A.tk 4;exact rfl;kernel_rfl;(apply Ok1.load;exact rfl;(apply Ld.ownk;exact rfl;exact rfl;exact At.head;exact rfl)))<;>(apply A.one 5;kernel_rfl;exact rfl;(((apply R.mapDel (vd:=none) (kv:=kvC) (vv:=vvP) c ktK;(iterate 5 exact rfl);(focus (repeat' first|exact Upd.head|apply Upd.tail);done))));apply R.nil;refine ⟨?_,?_⟩;(focus (repeat' first|exact trivial|exact At.head|apply At.tail|refine ⟨?_,?_⟩)))<;>(apply A.done;kernel_rfl)))|apply T.seq|apply T.region|apply T.block|apply T.skip|(apply T.cond_t;exact rfl)))
    all_goals refine ⟨i+1,by omega,by omega,⟨rfl,rfl,rfl,rfl,rfl,trivial⟩,?_⟩
    all_goals rw [← hsn]
    all_goals (focus (repeat' first|exact Keep.nil _|exact Ext.one _ _|apply Keep.cons|apply Ext.cons);done)
  · have him:i=cs.length:=by omega
    subst him
    rw [List.take_of_length_le (Nat.le_refl _)]
    have hle:=dropM_le cs ms
    repeat' (first|(apply R.is1;first|(apply R.isBin;(apply R.pure;exact rfl;first|(apply Ok1.sub64;exact rfl;exact rfl;omega;omega)|(apply Ok1.lss_f;exact rfl;exact rfl;omega)))|(apply R.isCall;(apply R.callE (Li:=[(b,.cells ⟨[.map (some bm)]⟩ 200 (0,0)),(bm,mobj kvC vvP (dropM cs ms) clk)]) (vs:=[.pointer (some ⟨b,0,none⟩)]);(iterate 3 exact rfl);(focus ((repeat' (exact Ext.all _));done));intro w1 hw1;exact hln (dropM cs ms) w1;rintro v Lo ⟨rfl,rfl⟩;simp only [List.cons_append,List.nil_append]))|(apply R.pure;exact rfl;first|(apply Ok1.move;exact rfl)|(apply Ok1.assign;exact rfl)))|apply R.nil|(apply T.is;first|apply T.seq|apply T.region|apply T.exit|apply T.ret|(apply T.cond_f;exact rfl)))
    (apply RetOk.t;exact rfl)
    exact ⟨_,by (focus (repeat' first|exact Keep.nil _|exact Ext.one _ _|apply Keep.cons);done),rfl,rfl⟩
end
end Go.Proofs.YtcfdgnajepilbaaGreat
set_option linter.unusedSimpArgs false
set_option linter.unusedVariables false
namespace Go.Proofs.YtcfdgnajepilbaaGreat
open Go.RowKit Go.Shelf Go.Sort
set_option maxRecDepth 100000
theorem keepC_perm:∀ {L' L r:Lst},(L'++r).Perm L→Keep L L'
  | [],L,r,_=>.nil L
  | x :: R,L,r,h=>by
    have hx:x∈L:=h.subset (by simp)
    obtain ⟨A,B,rfl⟩:=List.append_of_mem hx
    refine .cons (L1:=A++B) (.app A (.one x B)) (keepC_perm (r:=r) ?_)
    have h2:(x::(R++r)).Perm (x::(A++B)):=by
      rw [← List.cons_append]
      exact h.trans List.perm_middle
    exact h2.cons_inv
theorem keepC_sub {A B:Lst} (h:A.Sublist B):Keep B A:=by
  obtain ⟨r,hr⟩:=h.exists_perm_append
  exact keepC_perm (r:=r) hr.symm
theorem bms_keys (es:BS):mkeys (bms es)=es.map BE.c:=by simp [mkeys,bms]
theorem es_one {es:BS} (hnd:(es.map BE.c).Nodup) {x y:BE} (hx:x∈es) (hy:y∈es) (h:x.c=y.c):x=y:=by
  obtain ⟨i,hi,rfl⟩:=List.mem_iff_getElem.1 hx
  obtain ⟨j,hj,rfl⟩:=List.mem_iff_getElem.1 hy
  have:=(List.getElem_inj (xs:=es.map BE.c) (i:=i) (j:=j) (h₀:=by simpa using hi) (h₁:=by simpa using hj) hnd).1 (by simpa using h)
  subst this
  rfl
/-- The claims of those entries of which q says yes,sorted. -/
def ResC (q:En→Bool) (b bm:Nat) (es:BS) (clk:Nat) (v:Value) (L:Lst):Prop:=∃ ov cs,cs.Perm ((es.filter fun x=>q x.e).map BE.c)∧Asc cmpCl cs∧OvOk 4 ov cs.length (fl Cl.v cs)∧v=slV ov cs.length∧L=blkL 31 ov (fl Cl.v cs)++BL b bm es clk
section
variable (b bm:Nat) (es:BS) (clk:Nat) (hwf:MWf (bms es,clk)) (hlen:es.length≤1000)
theorem allB_ok (hwf:MWf (bms es,clk)) (hlen:es.length≤1000) (f:FuncId) (cb:List Value) (hf:tb.fns.contains f=true) (q:En→Bool) (w:World)
    (hcall:∀ x∈es,∀ W,Hp w (blks (BL b bm es clk)) (BL b bm es clk) W→CallW Tryz.prog f ([vvP x.blk]++cb) W fun v _=>v = .bool (q x.e)) :
    CallM Tryz.prog 111 [.pointer (some ⟨b,0,none⟩),.func (.func f) #[] cb.toArray] (BL b bm es clk) w (ResC q b bm es clk):=by
  have hnd:(es.map BE.c).Nodup:=by have:=hwf.keys;rwa [bms_keys] at this
  obtain ⟨Q,hQ⟩:∃ Q:Cl × Nat × Nat→Bool,∀ x∈es,Q (x.c,x.blk,x.born)=q x.e:=by
    refine ⟨fun m=>es.any fun x=>decide (x.c=m.1) && q x.e,fun x hx=>?_⟩
    cases hq:q x.e with
    | true=>exact List.any_eq_true.2 ⟨x,hx,by simp [hq]⟩
    | false =>
      rw [List.any_eq_false]
      intro y hy
      simp only [Bool.and_eq_true,decide_eq_true_eq,not_and]
      intro hc
      rw [es_one hnd hy hx hc,hq]
      exact Bool.false_ne_true
  have hfl:((bms es).filter Q).map (·.1)=(es.filter fun x=>q x.e).map BE.c:=by
    unfold bms
    rw [List.filter_map,List.map_map]
    have:es.filter (Q ∘ fun x=>(x.c,x.blk,x.born))=es.filter fun x=>q x.e:=List.filter_congr fun x hx=>hQ x hx
    rw [this]
    rfl
  refine (ball_ok b bm es clk hwf hlen f cb hf Q w ?_).imp ?_
  · intro m hm W hW
    obtain ⟨x,hx,rfl⟩:=bms_mem hm
    rw [hQ x hx]
    exact hcall x hx W hW
  · rintro v L ⟨ov,cs,h1,h2,h3,h4,h5⟩
    exact ⟨ov,cs,by rw [← hfl];exact h1,h2,h3,h4,h5⟩
theorem known1C_ok (a:Nat) (x:En) (fz:Nat × Nat) (w:World) (hb:w.heap[a]? = some (.cells ⟨x.v⟩ 196 fz)):CallW Tryz.prog 193 [vvP a] w fun v _=>v = .bool x.key.isSome:=by
  obtain ⟨wb,wc,bits,key,asked⟩:=x
  simp only [vvP]
  simp only [En.v] at hb
  refine enterW (tb:=tb) Tryz.func193 rfl Tryz.ntmps193 rfl ?_
  cases key with
  | none =>
    repeat' (first|(apply R.is1;first|(apply R.isBin;(apply R.pure;exact rfl;(apply Ok1.neqP;(iterate 5 exact rfl))))|(apply R.pure;exact rfl;first|(apply Ok1.move;exact rfl)|(apply Ok1.fieldAddr;(iterate 5 exact rfl))|(apply Ok1.load;exact rfl;(apply Ld.blk1;exact rfl;exact rfl;assumption;(exact List.not_mem_nil);exact rfl))|(apply Ok1.assign;exact rfl)|(apply Ok1.nilCheck;exact rfl)))|apply R.nil|(apply T.is;first|apply T.seq|apply T.region|apply T.ret))
    (apply RetOk.t;exact rfl)
    rfl
  | some k =>
    repeat' (first|(apply R.is1;first|(apply R.isBin;(apply R.pure;exact rfl;(apply Ok1.neqP;(iterate 5 exact rfl))))|(apply R.pure;exact rfl;first|(apply Ok1.move;exact rfl)|(apply Ok1.fieldAddr;(iterate 5 exact rfl))|(apply Ok1.load;exact rfl;(apply Ld.blk1;exact rfl;exact rfl;assumption;(exact List.not_mem_nil);exact rfl))|(apply Ok1.assign;exact rfl)|(apply Ok1.nilCheck;exact rfl)))|apply R.nil|(apply T.is;first|apply T.seq|apply T.region|apply T.ret))
    (apply RetOk.t;exact rfl)
    rfl
theorem knownB_ok (hwf:MWf (bms es,clk)) (hlen:es.length≤1000) (w:World):CallM Tryz.prog 98 [.pointer (some ⟨b,0,none⟩)] (BL b bm es clk) w (ResC (fun x=>x.key.isSome) b bm es clk):=by
  refine enterK (tb:=tb) Tryz.func98 rfl Tryz.ntmps98 rfl ?_
  repeat' (first|(apply R.is1;first|(apply R.isCall;(apply R.callE;(iterate 3 exact rfl);exact Ext.all _;intro w1 hw1;exact allB_ok b bm es clk hwf hlen _ [] rfl (fun x=>x.key.isSome) w1 (fun x hx W hW=>known1C_ok x.blk x.e (0,0) W (hW.get _ _ (BL_mem hx)));rintro v Lo ⟨ov,cs,h1,h2,h3,rfl,rfl⟩))|(apply R.pure;exact rfl;first|(apply Ok1.move;exact rfl)|(apply Ok1.assign;exact rfl)))|apply R.nil|(apply T.is;first|apply T.seq|apply T.region|apply T.ret))
  (apply RetOk.t;exact rfl)
  exact ⟨_,Keep.last (.here _ _),ov,cs,h1,h2,h3,rfl,rfl⟩
theorem wantedB_ok (hwf:MWf (bms es,clk)) (hlen:es.length≤1000) (w:World):CallM Tryz.prog 99 [.pointer (some ⟨b,0,none⟩)] (BL b bm es clk) w (ResC (fun x=>x.key.isNone) b bm es clk):=by
  refine enterK (tb:=tb) Tryz.func99 rfl Tryz.ntmps99 rfl ?_
  repeat' (first|(apply R.is1;first|(apply R.isCall;(apply R.callE;(iterate 3 exact rfl);exact Ext.all _;intro w1 hw1;exact allB_ok b bm es clk hwf hlen _ [] rfl (fun x=>x.key.isNone) w1 (fun x hx W hW=>wanted1_ok x.blk x.e (0,0) W (hW.get _ _ (BL_mem hx)));rintro v Lo ⟨ov,cs,h1,h2,h3,rfl,rfl⟩))|(apply R.pure;exact rfl;first|(apply Ok1.move;exact rfl)|(apply Ok1.assign;exact rfl)))|apply R.nil|(apply T.is;first|apply T.seq|apply T.region|apply T.ret))
  (apply RetOk.t;exact rfl)
  exact ⟨_,Keep.last (.here _ _),ov,cs,h1,h2,h3,rfl,rfl⟩
end
end Go.Proofs.YtcfdgnajepilbaaGreat
set_option linter.unusedSimpArgs false
set_option linter.unusedVariables false
namespace Go.Proofs.YtcfdgnajepilbaaGreat
open Go.RowKit Go.Shelf Go.Sort
set_option maxRecDepth 100000
theorem Keep.transC {A B C:Lst} (h1:Keep A B) (h2:Keep B C):Keep A C:=by
  obtain ⟨r1,p1⟩:=h1.perm
  obtain ⟨r2,p2⟩:=h2.perm
  refine keepC_perm (r:=r2++r1) ?_
  rw [← List.append_assoc]
  exact (p2.append_right r1).trans p1
section
variable (b bm:Nat) (es:BS) (clk:Nat)
end
theorem only1_ok (a:Nat):CallP Tryz.prog 158 [vvP a] (.bool true):=by
  refine enterP (tb:=tb) Tryz.func158 rfl Tryz.ntmps158 rfl fun w=>?_
  simp only [vvP]
  repeat' (first|(apply R.is1;(apply R.pure;exact rfl;(apply Ok1.assign;exact rfl)))|apply R.nil|(apply T.is;first|apply T.seq|apply T.region|apply T.ret))
  (apply RetOk.t;exact rfl)
  rfl
theorem only2_ok (bt:Nat) (p:Option Addr) (cap:Nat) (os:List Cl) (hbig:os.length≤1000000) (c:Cl) (e:TypeId) (w:World) (hb:w.heap[bt]? = some (.cells ⟨[.slice p os.length cap]⟩ e (0,0))) (hp:RdSl w p Cl.v os) :
    CallW Tryz.prog 160 [.agg ⟨Cl.v c⟩,.pointer (some ⟨bt,0,none⟩)] w fun v _=>v = .bool (decide (c∈os)):=by
  have hct:=fun w1 (hc:Chg [] w w1)=>ccont_ok p cap os hbig c w1 (hp.chg hc (Off.nil _))
  have hv:Cl.v c=[.int .i64 c.id,.int .i64 c.roles,.int .i64 c.exp,.int .i64 c.ser]:=rfl
  rw [hv]
  simp only [kvC] at hct
  refine enterW (tb:=tb) Tryz.func160 rfl Tryz.ntmps160 rfl ?_
  repeat' (first|(apply R.is1;first|(apply R.isCall;(apply R.callV (vs:=[.slice p os.length cap,.agg ⟨_⟩]);(iterate 3 exact rfl);intro w1 hw1;exact hct w1 hw1.chg))|(apply R.pure;exact rfl;first|(apply Ok1.load;exact rfl;first|(apply Ld.ownk;exact rfl;exact rfl;exact At.head;exact rfl)|(apply Ld.blk1;exact rfl;exact rfl;exact hb;exact List.not_mem_nil;exact rfl))|(apply Ok1.assign;exact rfl))|(apply R.box;(iterate 3 exact rfl);intro))|apply R.nil|(apply T.is;first|apply T.seq|apply T.region|apply T.ret))
  (apply RetOk.t;exact rfl)
  rfl
section
variable (b bm:Nat) (es:BS) (clk:Nat)
theorem onlyB_ok (hwf:MWf (bms es,clk)) (hlen:es.length≤1000) (p:Option Addr) (cap:Nat) (os:List Cl) (hos:os.length≤1000) (w:World) (hp:RdSl w p Cl.v os) (hq:os≠[]→Off p (blks (BL b bm es clk))) :
    CallM Tryz.prog 75 [.pointer (some ⟨b,0,none⟩),.slice p os.length cap] (BL b bm es clk) w fun v L=>∃ ov gs,gs.Perm ((es.map BE.c).filter fun c=>!decide (c∈os))∧Asc cmpCl gs∧OvOk 4 ov gs.length (fl Cl.v gs)∧v=slV ov gs.length∧L=blkL 31 ov (fl Cl.v gs)++BL b bm (es.filter fun x=>decide (x.c∈os)) clk:=by
  have hnd:(es.map BE.c).Nodup:=by have:=hwf.keys;rwa [bms_keys] at this
  refine enterK (tb:=tb) Tryz.func75 rfl Tryz.ntmps75 rfl ?_
  generalize hB0:BL b bm es clk=B0 at hq ⊢
  repeat' (first|(apply R.is1;first|(apply R.isCall;(apply R.callE (Li:=B0);(iterate 3 exact rfl);(focus (exact Ext.cons _ (Ext.all _)));intro w1 hw1;rw [← hB0];exact allB_ok b bm es clk hwf hlen _ [] rfl (fun _=>true) w1 (fun x hx W hW=>(only1_ok x.blk).w W);rintro v Lo ⟨ov,cs,h1,h2,h3,rfl,rfl⟩))|(apply R.pure;exact rfl;first|(apply Ok1.move;exact rfl)|(apply Ok1.assign;exact rfl))|(apply R.box;(iterate 3 exact rfl);intro))|apply R.nil|(apply T.is;first|(apply T.stop1 2)|apply T.seq|apply T.region))
  rename_i bt
  refine ⟨?_⟩
  have hft:(es.filter fun x=>(fun _=>true) x.e)=es:=by simp
  rw [hft] at h1
  have hcl:cs.length≤1000:=by
    have e1:=h1.length_eq
    rw [List.length_map] at e1
    omega
  have hdel:=fun (w1:World) L Lr (hw1:Hp w (blks B0) L w1) (he:Ext L (blkL 31 ov (fl Cl.v cs)) Lr) (hm:(bt,Obj.cells ⟨[.slice p os.length cap]⟩ 119 (0,0))∈Lr)=>cdel_ok ov cs h3 (by omega) 160 rfl [.pointer (some ⟨bt,0,none⟩)] (fun x=>decide (x∈os)) w1 (fun x w2 hc=>only2_ok bt p cap os (by omega) x _ w2 (hc.heap (hw1.get _ _ (he.perm.subset (List.mem_append_right _ hm))) (RdSl.off hw1 he hm)) ((hp.chg' hw1.chg hq).chg' hc (hp.old Cl.v_len (by decide) hq hw1 he)))
  have hgp:(cs.filter fun x=>!decide (x∈os)).Perm ((es.map BE.c).filter fun c=>!decide (c∈os)):=h1.filter _
  have hga:Asc cmpCl (cs.filter fun x=>!decide (x∈os)):=h2.sublist List.filter_sublist
  generalize hgs:cs.filter (fun x=>!decide (x∈os))=gs at *
  have hgl:gs.length≤1000:=by rw [← hgs];exact Nat.le_trans (List.length_filter_le ..) hcl
  have hdr:dropM gs (bms es)=bms (es.filter fun x=>decide (x.c∈os)):=by
    unfold dropM bms
    rw [List.filter_map]
    congr 1
    refine List.filter_congr fun x hx=>?_
    simp only [Function.comp_apply]
    have:x.c ∉ gs ↔ x.c∈os:=by
      rw [hgp.mem_iff,List.mem_filter]
      have:=List.mem_map_of_mem (f:=BE.c) hx
      simp [this]
    simp only [this]
  have hbl:=bms_len es
  have hdc:=fun (w1:World) pp cc h1 h2=>dropC_ok b bm (bms es) clk hwf.keys (by omega) pp cc gs hgl w1 h1 h2
  rw [hdr] at hdc
  have hks:Keep (bls es) (bls (es.filter fun x=>decide (x.c∈os))):=keepC_sub (List.Sublist.map _ List.filter_sublist)
  simp only [BL]
  generalize bls es=P at *
  generalize bls (es.filter fun x=>decide (x.c∈os))=P2 at *
  generalize bms es=M at *
  generalize bms (es.filter fun x=>decide (x.c∈os))=M2 at *
  repeat' (first|(apply R.is1;first|(apply R.isCall;(apply R.callE (Li:=blkL 31 ov (fl Cl.v cs)) (vs:=[_,.func (.func 160) #[] #[.pointer (some ⟨bt,0,none⟩)]]);(iterate 3 exact rfl);(focus (rw [List.append_assoc];exact Ext.here _ _));intro w1 hw1;refine hdel w1 _ _ hw1 (by rw [List.append_assoc];exact Ext.here _ _) (by simp);rintro v Lo ⟨ov2,hov2,rfl,rfl⟩;rw [slV_eq hov2]))|(apply R.pure;exact rfl;first|(apply Ok1.move;exact rfl)|(apply Ok1.assign;exact rfl)|(apply Ok1.makeFunc;exact rfl;exact rfl)))|apply R.nil|(apply T.is;first|(apply T.stop1 3)|apply T.seq|apply T.region))
  refine ⟨?_⟩
  repeat' (first|(apply R.is1;first|(apply R.isCall;(apply R.callE (Li:=B2L b bm M clk) (vs:=[.pointer (some ⟨b,0,none⟩),.slice (ovp ov2) gs.length (ovc ov2 gs.length)]);(iterate 3 exact rfl);(focus (exact Ext.app _ (Ext.two _ (Ext.one _ _) (Ext.one _ _))));intro w1 hw1;exact hdc w1 _ _ (RdSl.own' hw1 (fun q hq=>List.mem_append_left _ hq) hov2 Cl.v_len) (fun _=>ovoff hw1 (Ext.app _ (Ext.two _ (Ext.one _ _) (Ext.one _ _))) (fun q hq=>List.mem_append_left _ hq));rintro v Lo ⟨rfl,rfl⟩))|(apply R.pure;exact rfl;first|(apply Ok1.move;exact rfl)|(apply Ok1.assign;exact rfl)))|apply R.nil|(apply T.is;first|apply T.seq|apply T.region|apply T.ret))
  (apply RetOk.t;exact rfl)
  refine ⟨blkL 31 ov2 (fl Cl.v gs)++(b,.cells ⟨[.map (some bm)]⟩ 200 (0,0))::(bm,mobj kvC vvP M2 clk)::P2,?_,ov2,gs,hgp,hga,hov2,(slV_eq hov2).symm,rfl⟩
  refine Keep.transC (B:=blkL 31 ov2 (fl Cl.v gs)++(b,.cells ⟨[.map (some bm)]⟩ 200 (0,0))::(bm,mobj kvC vvP M2 clk)::P) ?_ (Keep.app (Ext.here _ _) (Keep.cons (.one _ _) (Keep.cons (.one _ _) hks)))
  simp only [B2L,List.cons_append,List.nil_append]
  (focus (repeat' first|exact Ext.one _ _|exact Ext.here _ _|apply Keep.cons|apply Keep.app|apply Keep.last|apply Ext.cons);done)
end
end Go.Proofs.YtcfdgnajepilbaaGreat
set_option linter.unusedSimpArgs false
set_option linter.unusedVariables false
namespace Go.Proofs.YtcfdgnajepilbaaGreat
open Go.RowKit Go.Shelf
set_option maxRecDepth 100000
section
open Classical in
theorem Ok1.neqFz {X:Cx} {σ:Env} {L:Lst} {xs ys:List Value} {t:TypeId} {r:TRow} {ks:List TK} {x y:Operand} {ty:TypeId} {pos:String} {af:Array Edge} {d:Option Nat} {g:Option (Nat × Bool)} {ty2:TypeId} {q:Bool} (hx:ev σ x=some (.agg ⟨xs⟩)) (hy:ev σ y=some (.agg ⟨ys⟩)) (ht:X.tb.row t=some r) (hk:r.k.agg=some true) (hf:flatE X.tb 8 t=some ks) (h1:allOk ks xs=true) (h2:allOk ks ys=true) (hq:xs≠ys ↔ q=true) :
    Ok1 X ⟨d,.binOp .neq t x y ty2,ty,pos,af,g⟩ σ L (.bool q):=by
  have h:=Ok1.neqF (X:=X) (L:=L) (ty2:=ty2) (d:=d) (ty:=ty) (pos:=pos) (af:=af) (g:=g) hx hy ht hk hf h1 h2
  have e:∀ (i:Decidable (xs≠ys)),@decide (xs≠ys) i=q:=by intro i;cases q<;>simp_all
  rw [e] at h
  exact h
end
theorem pkind_ok (k:Int):CallP Tryz.prog 58 [.int .i64 k] (.bool (decide (0 < k∧k < 15))):=by
  refine enterP (tb:=tb) Tryz.func58 rfl Tryz.ntmps58 rfl fun w=>?_
  by_cases h1:0 < k
  case neg =>
    rw [decide_eq_false (by omega)]
    repeat' (first|(apply R.is1;first|(apply R.isBin;(apply R.pure;exact rfl;(apply Ok1.gtr_f;exact rfl;exact rfl;omega)))|(apply R.pure;exact rfl;first|(apply Ok1.move;exact rfl)|(apply Ok1.assign;exact rfl)|(apply Ok1.pick_f;exact rfl;exact rfl)))|(apply R.isG;(apply R.guard_not;(iterate 3 exact rfl)))|apply R.nil|(apply T.is;first|apply T.seq|apply T.region|apply T.ret))
    (apply RetOk.t;exact rfl)
    rfl
  by_cases h2:k < 15
  case neg =>
    rw [decide_eq_false (by omega)]
    repeat' (first|(apply R.is1;first|(apply R.isBin;(apply R.pure;exact rfl;first|(apply Ok1.lss_f;exact rfl;exact rfl;omega)|(apply Ok1.gtr_t;exact rfl;exact rfl;omega)))|(apply R.pure;exact rfl;first|(apply Ok1.move;exact rfl)|(apply Ok1.assign;exact rfl)|(apply Ok1.pick_t;exact rfl;exact rfl)))|(apply R.isG;(apply R.guard_run;exact rfl;exact rfl))|apply R.nil|(apply T.is;first|apply T.seq|apply T.region|apply T.ret))
    (apply RetOk.t;exact rfl)
    rfl
  rw [decide_eq_true ⟨h1,h2⟩]
  repeat' (first|(apply R.is1;first|(apply R.isBin;(apply R.pure;exact rfl;first|(apply Ok1.lss_t;exact rfl;exact rfl;omega)|(apply Ok1.gtr_t;exact rfl;exact rfl;omega)))|(apply R.pure;exact rfl;first|(apply Ok1.move;exact rfl)|(apply Ok1.assign;exact rfl)|(apply Ok1.pick_t;exact rfl;exact rfl)))|(apply R.isG;(apply R.guard_run;exact rfl;exact rfl))|apply R.nil|(apply T.is;first|apply T.seq|apply T.region|apply T.ret))
  (apply RetOk.t;exact rfl)
  rfl
theorem pplain_ok (k:Int):CallP Tryz.prog 139 [.int .i64 k] (.bool (decide (k=1 ∨ k=2))):=by
  refine enterP (tb:=tb) Tryz.func139 rfl Tryz.ntmps139 rfl fun w=>?_
  by_cases h1:k=1
  · rw [decide_eq_true (.inl h1)]
    repeat' (first|(apply R.is1;first|(apply R.isBin;(apply R.pure;exact rfl;(apply Ok1.eql_t;exact rfl;exact rfl;omega)))|(apply R.pure;exact rfl;first|(apply Ok1.move;exact rfl)|(apply Ok1.assign;exact rfl)|(apply Ok1.pick_t;exact rfl;exact rfl)))|(apply R.isG;(apply R.guard_not;(iterate 3 exact rfl)))|apply R.nil|(apply T.is;first|apply T.seq|apply T.region|apply T.ret))
    (apply RetOk.t;exact rfl)
    rfl
  by_cases h2:k=2
  · rw [decide_eq_true (.inr h2)]
    repeat' (first|(apply R.is1;first|(apply R.isBin;(apply R.pure;exact rfl;first|(apply Ok1.eql_t;exact rfl;exact rfl;omega)|(apply Ok1.eql_f;exact rfl;exact rfl;omega)))|(apply R.pure;exact rfl;first|(apply Ok1.move;exact rfl)|(apply Ok1.assign;exact rfl)|(apply Ok1.pick_f;exact rfl;exact rfl)))|(apply R.isG;(apply R.guard_run;exact rfl;exact rfl))|apply R.nil|(apply T.is;first|apply T.seq|apply T.region|apply T.ret))
    (apply RetOk.t;exact rfl)
    rfl
  rw [decide_eq_false (by omega)]
  repeat' (first|(apply R.is1;first|(apply R.isBin;(apply R.pure;exact rfl;(apply Ok1.eql_f;exact rfl;exact rfl;omega)))|(apply R.pure;exact rfl;first|(apply Ok1.move;exact rfl)|(apply Ok1.assign;exact rfl)|(apply Ok1.pick_f;exact rfl;exact rfl)))|(apply R.isG;(apply R.guard_run;exact rfl;exact rfl))|apply R.nil|(apply T.is;first|apply T.seq|apply T.region|apply T.ret))
  (apply RetOk.t;exact rfl)
  rfl
/-- A packet's cells. -/
def pkC (k:Int) (c:Cl) (to a b:Int) (p:Option Addr) (n cap:Nat) (t:List Int):List Value:=.int .i64 k :: .int .i64 c.id :: .int .i64 c.roles :: .int .i64 c.exp :: .int .i64 c.ser :: .int .i64 to :: .int .i64 a :: .int .i64 b :: .slice p n cap::u8s t
theorem pk_len (k:Int) (c:Cl) (to a b:Int) (p:Option Addr) (n cap:Nat) {t:List Int} (ht:t.length=32):(pkC k c to a b p n cap t).length=41:=by simp [pkC,u8s_len,ht]
theorem pk_one (k:Int) (c:Cl) (to a b:Int) (p:Option Addr) (n cap:Nat) (t:List Int):(pkC k c to a b p n cap t).all Value.oneCell'=true:=by
  show (true && (u8s t).all Value.oneCell')=true
  rw [u8s_one];rfl
theorem pk_tag (k:Int) (c:Cl) (to a b:Int) (p:Option Addr) (n cap:Nat) {t:List Int} (ht:t.length=32):subE (pkC k c to a b p n cap t) 9 32=some (u8s t):=by
  show subE (u8s t) 0 32=some (u8s t)
  exact subE_all (by rw [u8s_len,ht])
theorem pk_set (k:Int) (c:Cl) (to a b:Int) (p:Option Addr) (n cap:Nat) {t t2:List Int} (ht:t.length=32) (h2:t2.length=32):setE (pkC k c to a b p n cap t) 9 (u8s t2)=some (pkC k c to a b p n cap t2):=by
  have h:=setE_off [.int .i64 k,.int .i64 c.id,.int .i64 c.roles,.int .i64 c.exp,.int .i64 c.ser,.int .i64 to,.int .i64 a,.int .i64 b,.slice p n cap] (u8s t2) (u8s t) (by rw [u8s_len,u8s_len,ht,h2];exact Nat.le_refl _)
  rw [List.drop_of_length_le (by rw [u8s_len,u8s_len,ht,h2];exact Nat.le_refl _),List.append_nil] at h
  exact h
theorem u8s_inj:∀ {a b:List Int},u8s a=u8s b→a=b
  | [],[],_=>rfl
  | [],y::b,h=>by cases h
  | x::a,[],h=>by cases h
  | x::a,y::b,h=>by
    simp only [u8s,List.map_cons,List.cons.injEq,Value.int.injEq,true_and] at h
    have h2:u8s a=u8s b:=h.2
    rw [h.1,u8s_inj h2]
theorem u8s_ok (n:Nat):∀ {a:List Int},a.length=n→allOk (List.replicate n (TK.int .u8)) (u8s a)=true:=by
  induction n with
  | zero=>intro a h;rw [List.eq_nil_of_length_eq_zero h];rfl
  | succ n ih =>
    intro a h
    match a,h with
    | x::a,h =>
      have:=ih (a:=a) (by simpa using h)
      simp only [List.replicate_succ,u8s,List.map_cons] at this ⊢
      exact this
instance (c:Cl):Decidable c.right:=by unfold Cl.right;infer_instance
instance (a b:Int):Decidable (NR a b):=by unfold NR;infer_instance
/-- What is wrong with a packet. -/
def pckE (k:Int) (c:Cl) (to a b:Int) (n:Nat) (t:List Int):Int:=if ¬ (0 < k∧k < 15) then 13 else if ¬ (c.right∧0≤to∧to≤65535∧NR a b) then 10 else if 512 < n then 2 else if (k=1 ∨ k=2)∧t≠zI 32 then 3 else 0
theorem pck_key (k:Int) (c:Cl) (to a b:Int) (n:Nat) (t:List Int) {qk qp:Bool} {ec en E:Int} (h1:qk=decide (0 < k∧k < 15)) (h2:ec=if c.right then 0 else 10) (h3:en=if NR a b then 0 else 10) (h4:qp=decide (k=1 ∨ k=2)) (hE:E=pckE k c to a b n t) :
    (qk=false∧E=13) ∨ (qk=true∧ec=10∧E=10) ∨ (qk=true∧ec=0∧to < 0∧E=10) ∨ (qk=true∧ec=0∧65535 < to∧E=10) ∨ (qk=true∧ec=0∧(0≤to∧to≤65535)∧en=10∧E=10) ∨ (qk=true∧ec=0∧(0≤to∧to≤65535)∧en=0∧512 < n∧E=2) ∨ (qk=true∧ec=0∧(0≤to∧to≤65535)∧en=0∧n≤512∧qp=true∧t≠zI 32∧E=3) ∨ (qk=true∧ec=0∧(0≤to∧to≤65535)∧en=0∧n≤512∧qp=true∧t=zI 32∧E=0) ∨ (qk=true∧ec=0∧(0≤to∧to≤65535)∧en=0∧n≤512∧qp=false∧E=0):=by
  unfold pckE at hE
  by_cases g1:0 < k∧k < 15
  case neg =>
    rw [if_pos g1] at hE
    exact .inl ⟨by rw [h1];exact decide_eq_false g1,hE⟩
  have q1:qk=true:=by rw [h1];exact decide_eq_true g1
  rw [if_neg (fun g=>g g1)] at hE
  by_cases g2:c.right
  case neg =>
    rw [if_neg g2] at h2
    rw [if_pos (fun g=>g2 g.1)] at hE
    exact .inr (.inl ⟨q1,h2,hE⟩)
  rw [if_pos g2] at h2
  by_cases g3:0≤to
  case neg =>
    rw [if_pos (fun g=>g3 g.2.1)] at hE
    exact .inr (.inr (.inl ⟨q1,h2,by omega,hE⟩))
  by_cases g4:to≤65535
  case neg =>
    rw [if_pos (fun g=>g4 g.2.2.1)] at hE
    exact .inr (.inr (.inr (.inl ⟨q1,h2,by omega,hE⟩)))
  by_cases g5:NR a b
  case neg =>
    rw [if_neg g5] at h3
    rw [if_pos (fun g=>g5 g.2.2.2)] at hE
    exact .inr (.inr (.inr (.inr (.inl ⟨q1,h2,⟨g3,g4⟩,h3,hE⟩))))
  rw [if_pos g5] at h3
  rw [if_neg (fun g=>g ⟨g2,g3,g4,g5⟩)] at hE
  by_cases g6:512 < n
  · rw [if_pos g6] at hE
    exact .inr (.inr (.inr (.inr (.inr (.inl ⟨q1,h2,⟨g3,g4⟩,h3,g6,hE⟩)))))
  rw [if_neg g6] at hE
  have g6':n≤512:=by omega
  by_cases g7:k=1 ∨ k=2
  · have q2:qp=true:=by rw [h4];exact decide_eq_true g7
    by_cases g8:t=zI 32
    · rw [if_neg (fun g=>g.2 g8)] at hE
      exact .inr (.inr (.inr (.inr (.inr (.inr (.inr (.inl ⟨q1,h2,⟨g3,g4⟩,h3,g6',q2,g8,hE⟩)))))))
    · rw [if_pos ⟨g7,g8⟩] at hE
      exact .inr (.inr (.inr (.inr (.inr (.inr (.inl ⟨q1,h2,⟨g3,g4⟩,h3,g6',q2,g8,hE⟩))))))
  · have q2:qp=false:=by rw [h4];exact decide_eq_false g7
    rw [if_neg (fun g=>g7 g.1)] at hE
    exact .inr (.inr (.inr (.inr (.inr (.inr (.inr (.inr ⟨q1,h2,⟨g3,g4⟩,h3,g6',q2,hE⟩)))))))
theorem pcheck_ok (k:Int) (c:Cl) (to a b:Int) (p:Option Addr) (n cap:Nat) (t:List Int) (ht:t.length=32):CallP Tryz.prog 60 [.agg ⟨pkC k c to a b p n cap t⟩] (.int .i64 (pckE k c to a b n t)):=by
  have hk:=pkind_ok k
  have hp:=pplain_ok k
  have hc:=check_ok c.id c.roles c.exp c.ser
  have hn:=nonce_ok a b
  obtain ⟨qk,hqk⟩:∃ q,q=decide (0 < k∧k < 15):=⟨_,rfl⟩
  obtain ⟨qp,hqp⟩:∃ q,q=decide (k=1 ∨ k=2):=⟨_,rfl⟩
  obtain ⟨ec,hec⟩:∃ e:Int,e=if c.right then 0 else 10:=⟨_,rfl⟩
  obtain ⟨en,hen⟩:∃ e:Int,e=if NR a b then 0 else 10:=⟨_,rfl⟩
  obtain ⟨E,hE⟩:∃ e,e=pckE k c to a b n t:=⟨_,rfl⟩
  have key:=pck_key k c to a b n t hqk hec hen hqp hE
  rw [← hqk] at hk
  rw [← hqp] at hp
  rw [← hE]
  replace hc:CallP Tryz.prog 137 [.agg ⟨[.int .i64 c.id,.int .i64 c.roles,.int .i64 c.exp,.int .i64 c.ser]⟩] (.int .i64 ec):=by rw [hec];exact hc
  replace hn:CallP Tryz.prog 138 [.agg ⟨[.int .i64 a,.int .i64 b]⟩] (.int .i64 en):=by rw [hen];exact hn
  have htag:=pk_tag k c to a b p n cap ht
  have hoz:allOk (List.replicate 32 (TK.int .u8)) (u8s (zI 32))=true:=rfl
  have hot:=u8s_ok 32 ht
  clear hqk hqp hec hen hE
  refine enterP (tb:=tb) Tryz.func60 rfl Tryz.ntmps60 rfl fun w=>?_
  simp only [pkC] at htag ⊢
  rcases key with ⟨rfl,rfl⟩|⟨rfl,rfl,rfl⟩|⟨rfl,rfl,g3,rfl⟩|⟨rfl,rfl,g3,rfl⟩|⟨rfl,rfl,g3,rfl,rfl⟩|⟨rfl,rfl,g3,rfl,g6,rfl⟩|⟨rfl,rfl,g3,rfl,g6,rfl,g8,rfl⟩|⟨rfl,rfl,g3,rfl,g6,rfl,g8,rfl⟩|⟨rfl,rfl,g3,rfl,g6,rfl,rfl⟩
  all_goals repeat' (first|(apply R.is1;first|(apply R.isBin;(apply R.pure;exact rfl;first|(apply Ok1.neqFz (q:=true) (ks:=List.replicate 32 (TK.int .u8)) (ys:=u8s (zI 32));(iterate 5 exact rfl);exact hot;exact hoz;exact ⟨fun _=>rfl,fun _ h=>g8 (u8s_inj h)⟩)|(apply Ok1.neqFz (q:=false) (ks:=List.replicate 32 (TK.int .u8)) (ys:=u8s (zI 32));(iterate 5 exact rfl);exact hot;exact hoz;exact ⟨fun h=>absurd (congrArg u8s g8) h,fun h=>by cases h⟩)|(apply Ok1.lss_t;exact rfl;exact rfl;omega)|(apply Ok1.lss_f;exact rfl;exact rfl;omega)|(apply Ok1.gtr_t;exact rfl;exact rfl;omega)|(apply Ok1.gtr_f;exact rfl;exact rfl;omega)|(apply Ok1.neq_t;exact rfl;exact rfl;omega)|(apply Ok1.neq_f;exact rfl;exact rfl;omega)))|(apply R.isCall;first|apply R.callP rfl rfl rfl hk|apply R.callP rfl rfl rfl hc|apply R.callP rfl rfl rfl hn|apply R.callP rfl rfl rfl hp|(apply R.pure;exact rfl;(apply Ok1.lenS;(iterate 3 exact rfl))))|(apply R.pure;exact rfl;first|(apply Ok1.load;exact rfl;first|(apply Ld.own1;exact rfl;exact rfl;exact At.head;exact rfl)|(apply Ld.ownk;exact rfl;exact rfl;exact At.head;exact rfl)|(apply Ld.ownk;exact rfl;exact rfl;exact At.head;exact htag))|(apply Ok1.move;exact rfl)|(apply Ok1.fieldAddr;(iterate 5 exact rfl))|(apply Ok1.assign;exact rfl)|(apply Ok1.pick_t;exact rfl;exact rfl)|(apply Ok1.pick_f;exact rfl;exact rfl)|(apply Ok1.not_t;exact rfl)|(apply Ok1.not_f;exact rfl)|(apply Ok1.buildA;(iterate 6 exact rfl)))|(apply R.box;(iterate 3 exact rfl);intro))|(apply R.isG;first|(apply R.guard_run;exact rfl;exact rfl)|(apply R.guard_not;(iterate 3 exact rfl)))|apply R.nil|(apply T.is;first|apply T.seq|apply T.region|apply T.block|apply T.skip|apply T.ret|(apply T.cond_t;exact rfl)|(apply T.cond_f;exact rfl)))
  all_goals (apply RetOk.t;exact rfl)
  all_goals rfl
end Go.Proofs.YtcfdgnajepilbaaGreat
