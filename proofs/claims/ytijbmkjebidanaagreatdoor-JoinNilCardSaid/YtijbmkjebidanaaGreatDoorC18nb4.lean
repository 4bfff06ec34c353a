/- Texts of the proof: Mc4, C1, C2, C4, C5, C6, Eng16, M1, Se1, Se6, Sc1, Sc2, Eng34, Sc3, Sc4, Sc5, Sc7, Sp2, Sp3, Eng29, Sp6, Cl1, Sl3, Sl6, Rv3, Rv4, Rv5, Rv8, Rr1, Rb5, Rg0, Rg1, Rf6, Dd2, Tk1, L08x, Sy13, Sy18, Eng32, Sz3, Sz5. -/
import Derived.Test.YtijbmkjebidanaaGreatDoorC18nb3
import Derived.Test.YtijbmkjebidanaaGreatDoorShelf
import Derived.Lib.MakeNoZero
import Derived.Laws.Externs
set_option linter.unusedSimpArgs false
set_option linter.unusedVariables false
namespace Go.Proofs.YtijbmkjebidanaaGreatDoor
open Go.RowKit Go.Shelf
set_option maxRecDepth 100000
/-- A key that was made: its block,its bytes'. -/
def KL (bk:Nat) (ov:Ov) (xs:List Int):Lst:=(bk,.cells ⟨[slV ov xs.length]⟩ 97 (0,0))::blkL 5 ov (u8s xs)
/-- A key that is read. -/
def KeyR (w:World) (bk:Nat) (xs:List Int):Prop:=∃ p cap,w.heap[bk]? = some (.cells ⟨[.slice p xs.length cap]⟩ 97 (0,0))∧RdSl w p u8V xs
theorem KeyR.chg {w w':World} {bk:Nat} {xs:List Int} (h:KeyR w bk xs) (hc:Chg [] w w'):KeyR w' bk xs:=by
  obtain ⟨p,cap,h1,h2⟩:=h
  exact ⟨p,cap,hc.heap h1 List.not_mem_nil,h2.chg' hc (fun _=>Off.nil _)⟩
theorem KeyR.of {ov:Ov} {bk:Nat} {xs:List Int} (hov:OvOk 1 ov xs.length (u8s xs)) {w0 w:World} {S:List Nat} {L:Lst} (hw:Hp w0 S L w) (hin:∀ z∈KL bk ov xs,z∈L):KeyR w bk xs:=by
  refine ⟨ovp ov,ovc ov xs.length,?_,rdown hov hw fun z hz=>hin z (List.mem_cons_of_mem _ hz)⟩
  rw [← slV_eq hov]
  exact hw.get _ _ (hin _ List.mem_cons_self)
theorem new_ok (p:Option Addr) (n cap:Nat) (xs:List Int) (hn:n=xs.length) (hbig:n≤1000000000) (w:World) (hp:RdSl w p u8V xs) :
    CallM Tryz.prog 20 [.slice p n cap] [] w fun v L=>∃ bk ov,v = .pointer (some ⟨bk,0,none⟩)∧OvOk 1 ov xs.length (u8s xs)∧ov.isSome=p.isSome∧L=KL bk ov xs:=by
  subst hn
  refine enterK (tb:=tb) Tryz.func20 rfl Tryz.ntmps20 rfl ?_
  have hcl:=fun w1 (hc:Chg [] w w1)=>clone_ok p xs.length cap xs rfl hbig w1 (hp.chg' hc (fun _=>Off.nil _))
  repeat' (first|(apply R.is1;first|(apply R.isCall;first|(apply R.callE;(iterate 3 exact rfl);exact Ext.none _;intro w1 hw1;exact hcl w1 hw1.chg;rintro v Lo ⟨ov2,hov2,hsome,rfl,rfl⟩;rw [slV_eq hov2]))|(apply R.pure;exact rfl;first|(apply Ok1.move;exact rfl)|(apply Ok1.assign;exact rfl)|(apply Ok1.build;(iterate 5 exact rfl))|(apply Ok1.buildA;(iterate 6 exact rfl)))|(apply R.box;(iterate 3 exact rfl);intro))|(apply R.is0;first|fail)|(apply R.isG;first|(apply R.guard_run;exact rfl;exact rfl)|(apply R.guard_not;(iterate 3 exact rfl))|(apply R.guard_not0;exact rfl;exact rfl)|(apply R.guard_un;(iterate 3 exact rfl))|(apply R.guard_un0;exact rfl;exact rfl)|(apply R.guard rfl rfl ?_ (fun h=>⟨rfl,?_⟩)<;>try intro))|apply R.nil|(apply T.is;first|apply T.seq|apply T.region|apply T.block|apply T.scope|apply T.label|apply T.skip|apply T.exit|apply T.ret|(apply T.cond_t;exact rfl)|(apply T.cond_f;exact rfl)|(apply T.cond_h;exact rfl;assumption)|(apply T.cond_n;exact rfl;assumption)|(apply T.cond rfl<;>intro))|apply Rnd.step)
  rename_i bk
  (apply RetOk.t;exact rfl)
  refine ⟨_,?_,bk,ov2,rfl,hov2,hsome,rfl⟩
  simp only [KL,slV_eq hov2]
  (focus (repeat' first|exact Keep.nil _|exact Ext.one _ _|exact Ext.here _ _|exact Ext.all _|apply Keep.cons|apply Keep.app|apply Keep.last|apply Ext.cons|apply Ext.app);done)
theorem bytes_ok (bk:Nat) (xs:List Int) (hbig:xs.length≤1000000000) (w:World) (hk:KeyR w bk xs) :
    CallM Tryz.prog 34 [.pointer (some ⟨bk,0,none⟩)] [] w fun v L=>∃ ov,OvOk 1 ov xs.length (u8s xs)∧v=slV ov xs.length∧L=blkL 5 ov (u8s xs):=by
  obtain ⟨p,cap,hb,hp⟩:=hk
  refine enterK (tb:=tb) Tryz.func34 rfl Tryz.ntmps34 rfl ?_
  have hcl:=fun w1 (hc:Chg [] w w1)=>clone_ok p xs.length cap xs rfl hbig w1 (hp.chg' hc (fun _=>Off.nil _))
  repeat' (first|(apply R.is1;first|(apply R.isBin;first|(apply R.pure;exact rfl;first|(apply Ok1.eql_t;exact rfl;exact rfl;omega)|(apply Ok1.eql_f;exact rfl;exact rfl;omega)|(apply Ok1.eqlP;(iterate 5 exact rfl))|(apply Ok1.eqlM;(iterate 5 exact rfl))|(apply Ok1.eqlS;(iterate 5 exact rfl)))|(apply R.eql rfl rfl rfl<;>intro)|(apply R.eqlF;(iterate 8 exact rfl);all_goals intro))|(apply R.isCall;first|(apply R.callE;(iterate 3 exact rfl);exact Ext.none _;intro w1 hw1;exact hcl w1 hw1.chg;rintro v Lo ⟨ov2,hov2,hsome,rfl,rfl⟩))|(apply R.pure;exact rfl;first|(apply Ok1.move;exact rfl)|(apply Ok1.fieldAddr;(iterate 5 exact rfl))|(apply Ok1.load;exact rfl;first|(apply Ld.own1;exact rfl;exact rfl;(focus (repeat' first|exact At.head|apply At.tail|apply At.right);done);exact rfl)|(apply Ld.ownk;exact rfl;exact rfl;(focus (repeat' first|exact At.head|apply At.tail|apply At.right);done);exact rfl)|(apply Ld.old1;exact rfl;exact rfl;assumption;(first|exact List.not_mem_nil|assumption))|(apply Ld.blk1;exact rfl;exact rfl;assumption;(first|exact List.not_mem_nil|assumption);exact rfl)|(apply Ld.blkk;exact rfl;exact rfl;assumption;(first|exact List.not_mem_nil|assumption);exact rfl))|(apply Ok1.assign;exact rfl)|(apply Ok1.nilCheck;exact rfl)|(apply Ok1.nilCheckF;exact rfl)))|(apply R.is0;first|fail)|(apply R.isG;first|(apply R.guard_run;exact rfl;exact rfl)|(apply R.guard_not;(iterate 3 exact rfl))|(apply R.guard_not0;exact rfl;exact rfl)|(apply R.guard_un;(iterate 3 exact rfl))|(apply R.guard_un0;exact rfl;exact rfl)|(apply R.guard rfl rfl ?_ (fun h=>⟨rfl,?_⟩)<;>try intro))|apply R.nil|(apply T.is;first|apply T.seq|apply T.region|apply T.block|apply T.scope|apply T.label|apply T.skip|apply T.exit|apply T.ret|(apply T.cond_t;exact rfl)|(apply T.cond_f;exact rfl)|(apply T.cond_h;exact rfl;assumption)|(apply T.cond_n;exact rfl;assumption)|(apply T.cond rfl<;>intro))|apply Rnd.step)
  (apply RetOk.t;exact rfl)
  exact ⟨_,by (focus (repeat' first|exact Keep.nil _|exact Ext.one _ _|exact Ext.here _ _|exact Ext.all _|apply Keep.cons|apply Keep.app|apply Keep.last|apply Ext.cons|apply Ext.app);done),ov2,hov2,rfl,rfl⟩
def deriveI (k:List Int) (label:ByteArray) (ls:List (List Int)):List Int:=hmacI k (frameI (strI label::ls))
theorem derive_len (k:List Int) (label:ByteArray) (ls:List (List Int)):(deriveI k label ls).length=32:=sha_len _
theorem derive_byt (k:List Int) (label:ByteArray) (ls:List (List Int)):Byt (deriveI k label ls):=sha_byt _
theorem frame_byt {ls:List (List Int)} (h:∀ l∈ls,Byt l):Byt (frameI ls):=by
  intro y hy
  obtain ⟨l,hl,hy⟩:=List.mem_flatMap.1 hy
  rcases List.mem_append.1 hy with hy|hy
  · exact len4_byt _ y hy
  · exact h l hl y hy
theorem str_byt (s:ByteArray):Byt (strI s):=by
  intro y hy
  obtain ⟨z,_,rfl⟩:=List.mem_map.1 hy
  have:=z.toNat_lt
  omega
theorem derive_ok (bk:Nat) (k:List Int) (hkl:k.length≤999999000) (hkb:Byt k) (name:ByteArray) (hname:name.size≤1000000) (pp:Option Addr) (m cap:Nat) (ps:List Pt) (hm:m=ps.length) (hm2:m≤100000) (hpb:∀ x∈ps,Byt x.xs) (hbig:(frameI (strI name::ps.map (·.xs))).length≤999998000) (hbig1:∀ x∈ps,x.xs.length≤1000000000) (w:World) (hk:KeyR w bk k) (hp:RdSl w pp Pt.v ps) (hall:∀ x∈ps,RdSl w x.p u8V x.xs) :
    CallM Tryz.prog 33 [.pointer (some ⟨bk,0,none⟩),.string name,.slice pp m cap] [] w fun v L=>∃ bk' ov,v = .pointer (some ⟨bk',0,none⟩)∧OvOk 1 ov 32 (u8s (deriveI k name (ps.map (·.xs))))∧L=KL bk' ov (deriveI k name (ps.map (·.xs))):=by
  obtain ⟨pk,ck,hb,hpk⟩:=hk
  have hfb:Byt (frameI (strI name::ps.map (·.xs))):=frame_byt fun l hl=>by
    rcases List.mem_cons.1 hl with rfl|hl
    · exact str_byt _
    · obtain ⟨x,hx,rfl⟩:=List.mem_map.1 hl
      exact hpb x hx
  have hdl:=derive_len k name (ps.map (·.xs))
  have hdb:=derive_byt k name (ps.map (·.xs))
  have hdd:deriveI k name (ps.map (·.xs))=hmacI k (frameI (strI name::ps.map (·.xs))):=rfl
  have hfr:=fun w1 (hc:Chg [] w w1)=>framed_ok name pp m cap ps hm hm2 hname hbig1 w1 (hp.chg' hc (fun _=>Off.nil _))
  have hmapl:(strI name::ps.map (·.xs)).length=m+1:=by simp [hm]
  generalize hfre:frameI (strI name::ps.map (·.xs))=fr at *
  generalize deriveI k name (ps.map (·.xs))=d0 at *
  have hls:(u8s d0).length=32:=by rw [u8s_len,hdl]
  have hone:=u8s_one d0
  have hset:∀ cs:List Value,cs.length=32→setE cs 0 (u8s d0)=some (u8s d0):=fun cs h=>setE_all (by rw [hls,h])
  refine enterK (tb:=tb) Tryz.func33 rfl Tryz.ntmps33 rfl ?_
  repeat' (first|(apply R.is1;first|(apply R.isBin;first|(apply R.pure;exact rfl;first|(apply Ok1.eql_t;exact rfl;exact rfl;omega)|(apply Ok1.eql_f;exact rfl;exact rfl;omega)|(apply Ok1.eqlP;(iterate 5 exact rfl))|(apply Ok1.eqlM;(iterate 5 exact rfl))|(apply Ok1.eqlS;(iterate 5 exact rfl)))|(apply R.eql rfl rfl rfl<;>intro)|(apply R.eqlF;(iterate 8 exact rfl);all_goals intro))|(apply R.isCall;first|(apply R.callE;(iterate 3 exact rfl);exact Ext.none _;intro w1 hw1;exact hfr w1 hw1.chg;rintro v Lo ⟨f,rfl,rfl,hfo,hflen,hfcat,hfrd⟩;rw [slV_eq hfo,List.append_assoc];rw [hfre] at hfcat;rw [hmapl] at hflen)|(apply R.callV;(iterate 3 exact rfl);intro w1 hw1;have h9:=tag_ok pk k.length ck k rfl hkl hkb (ovp f.ov) f.pts.length (ovc f.ov f.pts.length) f.pts rfl (by rw [hfcat];exact hfb) (by rw [hfcat];exact hbig) (by omega) w1 (hpk.chg' hw1.chg (fun _=>Off.nil _)) (RdSl.own' hw1 (Ext.mem (by (focus (repeat' first|exact Ext.none _|exact Ext.one _ _|exact Ext.here _ _|exact Ext.all _|apply Ext.cons|apply Ext.app|apply Ext.two);done))) hfo Pt.v_len) (hfrd w1 (fun z hz=>hw1.get _ _ (Ext.mem (s:=f.ex) (by (focus (repeat' first|exact Ext.none _|exact Ext.one _ _|exact Ext.here _ _|exact Ext.all _|apply Ext.cons|apply Ext.app|apply Ext.two);done)) z hz)) (fun x hx=>(hall x hx).chg' hw1.chg (fun _=>Off.nil _)));rw [hfcat,← hdd] at h9;exact h9)|(apply R.callE;(iterate 3 exact rfl);exact Ext.none _;intro w1 hw1;exact new_ok (some ⟨_,0,none⟩) 32 32 d0 hdl.symm (by decide) w1 (RdSl.of (junk:=[]) hw1 (by (focus (repeat' first|exact At.head|apply At.tail|apply At.right);done)) (by rw [fl_u8,List.append_nil]));rintro v Lo ⟨bk2,ov2,rfl,hov2,_,rfl⟩))|(apply R.pure;exact rfl;first|(apply Ok1.sliceArr;(iterate 4 exact rfl))|(apply Ok1.move;exact rfl)|(apply Ok1.fieldAddr;(iterate 5 exact rfl))|(apply Ok1.load;exact rfl;first|(apply Ld.own1;exact rfl;exact rfl;(focus (repeat' first|exact At.head|apply At.tail|apply At.right);done);exact rfl)|(apply Ld.ownk;exact rfl;exact rfl;(focus (repeat' first|exact At.head|apply At.tail|apply At.right);done);exact rfl)|(apply Ld.old1;exact rfl;exact rfl;assumption;(first|exact List.not_mem_nil|assumption))|(apply Ld.blk1;exact rfl;exact rfl;assumption;(first|exact List.not_mem_nil|assumption);exact rfl)|(apply Ld.blkk;exact rfl;exact rfl;assumption;(first|exact List.not_mem_nil|assumption);exact rfl))|(apply Ok1.assign;exact rfl)|(apply Ok1.nilCheck;exact rfl)|(apply Ok1.nilCheckF;exact rfl)|(apply Ok1.slice0;(iterate 7 exact rfl);(refine ⟨?_,?_,?_⟩<;>omega);(first|exact Or.inl rfl|exact Or.inr (fun e=>by cases e)))|(apply Ok1.sliceTo;(iterate 6 exact rfl);omega;omega;omega;(first|exact Or.inl rfl|exact Or.inr (fun e=>by cases e)))|(apply Ok1.sliceFrom;(iterate 7 exact rfl);omega;omega;omega;omega;omega;(first|exact Or.inl rfl|exact Or.inr (fun e=>by cases e))))|(apply R.alloc;(iterate 3 exact rfl);intro))|(apply R.is0;first|(apply R.store;(iterate 4 exact rfl);exact hls;exact hone;(focus (repeat' first|exact Upd.head|apply Upd.tail|apply Upd.right);done);exact hset _ rfl)|(apply R.store;(iterate 6 exact rfl);(focus (repeat' first|exact Upd.head|apply Upd.tail|apply Upd.right);done);exact rfl)|fail)|(apply R.isG;first|(apply R.guard_run;exact rfl;exact rfl)|(apply R.guard_not;(iterate 3 exact rfl))|(apply R.guard_not0;exact rfl;exact rfl)|(apply R.guard_un;(iterate 3 exact rfl))|(apply R.guard_un0;exact rfl;exact rfl)|(apply R.guard rfl rfl ?_ (fun h=>⟨rfl,?_⟩)<;>try intro))|apply R.nil|(apply T.is;first|(apply T.drawC (id:=3) [] (by decide);((apply A.tk 0;exact rfl;kernel_rfl;first|(apply Ok1.move;exact rfl))<;>(apply A.tk 1;exact rfl;kernel_rfl;first|(apply Ok1.nilCheck;exact rfl)|(apply Ok1.nilCheckF;exact rfl))<;>(apply A.tk 2;exact rfl;kernel_rfl;first|(apply Ok1.fieldAddr;(iterate 5 exact rfl)))<;>(apply A.tk 3;exact rfl;kernel_rfl;first|(apply Ok1.load;exact rfl;first|(apply Ld.own1;exact rfl;exact rfl;(focus (repeat' first|exact At.head|apply At.tail|apply At.right);done);exact rfl)|(apply Ld.ownk;exact rfl;exact rfl;(focus (repeat' first|exact At.head|apply At.tail|apply At.right);done);exact rfl)|(apply Ld.old1;exact rfl;exact rfl;assumption;(first|exact List.not_mem_nil|assumption))|(apply Ld.blk1;exact rfl;exact rfl;assumption;(first|exact List.not_mem_nil|assumption);exact rfl)|(apply Ld.blkk;exact rfl;exact rfl;assumption;(first|exact List.not_mem_nil|assumption);exact rfl)))<;>(apply A.tk 4;exact rfl;kernel_rfl;first|(apply Ok1.move;exact rfl))<;>(apply A.tk 5;exact rfl;kernel_rfl;first|(apply Ok1.move;exact rfl))<;>(apply A.two 6 8;kernel_rfl;exact rfl;exact rfl;rotate_left 1;(focus ((((first|(apply R.alloc;(iterate 3 exact rfl);intro)|fail));apply R.nil;refine ⟨?_,?_⟩;(focus (repeat' first|exact trivial|exact At.head|apply At.tail|apply At.right|refine ⟨?_,?_⟩)))<;>(apply A.one 6;kernel_rfl;exact rfl;((first|(apply R.callE;(iterate 3 exact rfl);exact Ext.none _;intro w1 hw1;exact hfr w1 hw1.chg;rintro v Lo ⟨f,rfl,rfl,hfo,hflen,hfcat,hfrd⟩;rw [slV_eq hfo,List.append_assoc];rw [hfre] at hfcat;rw [hmapl] at hflen)|(apply R.callV;(iterate 3 exact rfl);intro w1 hw1;have h9:=tag_ok pk k.length ck k rfl hkl hkb (ovp f.ov) f.pts.length (ovc f.ov f.pts.length) f.pts rfl (by rw [hfcat];exact hfb) (by rw [hfcat];exact hbig) (by omega) w1 (hpk.chg' hw1.chg (fun _=>Off.nil _)) (RdSl.own' hw1 (Ext.mem (by (focus (repeat' first|exact Ext.none _|exact Ext.one _ _|exact Ext.here _ _|exact Ext.all _|apply Ext.cons|apply Ext.app|apply Ext.two);done))) hfo Pt.v_len) (hfrd w1 (fun z hz=>hw1.get _ _ (Ext.mem (s:=f.ex) (by (focus (repeat' first|exact Ext.none _|exact Ext.one _ _|exact Ext.here _ _|exact Ext.all _|apply Ext.cons|apply Ext.app|apply Ext.two);done)) z hz)) (fun x hx=>(hall x hx).chg' hw1.chg (fun _=>Off.nil _)));rw [hfcat,← hdd] at h9;exact h9)|(apply R.callE;(iterate 3 exact rfl);exact Ext.none _;intro w1 hw1;exact new_ok (some ⟨_,0,none⟩) 32 32 d0 hdl.symm (by decide) w1 (RdSl.of (junk:=[]) hw1 (by (focus (repeat' first|exact At.head|apply At.tail|apply At.right);done)) (by rw [fl_u8,List.append_nil]));rintro v Lo ⟨bk2,ov2,rfl,hov2,_,rfl⟩)|(apply R.pure;exact rfl;first|(apply Ok1.lenS;(iterate 3 exact rfl))|(apply Ok1.lenStr;(iterate 3 exact rfl))|(apply Ok1.lenMm;(iterate 3 exact rfl);(focus (repeat' first|exact At.head|apply At.tail|apply At.right);done))|(apply Ok1.lenM_nil;(iterate 3 exact rfl))|(apply Ok1.max2;exact rfl;exact rfl)|(apply Ok1.min2;exact rfl;exact rfl))));apply R.nil;refine ⟨?_,?_⟩;(focus (repeat' first|exact trivial|exact At.head|apply At.tail|apply At.right|refine ⟨?_,?_⟩)))<;>(apply A.one 7;kernel_rfl;exact rfl;((first|(apply R.callE;(iterate 3 exact rfl);exact Ext.none _;intro w1 hw1;exact hfr w1 hw1.chg;rintro v Lo ⟨f,rfl,rfl,hfo,hflen,hfcat,hfrd⟩;rw [slV_eq hfo,List.append_assoc];rw [hfre] at hfcat;rw [hmapl] at hflen)|(apply R.callV;(iterate 3 exact rfl);intro w1 hw1;have h9:=tag_ok pk k.length ck k rfl hkl hkb (ovp f.ov) f.pts.length (ovc f.ov f.pts.length) f.pts rfl (by rw [hfcat];exact hfb) (by rw [hfcat];exact hbig) (by omega) w1 (hpk.chg' hw1.chg (fun _=>Off.nil _)) (RdSl.own' hw1 (Ext.mem (by (focus (repeat' first|exact Ext.none _|exact Ext.one _ _|exact Ext.here _ _|exact Ext.all _|apply Ext.cons|apply Ext.app|apply Ext.two);done))) hfo Pt.v_len) (hfrd w1 (fun z hz=>hw1.get _ _ (Ext.mem (s:=f.ex) (by (focus (repeat' first|exact Ext.none _|exact Ext.one _ _|exact Ext.here _ _|exact Ext.all _|apply Ext.cons|apply Ext.app|apply Ext.two);done)) z hz)) (fun x hx=>(hall x hx).chg' hw1.chg (fun _=>Off.nil _)));rw [hfcat,← hdd] at h9;exact h9)|(apply R.callE;(iterate 3 exact rfl);exact Ext.none _;intro w1 hw1;exact new_ok (some ⟨_,0,none⟩) 32 32 d0 hdl.symm (by decide) w1 (RdSl.of (junk:=[]) hw1 (by (focus (repeat' first|exact At.head|apply At.tail|apply At.right);done)) (by rw [fl_u8,List.append_nil]));rintro v Lo ⟨bk2,ov2,rfl,hov2,_,rfl⟩)|(apply R.pure;exact rfl;first|(apply Ok1.lenS;(iterate 3 exact rfl))|(apply Ok1.lenStr;(iterate 3 exact rfl))|(apply Ok1.lenMm;(iterate 3 exact rfl);(focus (repeat' first|exact At.head|apply At.tail|apply At.right);done))|(apply Ok1.lenM_nil;(iterate 3 exact rfl))|(apply Ok1.max2;exact rfl;exact rfl)|(apply Ok1.min2;exact rfl;exact rfl))));apply R.nil;refine ⟨?_,?_⟩;(focus (repeat' first|exact trivial|exact At.head|apply At.tail|apply At.right|refine ⟨?_,?_⟩)))<;>(apply A.one 9;kernel_rfl;exact rfl;((first|(apply R.store;(iterate 4 exact rfl);exact hls;exact hone;(focus (repeat' first|exact Upd.head|apply Upd.tail|apply Upd.right);done);exact hset _ rfl)|(apply R.store;(iterate 6 exact rfl);(focus (repeat' first|exact Upd.head|apply Upd.tail|apply Upd.right);done);exact rfl)|fail));apply R.nil;refine ⟨?_,?_⟩;(focus (repeat' first|exact trivial|exact At.head|apply At.tail|apply At.right|refine ⟨?_,?_⟩)))<;>(apply A.done;kernel_rfl)));rotate_right 1;(focus ((((first|(apply R.callE;(iterate 3 exact rfl);exact Ext.none _;intro w1 hw1;exact hfr w1 hw1.chg;rintro v Lo ⟨f,rfl,rfl,hfo,hflen,hfcat,hfrd⟩;rw [slV_eq hfo,List.append_assoc];rw [hfre] at hfcat;rw [hmapl] at hflen)|(apply R.callV;(iterate 3 exact rfl);intro w1 hw1;have h9:=tag_ok pk k.length ck k rfl hkl hkb (ovp f.ov) f.pts.length (ovc f.ov f.pts.length) f.pts rfl (by rw [hfcat];exact hfb) (by rw [hfcat];exact hbig) (by omega) w1 (hpk.chg' hw1.chg (fun _=>Off.nil _)) (RdSl.own' hw1 (Ext.mem (by (focus (repeat' first|exact Ext.none _|exact Ext.one _ _|exact Ext.here _ _|exact Ext.all _|apply Ext.cons|apply Ext.app|apply Ext.two);done))) hfo Pt.v_len) (hfrd w1 (fun z hz=>hw1.get _ _ (Ext.mem (s:=f.ex) (by (focus (repeat' first|exact Ext.none _|exact Ext.one _ _|exact Ext.here _ _|exact Ext.all _|apply Ext.cons|apply Ext.app|apply Ext.two);done)) z hz)) (fun x hx=>(hall x hx).chg' hw1.chg (fun _=>Off.nil _)));rw [hfcat,← hdd] at h9;exact h9)|(apply R.callE;(iterate 3 exact rfl);exact Ext.none _;intro w1 hw1;exact new_ok (some ⟨_,0,none⟩) 32 32 d0 hdl.symm (by decide) w1 (RdSl.of (junk:=[]) hw1 (by (focus (repeat' first|exact At.head|apply At.tail|apply At.right);done)) (by rw [fl_u8,List.append_nil]));rintro v Lo ⟨bk2,ov2,rfl,hov2,_,rfl⟩)|(apply R.pure;exact rfl;first|(apply Ok1.lenS;(iterate 3 exact rfl))|(apply Ok1.lenStr;(iterate 3 exact rfl))|(apply Ok1.lenMm;(iterate 3 exact rfl);(focus (repeat' first|exact At.head|apply At.tail|apply At.right);done))|(apply Ok1.lenM_nil;(iterate 3 exact rfl))|(apply Ok1.max2;exact rfl;exact rfl)|(apply Ok1.min2;exact rfl;exact rfl))));apply R.nil;refine ⟨?_,?_⟩;(focus (repeat' first|exact trivial|exact At.head|apply At.tail|apply At.right|refine ⟨?_,?_⟩)))<;>(apply A.two 7 8;kernel_rfl;exact rfl;exact rfl;rotate_left 1;(focus ((((first|(apply R.alloc;(iterate 3 exact rfl);intro)|fail));apply R.nil;refine ⟨?_,?_⟩;(focus (repeat' first|exact trivial|exact At.head|apply At.tail|apply At.right|refine ⟨?_,?_⟩)))<;>(apply A.one 7;kernel_rfl;exact rfl;((first|(apply R.callE;(iterate 3 exact rfl);exact Ext.none _;intro w1 hw1;exact hfr w1 hw1.chg;rintro v Lo ⟨f,rfl,rfl,hfo,hflen,hfcat,hfrd⟩;rw [slV_eq hfo,List.append_assoc];rw [hfre] at hfcat;rw [hmapl] at hflen)|(apply R.callV;(iterate 3 exact rfl);intro w1 hw1;have h9:=tag_ok pk k.length ck k rfl hkl hkb (ovp f.ov) f.pts.length (ovc f.ov f.pts.length) f.pts rfl (by rw [hfcat];exact hfb) (by rw [hfcat];exact hbig) (by omega) w1 (hpk.chg' hw1.chg (fun _=>Off.nil _)) (RdSl.own' hw1 (Ext.mem (by (focus (repeat' first|exact Ext.none _|exact Ext.one _ _|exact Ext.here _ _|exact Ext.all _|apply Ext.cons|apply Ext.app|apply Ext.two);done))) hfo Pt.v_len) (hfrd w1 (fun z hz=>hw1.get _ _ (Ext.mem (s:=f.ex) (by (focus (repeat' first|exact Ext.none _|exact Ext.one _ _|exact Ext.here _ _|exact Ext.all _|apply Ext.cons|apply Ext.app|apply Ext.two);done)) z hz)) (fun x hx=>(hall x hx).chg' hw1.chg (fun _=>Off.nil _)));rw [hfcat,← hdd] at h9;exact h9)|(apply R.callE;(iterate 3 exact rfl);exact Ext.none _;intro w1 hw1;exact new_ok (some ⟨_,0,none⟩) 32 32 d0 hdl.symm (by decide) w1 (RdSl.of (junk:=[]) hw1 (by (focus (repeat' first|exact At.head|apply At.tail|apply At.right);done)) (by rw [fl_u8,List.append_nil]));rintro v Lo ⟨bk2,ov2,rfl,hov2,_,rfl⟩)|(apply R.pure;exact rfl;first|(apply Ok1.lenS;(iterate 3 exact rfl))|(apply Ok1.lenStr;(iterate 3 exact rfl))|(apply Ok1.lenMm;(iterate 3 exact rfl);(focus (repeat' first|exact At.head|apply At.tail|apply At.right);done))|(apply Ok1.lenM_nil;(iterate 3 exact rfl))|(apply Ok1.max2;exact rfl;exact rfl)|(apply Ok1.min2;exact rfl;exact rfl))));apply R.nil;refine ⟨?_,?_⟩;(focus (repeat' first|exact trivial|exact At.head|apply At.tail|apply At.right|refine ⟨?_,?_⟩)))<;>(apply A.one 9;kernel_rfl;exact rfl;((first|(apply R.store;(iterate 4 exact rfl);exact hls;exact hone;(focus (repeat' first|exact Upd.head|apply Upd.tail|apply Upd.right);done);exact hset _ rfl)|(apply R.store;(iterate 6 exact rfl);(focus (repeat' first|exact Upd.head|apply Upd.tail|apply Upd.right);done);exact rfl)|fail));apply R.nil;refine ⟨?_,?_⟩;(focus (repeat' first|exact trivial|exact At.head|apply At.tail|apply At.right|refine ⟨?_,?_⟩)))<;>(apply A.done;kernel_rfl)));rotate_right 1;(focus ((((first|(apply R.callE;(iterate 3 exact rfl);exact Ext.none _;intro w1 hw1;exact hfr w1 hw1.chg;rintro v Lo ⟨f,rfl,rfl,hfo,hflen,hfcat,hfrd⟩;rw [slV_eq hfo,List.append_assoc];rw [hfre] at hfcat;rw [hmapl] at hflen)|(apply R.callV;(iterate 3 exact rfl);intro w1 hw1;have h9:=tag_ok pk k.length ck k rfl hkl hkb (ovp f.ov) f.pts.length (ovc f.ov f.pts.length) f.pts rfl (by rw [hfcat];exact hfb) (by rw [hfcat];exact hbig) (by omega) w1 (hpk.chg' hw1.chg (fun _=>Off.nil _)) (RdSl.own' hw1 (Ext.mem (by (focus (repeat' first|exact Ext.none _|exact Ext.one _ _|exact Ext.here _ _|exact Ext.all _|apply Ext.cons|apply Ext.app|apply Ext.two);done))) hfo Pt.v_len) (hfrd w1 (fun z hz=>hw1.get _ _ (Ext.mem (s:=f.ex) (by (focus (repeat' first|exact Ext.none _|exact Ext.one _ _|exact Ext.here _ _|exact Ext.all _|apply Ext.cons|apply Ext.app|apply Ext.two);done)) z hz)) (fun x hx=>(hall x hx).chg' hw1.chg (fun _=>Off.nil _)));rw [hfcat,← hdd] at h9;exact h9)|(apply R.callE;(iterate 3 exact rfl);exact Ext.none _;intro w1 hw1;exact new_ok (some ⟨_,0,none⟩) 32 32 d0 hdl.symm (by decide) w1 (RdSl.of (junk:=[]) hw1 (by (focus (repeat' first|exact At.head|apply At.tail|apply At.right);done)) (by rw [fl_u8,List.append_nil]));rintro v Lo ⟨bk2,ov2,rfl,hov2,_,rfl⟩)|(apply R.pure;exact rfl;first|(apply Ok1.lenS;(iterate 3 exact rfl))|(apply Ok1.lenStr;(iterate 3 exact rfl))|(apply Ok1.lenMm;(iterate 3 exact rfl);(focus (repeat' first|exact At.head|apply At.tail|apply At.right);done))|(apply Ok1.lenM_nil;(iterate 3 exact rfl))|(apply Ok1.max2;exact rfl;exact rfl)|(apply Ok1.min2;exact rfl;exact rfl))));apply R.nil;refine ⟨?_,?_⟩;(focus (repeat' first|exact trivial|exact At.head|apply At.tail|apply At.right|refine ⟨?_,?_⟩)))<;>(apply A.one 8;kernel_rfl;exact rfl;((first|(apply R.alloc;(iterate 3 exact rfl);intro)|fail));apply R.nil;refine ⟨?_,?_⟩;(focus (repeat' first|exact trivial|exact At.head|apply At.tail|apply At.right|refine ⟨?_,?_⟩)))<;>(apply A.one 9;kernel_rfl;exact rfl;((first|(apply R.store;(iterate 4 exact rfl);exact hls;exact hone;(focus (repeat' first|exact Upd.head|apply Upd.tail|apply Upd.right);done);exact hset _ rfl)|(apply R.store;(iterate 6 exact rfl);(focus (repeat' first|exact Upd.head|apply Upd.tail|apply Upd.right);done);exact rfl)|fail));apply R.nil;refine ⟨?_,?_⟩;(focus (repeat' first|exact trivial|exact At.head|apply At.tail|apply At.right|refine ⟨?_,?_⟩)))<;>(apply A.done;kernel_rfl)))))))))|apply T.seq|apply T.region|apply T.block|apply T.scope|apply T.label|apply T.skip|apply T.exit|apply T.ret|(apply T.cond_t;exact rfl)|(apply T.cond_f;exact rfl)|(apply T.cond_h;exact rfl;assumption)|(apply T.cond_n;exact rfl;assumption)|(apply T.cond rfl<;>intro))|apply Rnd.step)
  all_goals (apply RetOk.t;exact rfl)
  all_goals rw [hdl] at hov2
  all_goals refine ⟨_,?_,bk2,ov2,rfl,hov2,rfl⟩
  all_goals (focus (repeat' first|exact Keep.nil _|exact Ext.one _ _|exact Ext.here _ _|exact Ext.all _|apply Keep.cons|apply Keep.app|apply Keep.last|apply Ext.cons|apply Ext.app);done)
structure Cl where
  id:Int
  roles:Int
  exp:Int
  ser:Int
  deriving DecidableEq
instance:Inhabited Cl:=⟨⟨0,0,0,0⟩⟩
def Cl.v (c:Cl):List Value:=[.int .i64 c.id,.int .i64 c.roles,.int .i64 c.exp,.int .i64 c.ser]
def kvC (c:Cl):Value:=.agg ⟨[.int .i64 c.id,.int .i64 c.roles,.int .i64 c.exp,.int .i64 c.ser]⟩
def Cl.right (c:Cl):Prop:=1≤c.id∧c.id≤65535∧0≤c.roles∧c.roles≤255∧0≤c.exp∧c.exp≤1073741824∧1≤c.ser∧c.ser≤65535
instance (c:Cl):Decidable c.right:=by unfold Cl.right;infer_instance

theorem spans_ok (a b c d:Int):CallP Tryz.prog 70 [.agg ⟨[.int .i64 a,.int .i64 b,.int .i64 c,.int .i64 d]⟩]
    (.agg ⟨[.int .i64 a,.int .i64 1,.int .i64 65535,.int .i64 b,.int .i64 0,.int .i64 255,.int .i64 c,.int .i64 0,.int .i64 1073741824,.int .i64 d,.int .i64 1,.int .i64 65535]⟩):=by
  refine enterP (tb:=tb) Tryz.func70 rfl Tryz.ntmps70 rfl fun w=>?_
  repeat' (first|(apply R.is1;first|(apply R.pure;exact rfl;first|(apply Ok1.fieldAddr;(iterate 5 exact rfl))|(apply Ok1.load;exact rfl;first|(apply Ld.own1;exact rfl;exact rfl;(focus (repeat' first|exact At.head|apply At.tail|apply At.right);done);exact rfl)|(apply Ld.ownk;exact rfl;exact rfl;(focus (repeat' first|exact At.head|apply At.tail|apply At.right);done);exact rfl)|(apply Ld.old1;exact rfl;exact rfl;assumption;(first|exact List.not_mem_nil|assumption))|(apply Ld.blk1;exact rfl;exact rfl;assumption;(first|exact List.not_mem_nil|assumption);exact rfl)|(apply Ld.blkk;exact rfl;exact rfl;assumption;(first|exact List.not_mem_nil|assumption);exact rfl))|(apply Ok1.build;(iterate 5 exact rfl))|(apply Ok1.buildA;(iterate 6 exact rfl)))|(apply R.box;(iterate 3 exact rfl);intro)|(apply R.alloc;(iterate 3 exact rfl);intro))|(apply R.is0;first|(apply R.store;(iterate 6 exact rfl);(focus (repeat' first|exact Upd.head|apply Upd.tail|apply Upd.right);done);exact rfl)|fail)|(apply R.isG;first|(apply R.guard_run;exact rfl;exact rfl)|(apply R.guard_not;(iterate 3 exact rfl))|(apply R.guard_not0;exact rfl;exact rfl)|(apply R.guard_un;(iterate 3 exact rfl))|(apply R.guard_un0;exact rfl;exact rfl)|(apply R.guard rfl rfl ?_ (fun h=>⟨rfl,?_⟩)<;>try intro))|apply R.nil|(apply T.is;first|apply T.seq|apply T.region|apply T.block|apply T.scope|apply T.label|apply T.skip|apply T.exit|apply T.ret|(apply T.cond_t;exact rfl)|(apply T.cond_f;exact rfl)|(apply T.cond_h;exact rfl;assumption)|(apply T.cond_n;exact rfl;assumption)|(apply T.cond rfl<;>intro))|apply Rnd.step)
  (apply RetOk.c;exact rfl;(first|(apply Ld.ownk;exact rfl;exact rfl;(focus (repeat' first|exact At.head|apply At.tail|apply At.right);done);exact rfl)|(apply Ld.own1;exact rfl;exact rfl;(focus (repeat' first|exact At.head|apply At.tail|apply At.right);done);exact rfl)))
  rfl
theorem check_ok (a b c d:Int):CallP Tryz.prog 49 [.agg ⟨[.int .i64 a,.int .i64 b,.int .i64 c,.int .i64 d]⟩] (.int .i64 (if Cl.right ⟨a,b,c,d⟩ then 0 else 10)):=by
  refine enterP (tb:=tb) Tryz.func49 rfl Tryz.ntmps49 rfl fun w=>?_
  repeat' (first|(apply R.is1;first|(apply R.isBin;first|(apply R.pure;exact rfl;first|(apply Ok1.add64;exact rfl;exact rfl;omega;omega)|(apply Ok1.lss_t;exact rfl;exact rfl;omega)|(apply Ok1.lss_f;exact rfl;exact rfl;omega)|(apply Ok1.leq_t;exact rfl;exact rfl;omega)|(apply Ok1.leq_f;exact rfl;exact rfl;omega)|(apply Ok1.geq_t;exact rfl;exact rfl;omega)|(apply Ok1.geq_f;exact rfl;exact rfl;omega))|(apply R.lss rfl rfl rfl<;>intro)|(apply R.leq rfl rfl rfl<;>intro)|(apply R.geq rfl rfl rfl<;>intro))|(apply R.isCall;first|apply R.callP rfl rfl rfl (spans_ok _ _ _ _))|(apply R.pure;exact rfl;first|(apply Ok1.move;exact rfl)|(apply Ok1.fieldAddr;(iterate 5 exact rfl))|(apply Ok1.load;exact rfl;first|(apply Ld.own1;exact rfl;exact rfl;(focus (repeat' first|exact At.head|apply At.tail|apply At.right);done);exact rfl)|(apply Ld.ownk;exact rfl;exact rfl;(focus (repeat' first|exact At.head|apply At.tail|apply At.right);done);exact rfl)|(apply Ld.old1;exact rfl;exact rfl;assumption;(first|exact List.not_mem_nil|assumption))|(apply Ld.blk1;exact rfl;exact rfl;assumption;(first|exact List.not_mem_nil|assumption);exact rfl)|(apply Ld.blkk;exact rfl;exact rfl;assumption;(first|exact List.not_mem_nil|assumption);exact rfl))|(apply Ok1.assign;exact rfl)|(apply Ok1.pick_t;exact rfl;exact rfl)|(apply Ok1.pick_f;exact rfl;exact rfl)|(apply Ok1.pick_h;exact rfl;assumption;exact rfl)|(apply Ok1.pick_n;exact rfl;assumption;exact rfl)|(apply Ok1.index1;(iterate 6 exact rfl);omega;omega;exact rfl)|(apply Ok1.indexk;(iterate 6 exact rfl);omega;omega;exact rfl))|(apply R.box;(iterate 3 exact rfl);intro)|(apply R.alloc;(iterate 3 exact rfl);intro))|(apply R.is0;first|(apply R.store;(iterate 6 exact rfl);(focus (repeat' first|exact Upd.head|apply Upd.tail|apply Upd.right);done);exact rfl)|fail)|(apply R.isG;first|(apply R.guard_run;exact rfl;exact rfl)|(apply R.guard_not;(iterate 3 exact rfl))|(apply R.guard_not0;exact rfl;exact rfl)|(apply R.guard_un;(iterate 3 exact rfl))|(apply R.guard_un0;exact rfl;exact rfl)|(apply R.guard rfl rfl ?_ (fun h=>⟨rfl,?_⟩)<;>try intro))|apply R.nil|(apply T.is;first|apply T.rounds 5|apply T.seq|apply T.region|apply T.block|apply T.scope|apply T.label|apply T.skip|apply T.exit|apply T.ret|(apply T.cond_t;exact rfl)|(apply T.cond_f;exact rfl)|(apply T.cond_h;exact rfl;assumption)|(apply T.cond_n;exact rfl;assumption)|(apply T.cond rfl<;>intro))|apply Rnd.step)
  all_goals (apply RetOk.t;exact rfl)
  all_goals first|rw [if_pos (by simp only [Cl.right];omega)]|rw [if_neg (by simp only [Cl.right];omega)]

theorem to5_ok (a b c d:Int):CallP Tryz.prog 17 [.agg ⟨[.int .i64 a,.int .i64 b,.int .i64 c,.int .i64 d]⟩] (.agg ⟨[.int .i64 a,.int .i64 b,.int .i64 c,.int .i64 d]⟩):=by
  refine enterP (tb:=tb) Tryz.func17 rfl Tryz.ntmps17 rfl fun w=>?_
  repeat' (first|(apply R.is1;first|(apply R.pure;exact rfl;first|(apply Ok1.fieldAddr;(iterate 5 exact rfl))|(apply Ok1.load;exact rfl;first|(apply Ld.own1;exact rfl;exact rfl;(focus (repeat' first|exact At.head|apply At.tail|apply At.right);done);exact rfl)|(apply Ld.ownk;exact rfl;exact rfl;(focus (repeat' first|exact At.head|apply At.tail|apply At.right);done);exact rfl)|(apply Ld.old1;exact rfl;exact rfl;assumption;(first|exact List.not_mem_nil|assumption))|(apply Ld.blk1;exact rfl;exact rfl;assumption;(first|exact List.not_mem_nil|assumption);exact rfl)|(apply Ld.blkk;exact rfl;exact rfl;assumption;(first|exact List.not_mem_nil|assumption);exact rfl))|(apply Ok1.build;(iterate 5 exact rfl))|(apply Ok1.buildA;(iterate 6 exact rfl)))|(apply R.box;(iterate 3 exact rfl);intro)|(apply R.alloc;(iterate 3 exact rfl);intro))|(apply R.is0;first|(apply R.store;(iterate 6 exact rfl);(focus (repeat' first|exact Upd.head|apply Upd.tail|apply Upd.right);done);exact rfl)|fail)|(apply R.isG;first|(apply R.guard_run;exact rfl;exact rfl)|(apply R.guard_not;(iterate 3 exact rfl))|(apply R.guard_not0;exact rfl;exact rfl)|(apply R.guard_un;(iterate 3 exact rfl))|(apply R.guard_un0;exact rfl;exact rfl)|(apply R.guard rfl rfl ?_ (fun h=>⟨rfl,?_⟩)<;>try intro))|apply R.nil|(apply T.is;first|apply T.seq|apply T.region|apply T.block|apply T.scope|apply T.label|apply T.skip|apply T.exit|apply T.ret|(apply T.cond_t;exact rfl)|(apply T.cond_f;exact rfl)|(apply T.cond_h;exact rfl;assumption)|(apply T.cond_n;exact rfl;assumption)|(apply T.cond rfl<;>intro))|apply Rnd.step)
  (apply RetOk.c;exact rfl;(first|(apply Ld.ownk;exact rfl;exact rfl;(focus (repeat' first|exact At.head|apply At.tail|apply At.right);done);exact rfl)|(apply Ld.own1;exact rfl;exact rfl;(focus (repeat' first|exact At.head|apply At.tail|apply At.right);done);exact rfl)))
  rfl
structure Rm where
  kind:Int
  cl:Cl
  inc:Int
  deriving DecidableEq
def Rm.v (r:Rm):List Value:=[.int .i64 r.kind,.int .i64 r.cl.id,.int .i64 r.cl.roles,.int .i64 r.cl.exp,.int .i64 r.cl.ser,.int .i64 r.inc]
def Rm.chk (r:Rm):Int:=if r.kind < 0 ∨ 3≤r.kind then 13 else if ¬ r.cl.right ∨ r.inc < 0 ∨ 2147483647 < r.inc then 10 else 0
def Rm.outw (a b:Rm):Bool:=decide (a.cl=b.cl∧(a.inc > b.inc ∨ a.inc=b.inc∧a.kind > b.kind))
def entV (x:Rm × Int):List Value:=[.int .i64 x.1.kind,.int .i64 x.1.cl.id,.int .i64 x.1.cl.roles,.int .i64 x.1.cl.exp,.int .i64 x.1.cl.ser,.int .i64 x.1.inc,.int .i64 x.2]
def vvQ (x:Rm × Int):Value:=.agg ⟨entV x⟩
abbrev QMs:=Ms Cl (Rm × Int)
abbrev QS:=Option (Nat × QMs × Nat)
def adde (ms:QMs) (r:Rm):Int:=if r.chk≠0 then r.chk else match mget r.cl ms with
  | some h=>if r.outw h.1 then 0 else 9
  | none=>if ms.length=32 then 6 else 0
theorem adde_bad {ms:QMs} {r:Rm} (h:r.chk≠0):adde ms r=r.chk:=by simp only [adde,if_pos h]
theorem adde_some {ms:QMs} {r:Rm} (h:r.chk=0) {x:Rm × Int} (hm:mget r.cl ms=some x):adde ms r=if r.outw x.1 then 0 else 9:=by
  unfold adde;rw [if_neg (by simpa using h),hm]
theorem adde_none {ms:QMs} {r:Rm} (h:r.chk=0) (hm:mget r.cl ms=none):adde ms r=if ms.length=32 then 6 else 0:=by
  unfold adde;rw [if_neg (by simpa using h),hm]
set_option linter.unusedSectionVars false
section
variable {X:Cx} {σ:Env} {L:Lst} {ty:TypeId} {pos:String} {af:Array Edge} {d:Option Nat} {g:Option (Nat × Bool)} {x:Operand} {κ α:Type} {kv:κ→Value} {vv:α→Value} {ms:Ms κ α} {clk b c:Nat}
end
theorem nodup_map_born {κ α:Type} {l:Ms κ α} (h:(l.map (·.2.2)).Nodup):l.Nodup:=by
  induction l with
  | nil=>simp
  | cons m l ih =>
    simp only [List.map_cons,List.nodup_cons] at h ⊢
    exact ⟨fun hm=>h.1 (List.mem_map.2 ⟨m,hm,rfl⟩),ih h.2⟩
theorem nodup_sub_len {β:Type} [DecidableEq β]:∀ {l m:List β},l.Nodup→(∀ x∈l,x∈m)→l.length≤m.length
  | [],_,_,_=>Nat.zero_le _
  | a :: l,m,h,hs=>by
    rw [List.nodup_cons] at h
    have h1:=hs a List.mem_cons_self
    have h2:l.length≤(m.erase a).length:=nodup_sub_len h.2 fun x hx=>by
      have hne:x≠a:=fun e=>h.1 (e ▸ hx)
      exact (List.mem_erase_of_ne hne).2 (hs x (List.mem_cons_of_mem _ hx))
    rw [List.length_erase_of_mem h1] at h2
    have:0 < m.length:=List.length_pos_of_mem h1
    simp only [List.length_cons]
    omega
/-- Which entries have been met. -/
structure Met {κ α:Type} (ms vis:Ms κ α):Prop where
  nd:(vis.map (·.2.2)).Nodup
  sub:∀ e∈vis,e∈ms
theorem Met.step {κ α:Type} {ms vis:Ms κ α} (h:Met ms vis) {e:κ × α × Nat} (he:e∈ms) (hn:e.2.2 ∉ vis.map (·.2.2)):Met ms (vis++[e]):=by
  refine ⟨?_,?_⟩
  · rw [List.map_append,List.nodup_append]
    refine ⟨h.nd,by simp,?_⟩
    intro a ha b hb e'
    simp only [List.map_cons,List.map_nil,List.mem_singleton] at hb
    subst hb;subst e'
    exact hn ha
  · intro x hx
    rcases List.mem_append.1 hx with hx|hx
    · exact h.sub x hx
    · rw [List.mem_singleton.1 hx];exact he
theorem Met.perm {κ α:Type} {ms vis:Ms κ α} (h:Met ms vis) (hnd:(ms.map (·.2.2)).Nodup) (hall:∀ e∈ms,e.2.2∈vis.map (·.2.2)):vis.Perm ms:=by
  classical
  have nv:vis.Nodup:=nodup_map_born h.nd
  have nm:ms.Nodup:=nodup_map_born hnd
  refine (List.perm_ext_iff_of_nodup nv nm).2 fun e=>⟨h.sub e,fun he=>?_⟩
  obtain ⟨e',h1,h2⟩:=List.mem_map.1 (hall e he)
  have h3:=h.sub e' h1
  have:e'=e:=by
    have inj:∀ (ms:Ms κ α),(ms.map (·.2.2)).Nodup→e'∈ms→e∈ms→e'.2.2=e.2.2→e'=e:=by
      intro ms
      induction ms with
      | nil=>intro _ h;cases h
      | cons m ms ih =>
        intro hn h1 h2 h3
        simp only [List.map_cons,List.nodup_cons] at hn
        rcases List.mem_cons.1 h1 with a1|a1
        · rcases List.mem_cons.1 h2 with a2|a2
          · rw [a1,a2]
          · exact (hn.1 (a1 ▸ h3 ▸ List.mem_map.2 ⟨e,a2,rfl⟩)).elim
        · rcases List.mem_cons.1 h2 with a2|a2
          · exact (hn.1 (a2 ▸ h3 ▸ List.mem_map.2 ⟨e',a1,rfl⟩)).elim
          · exact ih hn.2 a1 a2 h3
    exact inj ms hnd h3 he h2
  exact this ▸ h1
theorem Met.le {κ α:Type} {ms vis:Ms κ α} (h:Met ms vis) (hnd:(ms.map (·.2.2)).Nodup) {e:κ × α × Nat} (he:e∈ms) (hn:e.2.2 ∉ vis.map (·.2.2)):vis.length < ms.length:=by
  have h2:=h.step he hn
  have h1:((vis++[e]).map (·.2.2)).length≤(ms.map (·.2.2)).length:=nodup_sub_len h2.nd fun x hx=>by
    obtain ⟨y,hy,rfl⟩:=List.mem_map.1 hx
    exact List.mem_map.2 ⟨y,h2.sub y hy,rfl⟩
  simp only [List.length_map,List.length_append,List.length_cons,List.length_nil] at h1
  omega
end Go.Proofs.YtijbmkjebidanaaGreatDoor
set_option linter.unusedSimpArgs false
set_option linter.unusedVariables false
set_option linter.unusedSectionVars false
namespace Go.Proofs.YtijbmkjebidanaaGreatDoor
section
variable {κ α:Type} [DecidableEq κ]
def mkeys (ms:Ms κ α):List κ:=ms.map (·.1)
theorem mget_none {k:κ}:∀ {ms:Ms κ α},mget k ms=none ↔ k ∉ mkeys ms
  | []=>by simp [mget,mkeys]
  | x :: r=>by
    have ih:=mget_none (k:=k) (ms:=r)
    by_cases h:x.1=k
    · simp [mget,mkeys,h]
    · simp only [mget,h,if_false,ih,mkeys,List.map_cons,List.mem_cons,not_or]
      exact ⟨fun h'=>⟨fun e=>h e.symm,h'⟩,fun h'=>h'.2⟩
theorem mset_keys (k:κ) (a:α):∀ (ms:Ms κ α),mkeys (mset k a ms)=mkeys ms
  | []=>rfl
  | x :: r=>by
    by_cases h:x.1=k
    · simp [mset,mkeys,h]
    · have:=mset_keys k a r
      simp only [mset,h,if_false,mkeys,List.map_cons] at this ⊢
      rw [this]
theorem mset_borns (k:κ) (a:α):∀ (ms:Ms κ α),(mset k a ms).map (·.2.2)=ms.map (·.2.2)
  | []=>rfl
  | x::r=>by
    by_cases h:x.1=k
    · simp [mset,h]
    · simp only [mset,h,if_false,List.map_cons,mset_borns k a r]
theorem mset_mem {k:κ} {a:α} {e:κ × α × Nat}:∀ {ms:Ms κ α},e∈mset k a ms→e∈ms ∨ (e.1=k∧e.2.1=a∧∃ a',(e.1,a',e.2.2)∈ms)
  | [],h=>by cases h
  | x :: r,h=>by
    by_cases hk:x.1=k
    · simp only [mset,hk,if_true] at h
      rcases List.mem_cons.1 h with rfl|h
      · exact .inr ⟨rfl,rfl,x.2.1,by rw [← hk];exact List.mem_cons_self⟩
      · exact .inl (List.mem_cons_of_mem _ h)
    · simp only [mset,hk,if_false] at h
      rcases List.mem_cons.1 h with rfl|h
      · exact .inl List.mem_cons_self
      · rcases mset_mem h with h|⟨h1,h2,a',h3⟩
        · exact .inl (List.mem_cons_of_mem _ h)
        · exact .inr ⟨h1,h2,a',List.mem_cons_of_mem _ h3⟩
/-- A map that is in order: keys once each,stamps once each and below the clock. -/
structure MWf (s:Ms κ α × Nat):Prop where
  bnd:∀ e∈s.1,e.2.2 < s.2
  nd:(s.1.map (·.2.2)).Nodup
  keys:(mkeys s.1).Nodup
theorem MWf.nil:MWf (([]:Ms κ α),0):=⟨by simp,by simp,by simp [mkeys]⟩
theorem MWf.set {s:Ms κ α × Nat} (h:MWf s) (k:κ) (a:α):MWf (mset k a s.1,s.2):=by
  refine ⟨fun e he=>?_,by rw [mset_borns];exact h.nd,by rw [mset_keys];exact h.keys⟩
  rcases mset_mem he with he|⟨_,_,a',h3⟩
  · exact h.bnd e he
  · exact h.bnd (e.1,a',e.2.2) h3
theorem MWf.snoc {s:Ms κ α × Nat} (h:MWf s) {k:κ} {a:α} (hk:mget k s.1=none):MWf (s.1++[(k,a,s.2)],s.2+1):=by
  refine ⟨fun e he=>?_,?_,?_⟩
  · rcases List.mem_append.1 he with he|he
    · have:=h.bnd e he;simp only;omega
    · rw [List.mem_singleton.1 he];simp
  · rw [List.map_append,List.nodup_append]
    refine ⟨h.nd,by simp,fun x hx y hy e=>?_⟩
    obtain ⟨z,hz,rfl⟩:=List.mem_map.1 hx
    have:=h.bnd z hz
    simp only [List.map_cons,List.map_nil,List.mem_singleton] at hy
    omega
  · simp only [mkeys,List.map_append,List.nodup_append]
    refine ⟨h.keys,by simp,fun x hx y hy e=>?_⟩
    simp only [List.map_cons,List.map_nil,List.mem_singleton] at hy
    exact mget_none.1 hk (hy ▸ e ▸ hx)
end
end Go.Proofs.YtijbmkjebidanaaGreatDoor
set_option linter.unusedSimpArgs false
set_option linter.unusedVariables false
namespace Go.Proofs.YtijbmkjebidanaaGreatDoor
open Go.RowKit Go.Shelf
set_option maxRecDepth 100000
def sHide:ByteArray:=⟨#[104,105,100,101]⟩
/-- One block of a stream. -/
def strm1 (k nonce:List Int) (i:Nat):List Int:=hmacI k ((nonce.length:Int)::(nonce++len4 i))
def strmB (k nonce:List Int) (m:Nat):List Int:=(List.range m).flatMap (strm1 k nonce)
/-- The first bytes of a key's stream. -/
def strmI (k nonce:List Int) (n:Nat):List Int:=(strmB (deriveI k sHide []) nonce ((n+31) / 32)).take n
/-- Each byte with the stream's. -/
def turnI (b s:List Int):List Int:=List.zipWith (xorI .u8) b s
theorem ktag_ok (bk:Nat) (k:List Int) (hkl:k.length≤999999000) (hkb:Byt k) (pp:Option Addr) (m cap:Nat) (ps:List Pt) (hm:m=ps.length) (hbyt:Byt (cat ps)) (hbig:(cat ps).length≤999998000) (hm2:m≤1000000000) (w:World) (hk:KeyR w bk k) (hpp:RdSl w pp Pt.v ps) (hall:∀ x∈ps,RdSl w x.p u8V x.xs) :
    CallW Tryz.prog 47 [.pointer (some ⟨bk,0,none⟩),.slice pp m cap] w fun v _=>v = .agg ⟨u8s (hmacI k (cat ps))⟩:=by
  obtain ⟨pk,ck,hb,hpk⟩:=hk
  have htg:=fun w1 (hc:Chg [] w w1)=>tag_ok pk k.length ck k rfl hkl hkb pp m cap ps hm hbyt hbig hm2 w1 (hpk.chg' hc (fun _=>Off.nil _)) (hpp.chg' hc (fun _=>Off.nil _)) (fun x hx=>(hall x hx).chg' hc (fun _=>Off.nil _))
  have hls:(u8s (hmacI k (cat ps))).length=32:=by rw [u8s_len,hmac_len]
  have hone:=u8s_one (hmacI k (cat ps))
  generalize u8s (hmacI k (cat ps))=D at *
  have hset:∀ cs:List Value,cs.length=32→setE cs 0 D=some D:=fun cs h=>setE_all (by rw [hls,h])
  refine enterW (tb:=tb) Tryz.func47 rfl Tryz.ntmps47 rfl ?_
  repeat' (first|(apply R.is1;first|(apply R.isBin;first|(apply R.pure;exact rfl;first|(apply Ok1.eqlP;(iterate 5 exact rfl))|(apply Ok1.eql_t;exact rfl;exact rfl;omega)|(apply Ok1.eql_f;exact rfl;exact rfl;omega)|(apply Ok1.eqlP;(iterate 5 exact rfl))|(apply Ok1.eqlM;(iterate 5 exact rfl))|(apply Ok1.eqlS;(iterate 5 exact rfl)))|(apply R.eql rfl rfl rfl<;>intro)|(apply R.eqlF;(iterate 8 exact rfl);all_goals intro))|(apply R.isCall;first|(apply R.callW (vs:=[.slice pk k.length ck,.slice pp m cap]);(iterate 3 exact rfl);intro w1 hw1;exact htg w1 hw1.chg;rintro v rfl))|(apply R.pure;exact rfl;first|(apply Ok1.move;exact rfl)|(apply Ok1.fieldAddr;(iterate 5 exact rfl))|(apply Ok1.load;exact rfl;first|(apply Ld.own1;exact rfl;exact rfl;(focus (repeat' first|exact At.head|apply At.tail|apply At.right);done);exact rfl)|(apply Ld.ownk;exact rfl;exact rfl;(focus (repeat' first|exact At.head|apply At.tail|apply At.right);done);exact rfl)|(apply Ld.old1;exact rfl;exact rfl;assumption;(first|exact List.not_mem_nil|assumption))|(apply Ld.blk1;exact rfl;exact rfl;assumption;(first|exact List.not_mem_nil|assumption);exact rfl)|(apply Ld.blkk;exact rfl;exact rfl;assumption;(first|exact List.not_mem_nil|assumption);exact rfl))|(apply Ok1.nilCheck;exact rfl)|(apply Ok1.nilCheckF;exact rfl))|(apply R.alloc;(iterate 3 exact rfl);intro))|(apply R.is0;first|(apply R.store;(iterate 4 exact rfl);exact hls;exact hone;(focus (repeat' first|exact Upd.head|apply Upd.tail|apply Upd.right);done);exact hset _ rfl)|(apply R.store;(iterate 6 exact rfl);(focus (repeat' first|exact Upd.head|apply Upd.tail|apply Upd.right);done);exact rfl)|fail)|(apply R.isG;first|(apply R.guard_run;exact rfl;exact rfl)|(apply R.guard_not;(iterate 3 exact rfl))|(apply R.guard_not0;exact rfl;exact rfl)|(apply R.guard_un;(iterate 3 exact rfl))|(apply R.guard_un0;exact rfl;exact rfl)|(apply R.guard rfl rfl ?_ (fun h=>⟨rfl,?_⟩)<;>try intro))|apply R.nil|(apply T.is;first|apply T.seq|apply T.region|apply T.block|apply T.scope|apply T.label|apply T.skip|apply T.exit|apply T.ret|(apply T.cond_t;exact rfl)|(apply T.cond_f;exact rfl)|(apply T.cond_h;exact rfl;assumption)|(apply T.cond_n;exact rfl;assumption)|(apply T.cond rfl<;>intro))|apply Rnd.step)
  (apply RetOk.c;exact rfl;(apply Ld.ownk;exact rfl;exact rfl;(focus (repeat' first|exact At.head|apply At.tail|apply At.right);done);exact subE_all hls))
  rfl
/-- What was sealed;what is wrong with sealed bytes. -/
def sopI (k nonce s:List Int):List Int:=turnI (s.take (s.length - 32)) (strmI k nonce (s.length - 32))
def HRt (o r v:Int):Prop:=1≤o∧o≤65535∧0≤r∧r < 8∧1≤v∧v≤2147483647
instance (o r v:Int):Decidable (HRt o r v):=by unfold HRt;infer_instance
def headI (o r v:Int):List Int:=(([]++numI 1 o)++numI 0 r)++numI 2 v
def noI (k:List Int) (o r v:Int) (s:List Int):List Int:=sopI k (headI o r v) s
/-- The blocks of the second list are taken out of the first,one by one. -/
def Rem9:Lst→Lst→Lst→Prop
  | L,[],L2=>L=L2
  | L,x::s,L2=>∃ P Q,L=P++x::Q∧Rem9 (P++Q) s L2
theorem Rem9.cons (y:Nat × Obj):∀ (s L L2:Lst),Rem9 L s L2→Rem9 (y::L) s (y::L2)
  | [],L,L2,h=>by
    have h':L=L2:=h
    subst h'
    exact rfl
  | x::s,L,L2,h=>by
    obtain ⟨P,Q,rfl,h⟩:=h
    exact ⟨y::P,Q,rfl,Rem9.cons y s _ _ h⟩
/-- An entry of a store. -/
structure SE where
  o:Int
  r:Int
  ver:Int
  bov:Ov
  body:List Int
  vov:Ov
  val:List Int
  op:Bool
def SE.v (e:SE):List Value:=[.int .i64 e.o,.int .i64 e.r,.int .i64 e.ver,slV e.bov e.body.length,slV e.vov e.val.length,.bool e.op]
def SE.L (e:SE):Lst:=blkL 5 e.bov (u8s e.body)++blkL 5 e.vov (u8s e.val)
abbrev SMs:=Ms (Int × Int) SE
def putM (ms:SMs) (clk:Nat) (k:Int × Int) (e:SE):SMs × Nat:=match mget k ms with|some _=>(mset k e ms,clk)|none=>if ms.length=64 then (ms,clk) else (ms++[(k,e,clk)],clk+1)
theorem KeyR.keep {ov:Ov} {bk:Nat} {xs:List Int} (hov:OvOk 1 ov xs.length (u8s xs)) {w0 w1 w2:World} {S:List Nat} {L Li Lr:Lst} (hw:Hp w0 S L w1) (he:Ext L Li Lr) (hin:∀ z∈KL bk ov xs,z∈Lr) (hc:Chg (blks Li) w1 w2):KeyR w2 bk xs:=by
  have hm:∀ z∈KL bk ov xs,w2.heap[z.1]? = some z.2:=fun z hz=>hc.heap (hw.get z.1 z.2 (he.perm.subset (List.mem_append_right _ (hin z hz)))) (RdSl.off hw he (hin z hz))
  refine ⟨ovp ov,ovc ov xs.length,?_,?_⟩
  · rw [← slV_eq hov]
    exact hm _ List.mem_cons_self
  · cases ov with
    | none =>
      have h0:xs=[]:=List.eq_nil_of_length_eq_zero hov.2
      rw [h0]
      exact .inl rfl
    | some q =>
      obtain ⟨b,j,junk⟩:=q
      exact RdSl.heap (junk:=junk) (e:=5) (fz:=(0,0)) (by rw [fl_u8];exact hm (b,_) (List.mem_cons_of_mem _ (by simp [blkL])))
end Go.Proofs.YtijbmkjebidanaaGreatDoor
set_option linter.unusedSimpArgs false
set_option linter.unusedVariables false
namespace Go.Proofs.YtijbmkjebidanaaGreatDoor
open Go.RowKit Go.Shelf Go.Sort
set_option maxRecDepth 100000
instance:Inhabited SE:=⟨⟨0,0,0,none,[],none,[],false⟩⟩
/-- A store as it must be. -/
structure SOk (ms:SMs) (clk:Nat):Prop where
  wf:MWf (ms,clk)
  key:∀ e∈ms,e.1=(e.2.1.o,e.2.1.r)
  hrt:∀ e∈ms,HRt e.2.1.o e.2.1.r e.2.1.ver
  bok:∀ e∈ms,OvOk 1 e.2.1.bov e.2.1.body.length (u8s e.2.1.body)
  vok:∀ e∈ms,OvOk 1 e.2.1.vov e.2.1.val.length (u8s e.2.1.val)
  blen:∀ e∈ms,e.2.1.body.length≤96
  vlen:∀ e∈ms,e.2.1.val.length≤96
  few:ms.length≤64
end Go.Proofs.YtijbmkjebidanaaGreatDoor
set_option linter.unusedSimpArgs false
set_option linter.unusedVariables false
namespace Go.Proofs.YtijbmkjebidanaaGreatDoor
open Go.RowKit Go.Shelf Go.Sort
set_option maxRecDepth 100000
/-- Is a role in a mask? -/
def inM (mask r:Int):Bool:=decide (andI .i64 (mask / (pw r.toNat)) 1=1)
/-- A note in memory of its own. -/
structure NE where
  o:Int
  r:Int
  ver:Int
  ov:Ov
  xs:List Int
instance:Inhabited NE:=⟨⟨0,0,0,none,[]⟩⟩
def NE.v (e:NE):List Value:=[.int .i64 e.o,.int .i64 e.r,.int .i64 e.ver,slV e.ov e.xs.length]
end Go.Proofs.YtijbmkjebidanaaGreatDoor
set_option linter.unusedSimpArgs false
set_option linter.unusedVariables false
namespace Go.Proofs.YtijbmkjebidanaaGreatDoor
open Go.RowKit Go.Shelf Go.Sort
set_option maxRecDepth 100000
section
variable {κ α β:Type} [DecidableEq κ]
end
theorem mset_len9 {κ α:Type} [DecidableEq κ] (k:κ) (a:α) (ms:Ms κ α):(mset k a ms).length=ms.length:=by
  have:=congrArg List.length (mset_keys k a ms)
  simpa [mkeys] using this
theorem mget_mem9 {κ α:Type} [DecidableEq κ] {k:κ} {a:α}:∀ {ms:Ms κ α},mget k ms=some a→∃ b,(k,a,b)∈ms
  | [],h=>by simp [mget] at h
  | x :: r,h=>by
    simp only [mget] at h
    by_cases hx:x.1=k
    · rw [if_pos hx] at h
      cases h
      exact ⟨x.2.2,by rw [← hx];exact List.mem_cons_self⟩
    · rw [if_neg hx] at h
      obtain ⟨b,hb⟩:=mget_mem9 h
      exact ⟨b,List.mem_cons_of_mem _ hb⟩
/-- What of an entry is seen through a mask. -/
def vis (mask:Int) (e:SE):Int × Int × Int × Nat × Bool × List Int × List Int:=(e.o,e.r,e.ver,e.body.length,e.op,if inM mask e.r=true then e.body else [],if inM mask e.r=true then e.val else [])
theorem SOk.put {ms:SMs} {clk:Nat} (h:SOk ms clk) (e:SE) (h1:HRt e.o e.r e.ver) (h2:OvOk 1 e.bov e.body.length (u8s e.body)) (h3:OvOk 1 e.vov e.val.length (u8s e.val)) (h4:e.body.length≤96) (h5:e.val.length≤96):SOk (putM ms clk (e.o,e.r) e).1 (putM ms clk (e.o,e.r) e).2:=by
  unfold putM
  cases hg:mget (e.o,e.r) ms with
  | some a =>
    have hall:∀ (P:(Int × Int) × SE × Nat→Prop),(∀ x∈ms,P x)→(∀ b,P ((e.o,e.r),e,b))→∀ x∈mset (e.o,e.r) e ms,P x:=by
      intro P hp hq x hx
      rcases mset_mem hx with h9|⟨h9,h8,_⟩
      · exact hp x h9
      · obtain ⟨k,v,b⟩:=x
        simp only at h9 h8
        subst h9 h8
        exact hq b
    refine ⟨h.wf.set _ _,hall _ h.key (fun _=>rfl),hall _ h.hrt (fun _=>h1),hall _ h.bok (fun _=>h2),hall _ h.vok (fun _=>h3),hall _ h.blen (fun _=>h4),hall _ h.vlen (fun _=>h5),?_⟩
    rw [mset_len9]
    exact h.few
  | none =>
    by_cases h64:ms.length=64
    · simp only [if_pos h64];exact h
    · simp only [if_neg h64]
      have hall:∀ (P:(Int × Int) × SE × Nat→Prop),(∀ x∈ms,P x)→(∀ b,P ((e.o,e.r),e,b))→∀ x∈ms++[((e.o,e.r),e,clk)],P x:=by
        intro P hp hq x hx
        rcases List.mem_append.1 hx with h9|h9
        · exact hp x h9
        · rw [List.mem_singleton.1 h9];exact hq _
      refine ⟨h.wf.snoc hg,hall _ h.key (fun _=>rfl),hall _ h.hrt (fun _=>h1),hall _ h.bok (fun _=>h2),hall _ h.vok (fun _=>h3),hall _ h.blen (fun _=>h4),hall _ h.vlen (fun _=>h5),?_⟩
      have:=h.few
      rw [List.length_append,List.length_singleton]
      omega
theorem SOk.nil:SOk [] 0:=⟨MWf.nil,by simp,by simp,by simp,by simp,by simp,by simp,by simp⟩
theorem SOk.ver {ms:SMs} {clk:Nat} (h:SOk ms clk):∀ k a,mget k ms=some a→a.ver≠0:=by
  intro k a hg
  obtain ⟨b,hb⟩:=mget_mem9 hg
  have:=(h.hrt _ hb).2.2.2.2.1
  simp only at this
  omega
end Go.Proofs.YtijbmkjebidanaaGreatDoor
set_option linter.unusedSimpArgs false
set_option linter.unusedVariables false
namespace Go.Proofs.YtijbmkjebidanaaGreatDoor
open Go.RowKit Go.Shelf
set_option maxRecDepth 100000
/-- A note as it is read: its value lies somewhere. -/
structure NT where
  o:Int
  r:Int
  ver:Int
  p:Option Addr
  cap:Nat
  xs:List Int
instance:Inhabited NT:=⟨⟨0,0,0,none,0,[]⟩⟩
def NT.v (e:NT):List Value:=[.int .i64 e.o,.int .i64 e.r,.int .i64 e.ver,.slice e.p e.xs.length e.cap]
section
variable {X:Cx} {σ:Env} {L:Lst} {ty t:TypeId} {pos:String} {af:Array Edge} {x y:Operand} {r:TRow}
end
section
variable {X:Cx} {σ:Env} {L:Lst} {ty t:TypeId} {pos:String} {af:Array Edge} {x y:Operand} {r:TRow} {xs ys:List Value} {ks:List TK}
end
/-- The walk stops here. -/
structure Stop (p:Prop):Prop where
  of:p
section
variable {X:Cx} {Q:Post} {σ:Env} {L:Lst}
theorem T.stop1 (i:Nat) {ops:Array Oper} {g:Bool} {d:Code} (h:Stop (T X (.seq (.region i ops g) d) Q σ L)):T X (.seq (.region i ops g) d) Q σ L:=h.of
end
section
variable {X:Cx} {σ:Env} {L Lr:Lst} {d:Option Nat} {dd:Nat} {ty:TypeId} {pos:String} {af:Array Edge} {g:Option (Nat × Bool)} {x y:Operand} {t t2 e:TypeId} {r r2 re:TRow}
variable {all:Array Oper} {rest:List Oper} {K:Env→Lst→Prop} {p:Option Addr} {n cap i:Nat}
end
section
variable {X:Cx} {σ:Env} {L Lr:Lst} {d:Option Nat} {ty:TypeId} {pos:String} {af:Array Edge} {g:Option (Nat × Bool)} {x:Operand} {t e:TypeId} {r re:TRow} {p:Option Addr} {n m cap b o i:Nat}
end
end Go.Proofs.YtijbmkjebidanaaGreatDoor
set_option linter.unusedSimpArgs false
set_option linter.unusedVariables false
namespace Go.Proofs.YtijbmkjebidanaaGreatDoor
open Go.RowKit Go.Shelf Go.Sort
set_option maxRecDepth 100000
/-- The entry that a note makes. -/
def Ent (K:List Int) (x:NE) (e:SE):Prop:=e.o=x.o∧e.r=x.r∧e.ver=x.ver∧e.body=x.xs∧e.val=noI K x.o x.r x.ver x.xs∧e.op=true
/-- A store has,of each owner and role,the greatest version of a list's. -/
def SInv (K:List Int) (l:List NE) (m:SMs):Prop:=∀ k:Int × Int,(mget k m=none→∀ x∈l,(x.o,x.r)≠k)∧∀ e,mget k m=some e→(∃ x∈l,(x.o,x.r)=k∧Ent K x e)∧∀ x∈l,(x.o,x.r)=k→x.ver≤e.ver
theorem SInv.nil (K:List Int):SInv K [] []:=fun k=>⟨fun _ x hx=>(by cases hx),fun e h=>(by simp [mget] at h)⟩
end Go.Proofs.YtijbmkjebidanaaGreatDoor
set_option linter.unusedSimpArgs false
set_option linter.unusedVariables false
namespace Go.Proofs.YtijbmkjebidanaaGreatDoor
open Go.RowKit Go.Shelf
set_option maxRecDepth 100000
def clI (c:Cl):List Int:=((([]++numI 1 c.id)++numI 0 c.roles)++numI 2 c.exp)++numI 1 c.ser
theorem clI_len (c:Cl):(clI c).length=9:=rfl
theorem byt_nil:Byt []:=fun x hx=>by cases hx
theorem clI_byt (c:Cl):Byt (clI c):=Byt.app (Byt.app (Byt.app (Byt.app byt_nil (num_byt _ _)) (num_byt _ _)) (num_byt _ _)) (num_byt _ _)
theorem clBytes_ok (c:Cl) (hr:c.right) (w:World):CallM Tryz.prog 32 [kvC c] [] w fun v L=>∃ ov,OvOk 1 ov 9 (u8s (clI c))∧v = .tuple #[slV ov 9,.int .i64 0]∧L=blkL 5 ov (u8s (clI c)):=by
  have hck:=check_ok c.id c.roles c.exp c.ser
  rw [if_pos hr] at hck
  have hf1:Fits 1 c.id:=by unfold Cl.right at hr;unfold Fits;omega
  have hf2:Fits 0 c.roles:=by unfold Cl.right at hr;unfold Fits;omega
  have hf3:Fits 2 c.exp:=by unfold Cl.right at hr;unfold Fits;omega
  have hf4:Fits 1 c.ser:=by unfold Cl.right at hr;unfold Fits;omega
  refine enterK (tb:=tb) Tryz.func32 rfl Tryz.ntmps32 rfl ?_
  simp only [kvC]
  repeat' (first|(apply R.is1;first|(apply R.isBin;first|(apply R.pure;exact rfl;first|(apply Ok1.neq_t;exact rfl;exact rfl;omega)|(apply Ok1.neq_f;exact rfl;exact rfl;omega)|(apply Ok1.neqP;(iterate 5 exact rfl))|(apply Ok1.neqM;(iterate 5 exact rfl))|(apply Ok1.neqS;(iterate 5 exact rfl)))|(apply R.neq rfl rfl rfl<;>intro)|(apply R.neqF;(iterate 8 exact rfl);all_goals intro))|(apply R.isCall;first|apply R.callP rfl rfl rfl hck)|(apply R.pure;exact rfl;first|(apply Ok1.move;exact rfl)|(apply Ok1.fieldAddr;(iterate 5 exact rfl))|(apply Ok1.load;exact rfl;first|(apply Ld.own1;exact rfl;exact rfl;(focus (repeat' first|exact At.head|apply At.tail|apply At.right);done);exact rfl)|(apply Ld.ownk;exact rfl;exact rfl;(focus (repeat' first|exact At.head|apply At.tail|apply At.right);done);exact rfl)|(apply Ld.old1;exact rfl;exact rfl;assumption;(first|exact List.not_mem_nil|assumption))|(apply Ld.blk1;exact rfl;exact rfl;assumption;(first|exact List.not_mem_nil|assumption);exact rfl)|(apply Ld.blkk;exact rfl;exact rfl;assumption;(first|exact List.not_mem_nil|assumption);exact rfl))|(apply Ok1.assign;exact rfl)|(apply Ok1.extract;exact rfl;exact rfl))|(apply R.box;(iterate 3 exact rfl);intro)|(apply R.alloc;(iterate 3 exact rfl);intro)|(apply R.buildSlice;(iterate 12 exact rfl);intro))|(apply R.is0;first|fail)|(apply R.isG;first|(apply R.guard_run;exact rfl;exact rfl)|(apply R.guard_not;(iterate 3 exact rfl))|(apply R.guard_not0;exact rfl;exact rfl)|(apply R.guard_un;(iterate 3 exact rfl))|(apply R.guard_un0;exact rfl;exact rfl)|(apply R.guard rfl rfl ?_ (fun h=>⟨rfl,?_⟩)<;>try intro))|apply R.nil|(apply T.is;first|apply T.seq|apply T.region|apply T.block|apply T.scope|apply T.label|apply T.skip|apply T.exit|apply T.ret|(apply T.cond_t;exact rfl)|(apply T.cond_f;exact rfl)|(apply T.cond_h;exact rfl;assumption)|(apply T.cond_n;exact rfl;assumption)|(apply T.cond rfl<;>intro))|apply Rnd.step)
  rename_i bc bw
  obtain ⟨B0,hB0⟩:∃ B:List Int,B=[]:=⟨_,rfl⟩
  obtain ⟨B1,hB1⟩:∃ B,B=B0++numI 1 c.id:=⟨_,rfl⟩
  obtain ⟨B2,hB2⟩:∃ B,B=B1++numI 0 c.roles:=⟨_,rfl⟩
  obtain ⟨B3,hB3⟩:∃ B,B=B2++numI 2 c.exp:=⟨_,rfl⟩
  obtain ⟨B4,hB4⟩:∃ B,B=B3++numI 1 c.ser:=⟨_,rfl⟩
  have hl0:B0.length≤1000:=by rw [hB0];decide
  have hl1:B1.length≤1000:=by rw [hB1,hB0];exact Nat.le_of_ble_eq_true rfl
  have hl2:B2.length≤1000:=by rw [hB2,hB1,hB0];exact Nat.le_of_ble_eq_true rfl
  have hl3:B3.length≤1000:=by rw [hB3,hB2,hB1,hB0];exact Nat.le_of_ble_eq_true rfl
  have hB:B4=clI c:=by rw [hB4,hB3,hB2,hB1,hB0];rfl
  have hw0:OvOk 1 none B0.length (u8s B0):=by rw [hB0];exact OvOk.start 1
  apply T.drawC (id:=5) [1] (by decide)
  (apply A.tk 0;exact rfl;kernel_rfl;first|(apply Ok1.fieldAddr;(iterate 5 exact rfl)))<;>(apply A.tk 1;exact rfl;kernel_rfl;first|(apply Ok1.load;exact rfl;first|(apply Ld.own1;exact rfl;exact rfl;(focus (repeat' first|exact At.head|apply At.tail|apply At.right);done);exact rfl)|(apply Ld.ownk;exact rfl;exact rfl;(focus (repeat' first|exact At.head|apply At.tail|apply At.right);done);exact rfl)|(apply Ld.old1;exact rfl;exact rfl;assumption;(first|exact List.not_mem_nil|assumption))|(apply Ld.blk1;exact rfl;exact rfl;assumption;(first|exact List.not_mem_nil|assumption);exact rfl)|(apply Ld.blkk;exact rfl;exact rfl;assumption;(first|exact List.not_mem_nil|assumption);exact rfl)))<;>(apply A.tk 4;exact rfl;kernel_rfl;first|(apply Ok1.fieldAddr;(iterate 5 exact rfl)))<;>(apply A.tk 5;exact rfl;kernel_rfl;first|(apply Ok1.load;exact rfl;first|(apply Ld.own1;exact rfl;exact rfl;(focus (repeat' first|exact At.head|apply At.tail|apply At.right);done);exact rfl)|(apply Ld.ownk;exact rfl;exact rfl;(focus (repeat' first|exact At.head|apply At.tail|apply At.right);done);exact rfl)|(apply Ld.old1;exact rfl;exact rfl;assumption;(first|exact List.not_mem_nil|assumption))|(apply Ld.blk1;exact rfl;exact rfl;assumption;(first|exact List.not_mem_nil|assumption);exact rfl)|(apply Ld.blkk;exact rfl;exact rfl;assumption;(first|exact List.not_mem_nil|assumption);exact rfl)))<;>(apply A.tk 8;exact rfl;kernel_rfl;first|(apply Ok1.fieldAddr;(iterate 5 exact rfl)))<;>(apply A.tk 9;exact rfl;kernel_rfl;first|(apply Ok1.load;exact rfl;first|(apply Ld.own1;exact rfl;exact rfl;(focus (repeat' first|exact At.head|apply At.tail|apply At.right);done);exact rfl)|(apply Ld.ownk;exact rfl;exact rfl;(focus (repeat' first|exact At.head|apply At.tail|apply At.right);done);exact rfl)|(apply Ld.old1;exact rfl;exact rfl;assumption;(first|exact List.not_mem_nil|assumption))|(apply Ld.blk1;exact rfl;exact rfl;assumption;(first|exact List.not_mem_nil|assumption);exact rfl)|(apply Ld.blkk;exact rfl;exact rfl;assumption;(first|exact List.not_mem_nil|assumption);exact rfl)))<;>(apply A.tk 12;exact rfl;kernel_rfl;first|(apply Ok1.fieldAddr;(iterate 5 exact rfl)))<;>(apply A.tk 13;exact rfl;kernel_rfl;first|(apply Ok1.load;exact rfl;first|(apply Ld.own1;exact rfl;exact rfl;(focus (repeat' first|exact At.head|apply At.tail|apply At.right);done);exact rfl)|(apply Ld.ownk;exact rfl;exact rfl;(focus (repeat' first|exact At.head|apply At.tail|apply At.right);done);exact rfl)|(apply Ld.old1;exact rfl;exact rfl;assumption;(first|exact List.not_mem_nil|assumption))|(apply Ld.blk1;exact rfl;exact rfl;assumption;(first|exact List.not_mem_nil|assumption);exact rfl)|(apply Ld.blkk;exact rfl;exact rfl;assumption;(first|exact List.not_mem_nil|assumption);exact rfl)))
  refine A.merge (fun σ L=>∃ (ov:Ov),OvOk 1 ov B4.length (u8s B4)∧Sub [(5,.pointer (some ⟨bw,0,none⟩)),(12,.int .i64 c.id),(16,.int .i64 c.roles),(20,.int .i64 c.exp),(24,.int .i64 c.ser),(26,.pointer (some ⟨bw,0,none⟩))] σ∧Keep L (WL bw ov B4++[(bc,.cells ⟨[.int .i64 c.id,.int .i64 c.roles,.int .i64 c.exp,.int .i64 c.ser]⟩ 37 (0,0))])) 5 #[true,true,true,true,true,true,true,true,true,true,true,true,true,true,true,true,false,false,false,false,false] ?_ ?_
  rotate_left 1
  focus
    intro H4_
    refine A.merge (fun σ L=>∃ (ov:Ov) (b3:Nat),OvOk 1 ov B3.length (u8s B3)∧Sub [(5,.pointer (some ⟨bw,0,none⟩)),(12,.int .i64 c.id),(16,.int .i64 c.roles),(20,.int .i64 c.exp),(24,.int .i64 c.ser),(22,.pointer (some ⟨bw,0,none⟩)),(25,.slice (some ⟨b3,0,none⟩) 1 1)] σ∧Keep L (WL bw ov B3++[(bc,.cells ⟨[.int .i64 c.id,.int .i64 c.roles,.int .i64 c.exp,.int .i64 c.ser]⟩ 37 (0,0)),(b3,.cells ⟨[.int .i64 c.ser]⟩ 3 (0,0))])) 6 #[true,true,true,true,true,true,true,true,true,true,true,true,true,true,true,false,false,false,false,false,false] ?_ ?_
    · rintro σ L ⟨ov,b3,hov,hs,hk⟩
      refine A.weak ?_ hs hk
      refine A.multi [15] (by kernel_rfl) (by decide) ⟨⟨_,rfl,?_⟩,trivial⟩
      · (apply R.callE (Li:=WL bw ov B3);(iterate 3 exact rfl);(focus (repeat' first|exact Ext.none _|exact Ext.one _ _|exact Ext.here _ _|exact Ext.all _|apply Ext.cons|apply Ext.app|apply Ext.two);done);intro w1 hw1;have h9:=number1_ok bw ov B3 hov 1 c.ser hf4 hl3 b3 _ _ w1 (hw1.get _ _ (At.mem (by (focus (repeat' first|exact At.head|apply At.tail|apply At.right);done)))) (RdSl.off hw1 (by (focus (repeat' first|exact Ext.none _|exact Ext.one _ _|exact Ext.here _ _|exact Ext.all _|apply Ext.cons|apply Ext.app|apply Ext.two);done)) (At.mem (by (focus (repeat' first|exact At.head|apply At.tail|apply At.right);done))));rw [← hB4] at h9;exact h9;rintro v Lo ⟨ov1,rfl,hov1,rfl⟩);apply R.nil;refine ⟨(by (focus (repeat' first|exact trivial|exact At.head|apply At.tail|apply At.right|refine ⟨?_,?_⟩))),A.cast (by kernel_rfl) (H4_ _ _ ⟨ov1,hov1,⟨rfl,rfl,rfl,rfl,rfl,rfl,trivial⟩,(by (focus (repeat' first|exact Keep.nil _|exact Ext.one _ _|exact Ext.here _ _|exact Ext.all _|apply Keep.cons|apply Keep.app|apply Keep.last|apply Ext.cons|apply Ext.app);done))⟩)⟩
    intro H3_3
    refine A.merge (fun σ L=>∃ (ov:Ov),OvOk 1 ov B3.length (u8s B3)∧Sub [(5,.pointer (some ⟨bw,0,none⟩)),(12,.int .i64 c.id),(16,.int .i64 c.roles),(20,.int .i64 c.exp),(24,.int .i64 c.ser),(22,.pointer (some ⟨bw,0,none⟩))] σ∧Keep L (WL bw ov B3++[(bc,.cells ⟨[.int .i64 c.id,.int .i64 c.roles,.int .i64 c.exp,.int .i64 c.ser]⟩ 37 (0,0))])) 7 #[true,true,true,true,true,true,true,true,true,true,true,true,true,true,false,false,false,false,false,false,false] ?_ ?_
    · rintro σ L ⟨ov,hov,hs,hk⟩
      refine A.weak ?_ hs hk
      refine A.multi [14] (by kernel_rfl) (by decide) ⟨⟨_,rfl,?_⟩,trivial⟩
      · ((first|(apply R.buildSlice;(iterate 12 exact rfl);intro)|fail));rename_i b3;apply R.nil;refine ⟨(by (focus (repeat' first|exact trivial|exact At.head|apply At.tail|apply At.right|refine ⟨?_,?_⟩))),A.cast (by kernel_rfl) (H3_3 _ _ ⟨ov,b3,hov,⟨rfl,rfl,rfl,rfl,rfl,rfl,rfl,trivial⟩,(by (focus (repeat' first|exact Keep.nil _|exact Ext.one _ _|exact Ext.here _ _|exact Ext.all _|apply Keep.cons|apply Keep.app|apply Keep.last|apply Ext.cons|apply Ext.app);done))⟩)⟩
    intro H3_
    refine A.merge (fun σ L=>∃ (ov:Ov) (b2:Nat) (b3:Nat),OvOk 1 ov B2.length (u8s B2)∧Sub [(5,.pointer (some ⟨bw,0,none⟩)),(12,.int .i64 c.id),(16,.int .i64 c.roles),(20,.int .i64 c.exp),(24,.int .i64 c.ser),(18,.pointer (some ⟨bw,0,none⟩)),(21,.slice (some ⟨b2,0,none⟩) 1 1),(25,.slice (some ⟨b3,0,none⟩) 1 1)] σ∧Keep L (WL bw ov B2++[(bc,.cells ⟨[.int .i64 c.id,.int .i64 c.roles,.int .i64 c.exp,.int .i64 c.ser]⟩ 37 (0,0)),(b2,.cells ⟨[.int .i64 c.exp]⟩ 3 (0,0)),(b3,.cells ⟨[.int .i64 c.ser]⟩ 3 (0,0))])) 7 #[true,true,true,true,true,true,true,true,true,true,true,false,true,true,true,false,false,false,false,false,false] ?_ ?_
    · rintro σ L ⟨ov,b2,b3,hov,hs,hk⟩
      refine A.weak ?_ hs hk
      refine A.multi [11] (by kernel_rfl) (by decide) ⟨⟨_,rfl,?_⟩,trivial⟩
      · (apply R.callE (Li:=WL bw ov B2);(iterate 3 exact rfl);(focus (repeat' first|exact Ext.none _|exact Ext.one _ _|exact Ext.here _ _|exact Ext.all _|apply Ext.cons|apply Ext.app|apply Ext.two);done);intro w1 hw1;have h9:=number1_ok bw ov B2 hov 2 c.exp hf3 hl2 b2 _ _ w1 (hw1.get _ _ (At.mem (by (focus (repeat' first|exact At.head|apply At.tail|apply At.right);done)))) (RdSl.off hw1 (by (focus (repeat' first|exact Ext.none _|exact Ext.one _ _|exact Ext.here _ _|exact Ext.all _|apply Ext.cons|apply Ext.app|apply Ext.two);done)) (At.mem (by (focus (repeat' first|exact At.head|apply At.tail|apply At.right);done))));rw [← hB3] at h9;exact h9;rintro v Lo ⟨ov1,rfl,hov1,rfl⟩);apply R.nil;refine ⟨(by (focus (repeat' first|exact trivial|exact At.head|apply At.tail|apply At.right|refine ⟨?_,?_⟩))),A.cast (by kernel_rfl) (H3_3 _ _ ⟨ov1,b3,hov1,⟨rfl,rfl,rfl,rfl,rfl,rfl,rfl,trivial⟩,(by (focus (repeat' first|exact Keep.nil _|exact Ext.one _ _|exact Ext.here _ _|exact Ext.all _|apply Keep.cons|apply Keep.app|apply Keep.last|apply Ext.cons|apply Ext.app);done))⟩)⟩
    intro H2_23
    refine A.merge (fun σ L=>∃ (ov:Ov) (b2:Nat),OvOk 1 ov B2.length (u8s B2)∧Sub [(5,.pointer (some ⟨bw,0,none⟩)),(12,.int .i64 c.id),(16,.int .i64 c.roles),(20,.int .i64 c.exp),(24,.int .i64 c.ser),(18,.pointer (some ⟨bw,0,none⟩)),(21,.slice (some ⟨b2,0,none⟩) 1 1)] σ∧Keep L (WL bw ov B2++[(bc,.cells ⟨[.int .i64 c.id,.int .i64 c.roles,.int .i64 c.exp,.int .i64 c.ser]⟩ 37 (0,0)),(b2,.cells ⟨[.int .i64 c.exp]⟩ 3 (0,0))])) 8 #[true,true,true,true,true,true,true,true,true,true,true,false,true,true,false,false,false,false,false,false,false] ?_ ?_
    · rintro σ L ⟨ov,b2,hov,hs,hk⟩
      refine A.weak ?_ hs hk
      refine A.multi [11,14] (by kernel_rfl) (by decide) ⟨⟨_,rfl,?_⟩,⟨_,rfl,?_⟩,trivial⟩
      · (apply R.callE (Li:=WL bw ov B2);(iterate 3 exact rfl);(focus (repeat' first|exact Ext.none _|exact Ext.one _ _|exact Ext.here _ _|exact Ext.all _|apply Ext.cons|apply Ext.app|apply Ext.two);done);intro w1 hw1;have h9:=number1_ok bw ov B2 hov 2 c.exp hf3 hl2 b2 _ _ w1 (hw1.get _ _ (At.mem (by (focus (repeat' first|exact At.head|apply At.tail|apply At.right);done)))) (RdSl.off hw1 (by (focus (repeat' first|exact Ext.none _|exact Ext.one _ _|exact Ext.here _ _|exact Ext.all _|apply Ext.cons|apply Ext.app|apply Ext.two);done)) (At.mem (by (focus (repeat' first|exact At.head|apply At.tail|apply At.right);done))));rw [← hB3] at h9;exact h9;rintro v Lo ⟨ov1,rfl,hov1,rfl⟩);apply R.nil;refine ⟨(by (focus (repeat' first|exact trivial|exact At.head|apply At.tail|apply At.right|refine ⟨?_,?_⟩))),A.cast (by kernel_rfl) (H3_ _ _ ⟨ov1,hov1,⟨rfl,rfl,rfl,rfl,rfl,rfl,trivial⟩,(by (focus (repeat' first|exact Keep.nil _|exact Ext.one _ _|exact Ext.here _ _|exact Ext.all _|apply Keep.cons|apply Keep.app|apply Keep.last|apply Ext.cons|apply Ext.app);done))⟩)⟩
      · ((first|(apply R.buildSlice;(iterate 12 exact rfl);intro)|fail));rename_i b3;apply R.nil;refine ⟨(by (focus (repeat' first|exact trivial|exact At.head|apply At.tail|apply At.right|refine ⟨?_,?_⟩))),A.cast (by kernel_rfl) (H2_23 _ _ ⟨ov,b2,b3,hov,⟨rfl,rfl,rfl,rfl,rfl,rfl,rfl,rfl,trivial⟩,(by (focus (repeat' first|exact Keep.nil _|exact Ext.one _ _|exact Ext.here _ _|exact Ext.all _|apply Keep.cons|apply Keep.app|apply Keep.last|apply Ext.cons|apply Ext.app);done))⟩)⟩
    intro H2_2
    refine A.merge (fun σ L=>∃ (ov:Ov) (b3:Nat),OvOk 1 ov B2.length (u8s B2)∧Sub [(5,.pointer (some ⟨bw,0,none⟩)),(12,.int .i64 c.id),(16,.int .i64 c.roles),(20,.int .i64 c.exp),(24,.int .i64 c.ser),(18,.pointer (some ⟨bw,0,none⟩)),(25,.slice (some ⟨b3,0,none⟩) 1 1)] σ∧Keep L (WL bw ov B2++[(bc,.cells ⟨[.int .i64 c.id,.int .i64 c.roles,.int .i64 c.exp,.int .i64 c.ser]⟩ 37 (0,0)),(b3,.cells ⟨[.int .i64 c.ser]⟩ 3 (0,0))])) 8 #[true,true,true,true,true,true,true,true,true,true,false,false,true,true,true,false,false,false,false,false,false] ?_ ?_
    · rintro σ L ⟨ov,b3,hov,hs,hk⟩
      refine A.weak ?_ hs hk
      refine A.multi [10] (by kernel_rfl) (by decide) ⟨⟨_,rfl,?_⟩,trivial⟩
      · ((first|(apply R.buildSlice;(iterate 12 exact rfl);intro)|fail));rename_i b2;apply R.nil;refine ⟨(by (focus (repeat' first|exact trivial|exact At.head|apply At.tail|apply At.right|refine ⟨?_,?_⟩))),A.cast (by kernel_rfl) (H2_23 _ _ ⟨ov,b2,b3,hov,⟨rfl,rfl,rfl,rfl,rfl,rfl,rfl,rfl,trivial⟩,(by (focus (repeat' first|exact Keep.nil _|exact Ext.one _ _|exact Ext.here _ _|exact Ext.all _|apply Keep.cons|apply Keep.app|apply Keep.last|apply Ext.cons|apply Ext.app);done))⟩)⟩
    intro H2_3
    refine A.merge (fun σ L=>∃ (ov:Ov),OvOk 1 ov B2.length (u8s B2)∧Sub [(5,.pointer (some ⟨bw,0,none⟩)),(12,.int .i64 c.id),(16,.int .i64 c.roles),(20,.int .i64 c.exp),(24,.int .i64 c.ser),(18,.pointer (some ⟨bw,0,none⟩))] σ∧Keep L (WL bw ov B2++[(bc,.cells ⟨[.int .i64 c.id,.int .i64 c.roles,.int .i64 c.exp,.int .i64 c.ser]⟩ 37 (0,0))])) 9 #[true,true,true,true,true,true,true,true,true,true,false,false,true,true,false,false,false,false,false,false,false] ?_ ?_
    · rintro σ L ⟨ov,hov,hs,hk⟩
      refine A.weak ?_ hs hk
      refine A.multi [10,14] (by kernel_rfl) (by decide) ⟨⟨_,rfl,?_⟩,⟨_,rfl,?_⟩,trivial⟩
      · ((first|(apply R.buildSlice;(iterate 12 exact rfl);intro)|fail));rename_i b2;apply R.nil;refine ⟨(by (focus (repeat' first|exact trivial|exact At.head|apply At.tail|apply At.right|refine ⟨?_,?_⟩))),A.cast (by kernel_rfl) (H2_2 _ _ ⟨ov,b2,hov,⟨rfl,rfl,rfl,rfl,rfl,rfl,rfl,trivial⟩,(by (focus (repeat' first|exact Keep.nil _|exact Ext.one _ _|exact Ext.here _ _|exact Ext.all _|apply Keep.cons|apply Keep.app|apply Keep.last|apply Ext.cons|apply Ext.app);done))⟩)⟩
      · ((first|(apply R.buildSlice;(iterate 12 exact rfl);intro)|fail));rename_i b3;apply R.nil;refine ⟨(by (focus (repeat' first|exact trivial|exact At.head|apply At.tail|apply At.right|refine ⟨?_,?_⟩))),A.cast (by kernel_rfl) (H2_3 _ _ ⟨ov,b3,hov,⟨rfl,rfl,rfl,rfl,rfl,rfl,rfl,trivial⟩,(by (focus (repeat' first|exact Keep.nil _|exact Ext.one _ _|exact Ext.here _ _|exact Ext.all _|apply Keep.cons|apply Keep.app|apply Keep.last|apply Ext.cons|apply Ext.app);done))⟩)⟩
    intro H2_
    refine A.merge (fun σ L=>∃ (ov:Ov) (b1:Nat) (b2:Nat) (b3:Nat),OvOk 1 ov B1.length (u8s B1)∧Sub [(5,.pointer (some ⟨bw,0,none⟩)),(12,.int .i64 c.id),(16,.int .i64 c.roles),(20,.int .i64 c.exp),(24,.int .i64 c.ser),(14,.pointer (some ⟨bw,0,none⟩)),(17,.slice (some ⟨b1,0,none⟩) 1 1),(21,.slice (some ⟨b2,0,none⟩) 1 1),(25,.slice (some ⟨b3,0,none⟩) 1 1)] σ∧Keep L (WL bw ov B1++[(bc,.cells ⟨[.int .i64 c.id,.int .i64 c.roles,.int .i64 c.exp,.int .i64 c.ser]⟩ 37 (0,0)),(b1,.cells ⟨[.int .i64 c.roles]⟩ 3 (0,0)),(b2,.cells ⟨[.int .i64 c.exp]⟩ 3 (0,0)),(b3,.cells ⟨[.int .i64 c.ser]⟩ 3 (0,0))])) 8 #[true,true,true,true,true,true,true,false,true,true,true,false,true,true,true,false,false,false,false,false,false] ?_ ?_
    · rintro σ L ⟨ov,b1,b2,b3,hov,hs,hk⟩
      refine A.weak ?_ hs hk
      refine A.multi [7] (by kernel_rfl) (by decide) ⟨⟨_,rfl,?_⟩,trivial⟩
      · (apply R.callE (Li:=WL bw ov B1);(iterate 3 exact rfl);(focus (repeat' first|exact Ext.none _|exact Ext.one _ _|exact Ext.here _ _|exact Ext.all _|apply Ext.cons|apply Ext.app|apply Ext.two);done);intro w1 hw1;have h9:=number1_ok bw ov B1 hov 0 c.roles hf2 hl1 b1 _ _ w1 (hw1.get _ _ (At.mem (by (focus (repeat' first|exact At.head|apply At.tail|apply At.right);done)))) (RdSl.off hw1 (by (focus (repeat' first|exact Ext.none _|exact Ext.one _ _|exact Ext.here _ _|exact Ext.all _|apply Ext.cons|apply Ext.app|apply Ext.two);done)) (At.mem (by (focus (repeat' first|exact At.head|apply At.tail|apply At.right);done))));rw [← hB2] at h9;exact h9;rintro v Lo ⟨ov1,rfl,hov1,rfl⟩);apply R.nil;refine ⟨(by (focus (repeat' first|exact trivial|exact At.head|apply At.tail|apply At.right|refine ⟨?_,?_⟩))),A.cast (by kernel_rfl) (H2_23 _ _ ⟨ov1,b2,b3,hov1,⟨rfl,rfl,rfl,rfl,rfl,rfl,rfl,rfl,trivial⟩,(by (focus (repeat' first|exact Keep.nil _|exact Ext.one _ _|exact Ext.here _ _|exact Ext.all _|apply Keep.cons|apply Keep.app|apply Keep.last|apply Ext.cons|apply Ext.app);done))⟩)⟩
    intro H1_123
    refine A.merge (fun σ L=>∃ (ov:Ov) (b1:Nat) (b2:Nat),OvOk 1 ov B1.length (u8s B1)∧Sub [(5,.pointer (some ⟨bw,0,none⟩)),(12,.int .i64 c.id),(16,.int .i64 c.roles),(20,.int .i64 c.exp),(24,.int .i64 c.ser),(14,.pointer (some ⟨bw,0,none⟩)),(17,.slice (some ⟨b1,0,none⟩) 1 1),(21,.slice (some ⟨b2,0,none⟩) 1 1)] σ∧Keep L (WL bw ov B1++[(bc,.cells ⟨[.int .i64 c.id,.int .i64 c.roles,.int .i64 c.exp,.int .i64 c.ser]⟩ 37 (0,0)),(b1,.cells ⟨[.int .i64 c.roles]⟩ 3 (0,0)),(b2,.cells ⟨[.int .i64 c.exp]⟩ 3 (0,0))])) 9 #[true,true,true,true,true,true,true,false,true,true,true,false,true,true,false,false,false,false,false,false,false] ?_ ?_
    · rintro σ L ⟨ov,b1,b2,hov,hs,hk⟩
      refine A.weak ?_ hs hk
      refine A.multi [7,14] (by kernel_rfl) (by decide) ⟨⟨_,rfl,?_⟩,⟨_,rfl,?_⟩,trivial⟩
      · (apply R.callE (Li:=WL bw ov B1);(iterate 3 exact rfl);(focus (repeat' first|exact Ext.none _|exact Ext.one _ _|exact Ext.here _ _|exact Ext.all _|apply Ext.cons|apply Ext.app|apply Ext.two);done);intro w1 hw1;have h9:=number1_ok bw ov B1 hov 0 c.roles hf2 hl1 b1 _ _ w1 (hw1.get _ _ (At.mem (by (focus (repeat' first|exact At.head|apply At.tail|apply At.right);done)))) (RdSl.off hw1 (by (focus (repeat' first|exact Ext.none _|exact Ext.one _ _|exact Ext.here _ _|exact Ext.all _|apply Ext.cons|apply Ext.app|apply Ext.two);done)) (At.mem (by (focus (repeat' first|exact At.head|apply At.tail|apply At.right);done))));rw [← hB2] at h9;exact h9;rintro v Lo ⟨ov1,rfl,hov1,rfl⟩);apply R.nil;refine ⟨(by (focus (repeat' first|exact trivial|exact At.head|apply At.tail|apply At.right|refine ⟨?_,?_⟩))),A.cast (by kernel_rfl) (H2_2 _ _ ⟨ov1,b2,hov1,⟨rfl,rfl,rfl,rfl,rfl,rfl,rfl,trivial⟩,(by (focus (repeat' first|exact Keep.nil _|exact Ext.one _ _|exact Ext.here _ _|exact Ext.all _|apply Keep.cons|apply Keep.app|apply Keep.last|apply Ext.cons|apply Ext.app);done))⟩)⟩
      · ((first|(apply R.buildSlice;(iterate 12 exact rfl);intro)|fail));rename_i b3;apply R.nil;refine ⟨(by (focus (repeat' first|exact trivial|exact At.head|apply At.tail|apply At.right|refine ⟨?_,?_⟩))),A.cast (by kernel_rfl) (H1_123 _ _ ⟨ov,b1,b2,b3,hov,⟨rfl,rfl,rfl,rfl,rfl,rfl,rfl,rfl,rfl,trivial⟩,(by (focus (repeat' first|exact Keep.nil _|exact Ext.one _ _|exact Ext.here _ _|exact Ext.all _|apply Keep.cons|apply Keep.app|apply Keep.last|apply Ext.cons|apply Ext.app);done))⟩)⟩
    intro H1_12
    refine A.merge (fun σ L=>∃ (ov:Ov) (b1:Nat) (b3:Nat),OvOk 1 ov B1.length (u8s B1)∧Sub [(5,.pointer (some ⟨bw,0,none⟩)),(12,.int .i64 c.id),(16,.int .i64 c.roles),(20,.int .i64 c.exp),(24,.int .i64 c.ser),(14,.pointer (some ⟨bw,0,none⟩)),(17,.slice (some ⟨b1,0,none⟩) 1 1),(25,.slice (some ⟨b3,0,none⟩) 1 1)] σ∧Keep L (WL bw ov B1++[(bc,.cells ⟨[.int .i64 c.id,.int .i64 c.roles,.int .i64 c.exp,.int .i64 c.ser]⟩ 37 (0,0)),(b1,.cells ⟨[.int .i64 c.roles]⟩ 3 (0,0)),(b3,.cells ⟨[.int .i64 c.ser]⟩ 3 (0,0))])) 9 #[true,true,true,true,true,true,true,false,true,true,false,false,true,true,true,false,false,false,false,false,false] ?_ ?_
    · rintro σ L ⟨ov,b1,b3,hov,hs,hk⟩
      refine A.weak ?_ hs hk
      refine A.multi [7,10] (by kernel_rfl) (by decide) ⟨⟨_,rfl,?_⟩,⟨_,rfl,?_⟩,trivial⟩
      · (apply R.callE (Li:=WL bw ov B1);(iterate 3 exact rfl);(focus (repeat' first|exact Ext.none _|exact Ext.one _ _|exact Ext.here _ _|exact Ext.all _|apply Ext.cons|apply Ext.app|apply Ext.two);done);intro w1 hw1;have h9:=number1_ok bw ov B1 hov 0 c.roles hf2 hl1 b1 _ _ w1 (hw1.get _ _ (At.mem (by (focus (repeat' first|exact At.head|apply At.tail|apply At.right);done)))) (RdSl.off hw1 (by (focus (repeat' first|exact Ext.none _|exact Ext.one _ _|exact Ext.here _ _|exact Ext.all _|apply Ext.cons|apply Ext.app|apply Ext.two);done)) (At.mem (by (focus (repeat' first|exact At.head|apply At.tail|apply At.right);done))));rw [← hB2] at h9;exact h9;rintro v Lo ⟨ov1,rfl,hov1,rfl⟩);apply R.nil;refine ⟨(by (focus (repeat' first|exact trivial|exact At.head|apply At.tail|apply At.right|refine ⟨?_,?_⟩))),A.cast (by kernel_rfl) (H2_3 _ _ ⟨ov1,b3,hov1,⟨rfl,rfl,rfl,rfl,rfl,rfl,rfl,trivial⟩,(by (focus (repeat' first|exact Keep.nil _|exact Ext.one _ _|exact Ext.here _ _|exact Ext.all _|apply Keep.cons|apply Keep.app|apply Keep.last|apply Ext.cons|apply Ext.app);done))⟩)⟩
      · ((first|(apply R.buildSlice;(iterate 12 exact rfl);intro)|fail));rename_i b2;apply R.nil;refine ⟨(by (focus (repeat' first|exact trivial|exact At.head|apply At.tail|apply At.right|refine ⟨?_,?_⟩))),A.cast (by kernel_rfl) (H1_123 _ _ ⟨ov,b1,b2,b3,hov,⟨rfl,rfl,rfl,rfl,rfl,rfl,rfl,rfl,rfl,trivial⟩,(by (focus (repeat' first|exact Keep.nil _|exact Ext.one _ _|exact Ext.here _ _|exact Ext.all _|apply Keep.cons|apply Keep.app|apply Keep.last|apply Ext.cons|apply Ext.app);done))⟩)⟩
    intro H1_13
    refine A.merge (fun σ L=>∃ (ov:Ov) (b2:Nat) (b3:Nat),OvOk 1 ov B1.length (u8s B1)∧Sub [(5,.pointer (some ⟨bw,0,none⟩)),(12,.int .i64 c.id),(16,.int .i64 c.roles),(20,.int .i64 c.exp),(24,.int .i64 c.ser),(14,.pointer (some ⟨bw,0,none⟩)),(21,.slice (some ⟨b2,0,none⟩) 1 1),(25,.slice (some ⟨b3,0,none⟩) 1 1)] σ∧Keep L (WL bw ov B1++[(bc,.cells ⟨[.int .i64 c.id,.int .i64 c.roles,.int .i64 c.exp,.int .i64 c.ser]⟩ 37 (0,0)),(b2,.cells ⟨[.int .i64 c.exp]⟩ 3 (0,0)),(b3,.cells ⟨[.int .i64 c.ser]⟩ 3 (0,0))])) 9 #[true,true,true,true,true,true,false,false,true,true,true,false,true,true,true,false,false,false,false,false,false] ?_ ?_
    · rintro σ L ⟨ov,b2,b3,hov,hs,hk⟩
      refine A.weak ?_ hs hk
      refine A.multi [6] (by kernel_rfl) (by decide) ⟨⟨_,rfl,?_⟩,trivial⟩
      · ((first|(apply R.buildSlice;(iterate 12 exact rfl);intro)|fail));rename_i b1;apply R.nil;refine ⟨(by (focus (repeat' first|exact trivial|exact At.head|apply At.tail|apply At.right|refine ⟨?_,?_⟩))),A.cast (by kernel_rfl) (H1_123 _ _ ⟨ov,b1,b2,b3,hov,⟨rfl,rfl,rfl,rfl,rfl,rfl,rfl,rfl,rfl,trivial⟩,(by (focus (repeat' first|exact Keep.nil _|exact Ext.one _ _|exact Ext.here _ _|exact Ext.all _|apply Keep.cons|apply Keep.app|apply Keep.last|apply Ext.cons|apply Ext.app);done))⟩)⟩
    intro H1_23
    refine A.merge (fun σ L=>∃ (ov:Ov) (b1:Nat),OvOk 1 ov B1.length (u8s B1)∧Sub [(5,.pointer (some ⟨bw,0,none⟩)),(12,.int .i64 c.id),(16,.int .i64 c.roles),(20,.int .i64 c.exp),(24,.int .i64 c.ser),(14,.pointer (some ⟨bw,0,none⟩)),(17,.slice (some ⟨b1,0,none⟩) 1 1)] σ∧Keep L (WL bw ov B1++[(bc,.cells ⟨[.int .i64 c.id,.int .i64 c.roles,.int .i64 c.exp,.int .i64 c.ser]⟩ 37 (0,0)),(b1,.cells ⟨[.int .i64 c.roles]⟩ 3 (0,0))])) 10 #[true,true,true,true,true,true,true,false,true,true,false,false,true,true,false,false,false,false,false,false,false] ?_ ?_
    · rintro σ L ⟨ov,b1,hov,hs,hk⟩
      refine A.weak ?_ hs hk
      refine A.multi [7,10,14] (by kernel_rfl) (by decide) ⟨⟨_,rfl,?_⟩,⟨_,rfl,?_⟩,⟨_,rfl,?_⟩,trivial⟩
      · (apply R.callE (Li:=WL bw ov B1);(iterate 3 exact rfl);(focus (repeat' first|exact Ext.none _|exact Ext.one _ _|exact Ext.here _ _|exact Ext.all _|apply Ext.cons|apply Ext.app|apply Ext.two);done);intro w1 hw1;have h9:=number1_ok bw ov B1 hov 0 c.roles hf2 hl1 b1 _ _ w1 (hw1.get _ _ (At.mem (by (focus (repeat' first|exact At.head|apply At.tail|apply At.right);done)))) (RdSl.off hw1 (by (focus (repeat' first|exact Ext.none _|exact Ext.one _ _|exact Ext.here _ _|exact Ext.all _|apply Ext.cons|apply Ext.app|apply Ext.two);done)) (At.mem (by (focus (repeat' first|exact At.head|apply At.tail|apply At.right);done))));rw [← hB2] at h9;exact h9;rintro v Lo ⟨ov1,rfl,hov1,rfl⟩);apply R.nil;refine ⟨(by (focus (repeat' first|exact trivial|exact At.head|apply At.tail|apply At.right|refine ⟨?_,?_⟩))),A.cast (by kernel_rfl) (H2_ _ _ ⟨ov1,hov1,⟨rfl,rfl,rfl,rfl,rfl,rfl,trivial⟩,(by (focus (repeat' first|exact Keep.nil _|exact Ext.one _ _|exact Ext.here _ _|exact Ext.all _|apply Keep.cons|apply Keep.app|apply Keep.last|apply Ext.cons|apply Ext.app);done))⟩)⟩
      · ((first|(apply R.buildSlice;(iterate 12 exact rfl);intro)|fail));rename_i b2;apply R.nil;refine ⟨(by (focus (repeat' first|exact trivial|exact At.head|apply At.tail|apply At.right|refine ⟨?_,?_⟩))),A.cast (by kernel_rfl) (H1_12 _ _ ⟨ov,b1,b2,hov,⟨rfl,rfl,rfl,rfl,rfl,rfl,rfl,rfl,trivial⟩,(by (focus (repeat' first|exact Keep.nil _|exact Ext.one _ _|exact Ext.here _ _|exact Ext.all _|apply Keep.cons|apply Keep.app|apply Keep.last|apply Ext.cons|apply Ext.app);done))⟩)⟩
      · ((first|(apply R.buildSlice;(iterate 12 exact rfl);intro)|fail));rename_i b3;apply R.nil;refine ⟨(by (focus (repeat' first|exact trivial|exact At.head|apply At.tail|apply At.right|refine ⟨?_,?_⟩))),A.cast (by kernel_rfl) (H1_13 _ _ ⟨ov,b1,b3,hov,⟨rfl,rfl,rfl,rfl,rfl,rfl,rfl,rfl,trivial⟩,(by (focus (repeat' first|exact Keep.nil _|exact Ext.one _ _|exact Ext.here _ _|exact Ext.all _|apply Keep.cons|apply Keep.app|apply Keep.last|apply Ext.cons|apply Ext.app);done))⟩)⟩
    intro H1_1
    refine A.merge (fun σ L=>∃ (ov:Ov) (b2:Nat),OvOk 1 ov B1.length (u8s B1)∧Sub [(5,.pointer (some ⟨bw,0,none⟩)),(12,.int .i64 c.id),(16,.int .i64 c.roles),(20,.int .i64 c.exp),(24,.int .i64 c.ser),(14,.pointer (some ⟨bw,0,none⟩)),(21,.slice (some ⟨b2,0,none⟩) 1 1)] σ∧Keep L (WL bw ov B1++[(bc,.cells ⟨[.int .i64 c.id,.int .i64 c.roles,.int .i64 c.exp,.int .i64 c.ser]⟩ 37 (0,0)),(b2,.cells ⟨[.int .i64 c.exp]⟩ 3 (0,0))])) 10 #[true,true,true,true,true,true,false,false,true,true,true,false,true,true,false,false,false,false,false,false,false] ?_ ?_
    · rintro σ L ⟨ov,b2,hov,hs,hk⟩
      refine A.weak ?_ hs hk
      refine A.multi [6,14] (by kernel_rfl) (by decide) ⟨⟨_,rfl,?_⟩,⟨_,rfl,?_⟩,trivial⟩
      · ((first|(apply R.buildSlice;(iterate 12 exact rfl);intro)|fail));rename_i b1;apply R.nil;refine ⟨(by (focus (repeat' first|exact trivial|exact At.head|apply At.tail|apply At.right|refine ⟨?_,?_⟩))),A.cast (by kernel_rfl) (H1_12 _ _ ⟨ov,b1,b2,hov,⟨rfl,rfl,rfl,rfl,rfl,rfl,rfl,rfl,trivial⟩,(by (focus (repeat' first|exact Keep.nil _|exact Ext.one _ _|exact Ext.here _ _|exact Ext.all _|apply Keep.cons|apply Keep.app|apply Keep.last|apply Ext.cons|apply Ext.app);done))⟩)⟩
      · ((first|(apply R.buildSlice;(iterate 12 exact rfl);intro)|fail));rename_i b3;apply R.nil;refine ⟨(by (focus (repeat' first|exact trivial|exact At.head|apply At.tail|apply At.right|refine ⟨?_,?_⟩))),A.cast (by kernel_rfl) (H1_23 _ _ ⟨ov,b2,b3,hov,⟨rfl,rfl,rfl,rfl,rfl,rfl,rfl,rfl,trivial⟩,(by (focus (repeat' first|exact Keep.nil _|exact Ext.one _ _|exact Ext.here _ _|exact Ext.all _|apply Keep.cons|apply Keep.app|apply Keep.last|apply Ext.cons|apply Ext.app);done))⟩)⟩
    intro H1_2
    refine A.merge (fun σ L=>∃ (ov:Ov) (b3:Nat),OvOk 1 ov B1.length (u8s B1)∧Sub [(5,.pointer (some ⟨bw,0,none⟩)),(12,.int .i64 c.id),(16,.int .i64 c.roles),(20,.int .i64 c.exp),(24,.int .i64 c.ser),(14,.pointer (some ⟨bw,0,none⟩)),(25,.slice (some ⟨b3,0,none⟩) 1 1)] σ∧Keep L (WL bw ov B1++[(bc,.cells ⟨[.int .i64 c.id,.int .i64 c.roles,.int .i64 c.exp,.int .i64 c.ser]⟩ 37 (0,0)),(b3,.cells ⟨[.int .i64 c.ser]⟩ 3 (0,0))])) 10 #[true,true,true,true,true,true,false,false,true,true,false,false,true,true,true,false,false,false,false,false,false] ?_ ?_
    · rintro σ L ⟨ov,b3,hov,hs,hk⟩
      refine A.weak ?_ hs hk
      refine A.multi [6,10] (by kernel_rfl) (by decide) ⟨⟨_,rfl,?_⟩,⟨_,rfl,?_⟩,trivial⟩
      · ((first|(apply R.buildSlice;(iterate 12 exact rfl);intro)|fail));rename_i b1;apply R.nil;refine ⟨(by (focus (repeat' first|exact trivial|exact At.head|apply At.tail|apply At.right|refine ⟨?_,?_⟩))),A.cast (by kernel_rfl) (H1_13 _ _ ⟨ov,b1,b3,hov,⟨rfl,rfl,rfl,rfl,rfl,rfl,rfl,rfl,trivial⟩,(by (focus (repeat' first|exact Keep.nil _|exact Ext.one _ _|exact Ext.here _ _|exact Ext.all _|apply Keep.cons|apply Keep.app|apply Keep.last|apply Ext.cons|apply Ext.app);done))⟩)⟩
      · ((first|(apply R.buildSlice;(iterate 12 exact rfl);intro)|fail));rename_i b2;apply R.nil;refine ⟨(by (focus (repeat' first|exact trivial|exact At.head|apply At.tail|apply At.right|refine ⟨?_,?_⟩))),A.cast (by kernel_rfl) (H1_23 _ _ ⟨ov,b2,b3,hov,⟨rfl,rfl,rfl,rfl,rfl,rfl,rfl,rfl,trivial⟩,(by (focus (repeat' first|exact Keep.nil _|exact Ext.one _ _|exact Ext.here _ _|exact Ext.all _|apply Keep.cons|apply Keep.app|apply Keep.last|apply Ext.cons|apply Ext.app);done))⟩)⟩
    intro H1_3
    refine A.merge (fun σ L=>∃ (ov:Ov),OvOk 1 ov B1.length (u8s B1)∧Sub [(5,.pointer (some ⟨bw,0,none⟩)),(12,.int .i64 c.id),(16,.int .i64 c.roles),(20,.int .i64 c.exp),(24,.int .i64 c.ser),(14,.pointer (some ⟨bw,0,none⟩))] σ∧Keep L (WL bw ov B1++[(bc,.cells ⟨[.int .i64 c.id,.int .i64 c.roles,.int .i64 c.exp,.int .i64 c.ser]⟩ 37 (0,0))])) 11 #[true,true,true,true,true,true,false,false,true,true,false,false,true,true,false,false,false,false,false,false,false] ?_ ?_
    · rintro σ L ⟨ov,hov,hs,hk⟩
      refine A.weak ?_ hs hk
      refine A.multi [6,10,14] (by kernel_rfl) (by decide) ⟨⟨_,rfl,?_⟩,⟨_,rfl,?_⟩,⟨_,rfl,?_⟩,trivial⟩
      · ((first|(apply R.buildSlice;(iterate 12 exact rfl);intro)|fail));rename_i b1;apply R.nil;refine ⟨(by (focus (repeat' first|exact trivial|exact At.head|apply At.tail|apply At.right|refine ⟨?_,?_⟩))),A.cast (by kernel_rfl) (H1_1 _ _ ⟨ov,b1,hov,⟨rfl,rfl,rfl,rfl,rfl,rfl,rfl,trivial⟩,(by (focus (repeat' first|exact Keep.nil _|exact Ext.one _ _|exact Ext.here _ _|exact Ext.all _|apply Keep.cons|apply Keep.app|apply Keep.last|apply Ext.cons|apply Ext.app);done))⟩)⟩
      · ((first|(apply R.buildSlice;(iterate 12 exact rfl);intro)|fail));rename_i b2;apply R.nil;refine ⟨(by (focus (repeat' first|exact trivial|exact At.head|apply At.tail|apply At.right|refine ⟨?_,?_⟩))),A.cast (by kernel_rfl) (H1_2 _ _ ⟨ov,b2,hov,⟨rfl,rfl,rfl,rfl,rfl,rfl,rfl,trivial⟩,(by (focus (repeat' first|exact Keep.nil _|exact Ext.one _ _|exact Ext.here _ _|exact Ext.all _|apply Keep.cons|apply Keep.app|apply Keep.last|apply Ext.cons|apply Ext.app);done))⟩)⟩
      · ((first|(apply R.buildSlice;(iterate 12 exact rfl);intro)|fail));rename_i b3;apply R.nil;refine ⟨(by (focus (repeat' first|exact trivial|exact At.head|apply At.tail|apply At.right|refine ⟨?_,?_⟩))),A.cast (by kernel_rfl) (H1_3 _ _ ⟨ov,b3,hov,⟨rfl,rfl,rfl,rfl,rfl,rfl,rfl,trivial⟩,(by (focus (repeat' first|exact Keep.nil _|exact Ext.one _ _|exact Ext.here _ _|exact Ext.all _|apply Keep.cons|apply Keep.app|apply Keep.last|apply Ext.cons|apply Ext.app);done))⟩)⟩
    intro H1_
    refine A.merge (fun σ L=>∃ (ov:Ov) (b0:Nat) (b1:Nat) (b2:Nat) (b3:Nat),OvOk 1 ov B0.length (u8s B0)∧Sub [(5,.pointer (some ⟨bw,0,none⟩)),(12,.int .i64 c.id),(16,.int .i64 c.roles),(20,.int .i64 c.exp),(24,.int .i64 c.ser),(13,.slice (some ⟨b0,0,none⟩) 1 1),(17,.slice (some ⟨b1,0,none⟩) 1 1),(21,.slice (some ⟨b2,0,none⟩) 1 1),(25,.slice (some ⟨b3,0,none⟩) 1 1)] σ∧Keep L (WL bw ov B0++[(bc,.cells ⟨[.int .i64 c.id,.int .i64 c.roles,.int .i64 c.exp,.int .i64 c.ser]⟩ 37 (0,0)),(b0,.cells ⟨[.int .i64 c.id]⟩ 3 (0,0)),(b1,.cells ⟨[.int .i64 c.roles]⟩ 3 (0,0)),(b2,.cells ⟨[.int .i64 c.exp]⟩ 3 (0,0)),(b3,.cells ⟨[.int .i64 c.ser]⟩ 3 (0,0))])) 9 #[true,true,true,false,true,true,true,false,true,true,true,false,true,true,true,false,false,false,false,false,false] ?_ ?_
    · rintro σ L ⟨ov,b0,b1,b2,b3,hov,hs,hk⟩
      refine A.weak ?_ hs hk
      refine A.multi [3] (by kernel_rfl) (by decide) ⟨⟨_,rfl,?_⟩,trivial⟩
      · (apply R.callE (Li:=WL bw ov B0);(iterate 3 exact rfl);(focus (repeat' first|exact Ext.none _|exact Ext.one _ _|exact Ext.here _ _|exact Ext.all _|apply Ext.cons|apply Ext.app|apply Ext.two);done);intro w1 hw1;have h9:=number1_ok bw ov B0 hov 1 c.id hf1 hl0 b0 _ _ w1 (hw1.get _ _ (At.mem (by (focus (repeat' first|exact At.head|apply At.tail|apply At.right);done)))) (RdSl.off hw1 (by (focus (repeat' first|exact Ext.none _|exact Ext.one _ _|exact Ext.here _ _|exact Ext.all _|apply Ext.cons|apply Ext.app|apply Ext.two);done)) (At.mem (by (focus (repeat' first|exact At.head|apply At.tail|apply At.right);done))));rw [← hB1] at h9;exact h9;rintro v Lo ⟨ov1,rfl,hov1,rfl⟩);apply R.nil;refine ⟨(by (focus (repeat' first|exact trivial|exact At.head|apply At.tail|apply At.right|refine ⟨?_,?_⟩))),A.cast (by kernel_rfl) (H1_123 _ _ ⟨ov1,b1,b2,b3,hov1,⟨rfl,rfl,rfl,rfl,rfl,rfl,rfl,rfl,rfl,trivial⟩,(by (focus (repeat' first|exact Keep.nil _|exact Ext.one _ _|exact Ext.here _ _|exact Ext.all _|apply Keep.cons|apply Keep.app|apply Keep.last|apply Ext.cons|apply Ext.app);done))⟩)⟩
    intro H0_0123
    refine A.merge (fun σ L=>∃ (ov:Ov) (b0:Nat) (b1:Nat) (b2:Nat),OvOk 1 ov B0.length (u8s B0)∧Sub [(5,.pointer (some ⟨bw,0,none⟩)),(12,.int .i64 c.id),(16,.int .i64 c.roles),(20,.int .i64 c.exp),(24,.int .i64 c.ser),(13,.slice (some ⟨b0,0,none⟩) 1 1),(17,.slice (some ⟨b1,0,none⟩) 1 1),(21,.slice (some ⟨b2,0,none⟩) 1 1)] σ∧Keep L (WL bw ov B0++[(bc,.cells ⟨[.int .i64 c.id,.int .i64 c.roles,.int .i64 c.exp,.int .i64 c.ser]⟩ 37 (0,0)),(b0,.cells ⟨[.int .i64 c.id]⟩ 3 (0,0)),(b1,.cells ⟨[.int .i64 c.roles]⟩ 3 (0,0)),(b2,.cells ⟨[.int .i64 c.exp]⟩ 3 (0,0))])) 10 #[true,true,true,false,true,true,true,false,true,true,true,false,true,true,false,false,false,false,false,false,false] ?_ ?_
    · rintro σ L ⟨ov,b0,b1,b2,hov,hs,hk⟩
      refine A.weak ?_ hs hk
      refine A.multi [3,14] (by kernel_rfl) (by decide) ⟨⟨_,rfl,?_⟩,⟨_,rfl,?_⟩,trivial⟩
      · (apply R.callE (Li:=WL bw ov B0);(iterate 3 exact rfl);(focus (repeat' first|exact Ext.none _|exact Ext.one _ _|exact Ext.here _ _|exact Ext.all _|apply Ext.cons|apply Ext.app|apply Ext.two);done);intro w1 hw1;have h9:=number1_ok bw ov B0 hov 1 c.id hf1 hl0 b0 _ _ w1 (hw1.get _ _ (At.mem (by (focus (repeat' first|exact At.head|apply At.tail|apply At.right);done)))) (RdSl.off hw1 (by (focus (repeat' first|exact Ext.none _|exact Ext.one _ _|exact Ext.here _ _|exact Ext.all _|apply Ext.cons|apply Ext.app|apply Ext.two);done)) (At.mem (by (focus (repeat' first|exact At.head|apply At.tail|apply At.right);done))));rw [← hB1] at h9;exact h9;rintro v Lo ⟨ov1,rfl,hov1,rfl⟩);apply R.nil;refine ⟨(by (focus (repeat' first|exact trivial|exact At.head|apply At.tail|apply At.right|refine ⟨?_,?_⟩))),A.cast (by kernel_rfl) (H1_12 _ _ ⟨ov1,b1,b2,hov1,⟨rfl,rfl,rfl,rfl,rfl,rfl,rfl,rfl,trivial⟩,(by (focus (repeat' first|exact Keep.nil _|exact Ext.one _ _|exact Ext.here _ _|exact Ext.all _|apply Keep.cons|apply Keep.app|apply Keep.last|apply Ext.cons|apply Ext.app);done))⟩)⟩
      · ((first|(apply R.buildSlice;(iterate 12 exact rfl);intro)|fail));rename_i b3;apply R.nil;refine ⟨(by (focus (repeat' first|exact trivial|exact At.head|apply At.tail|apply At.right|refine ⟨?_,?_⟩))),A.cast (by kernel_rfl) (H0_0123 _ _ ⟨ov,b0,b1,b2,b3,hov,⟨rfl,rfl,rfl,rfl,rfl,rfl,rfl,rfl,rfl,trivial⟩,(by (focus (repeat' first|exact Keep.nil _|exact Ext.one _ _|exact Ext.here _ _|exact Ext.all _|apply Keep.cons|apply Keep.app|apply Keep.last|apply Ext.cons|apply Ext.app);done))⟩)⟩
    intro H0_012
    refine A.merge (fun σ L=>∃ (ov:Ov) (b0:Nat) (b1:Nat) (b3:Nat),OvOk 1 ov B0.length (u8s B0)∧Sub [(5,.pointer (some ⟨bw,0,none⟩)),(12,.int .i64 c.id),(16,.int .i64 c.roles),(20,.int .i64 c.exp),(24,.int .i64 c.ser),(13,.slice (some ⟨b0,0,none⟩) 1 1),(17,.slice (some ⟨b1,0,none⟩) 1 1),(25,.slice (some ⟨b3,0,none⟩) 1 1)] σ∧Keep L (WL bw ov B0++[(bc,.cells ⟨[.int .i64 c.id,.int .i64 c.roles,.int .i64 c.exp,.int .i64 c.ser]⟩ 37 (0,0)),(b0,.cells ⟨[.int .i64 c.id]⟩ 3 (0,0)),(b1,.cells ⟨[.int .i64 c.roles]⟩ 3 (0,0)),(b3,.cells ⟨[.int .i64 c.ser]⟩ 3 (0,0))])) 10 #[true,true,true,false,true,true,true,false,true,true,false,false,true,true,true,false,false,false,false,false,false] ?_ ?_
    · rintro σ L ⟨ov,b0,b1,b3,hov,hs,hk⟩
      refine A.weak ?_ hs hk
      refine A.multi [3,10] (by kernel_rfl) (by decide) ⟨⟨_,rfl,?_⟩,⟨_,rfl,?_⟩,trivial⟩
      · (apply R.callE (Li:=WL bw ov B0);(iterate 3 exact rfl);(focus (repeat' first|exact Ext.none _|exact Ext.one _ _|exact Ext.here _ _|exact Ext.all _|apply Ext.cons|apply Ext.app|apply Ext.two);done);intro w1 hw1;have h9:=number1_ok bw ov B0 hov 1 c.id hf1 hl0 b0 _ _ w1 (hw1.get _ _ (At.mem (by (focus (repeat' first|exact At.head|apply At.tail|apply At.right);done)))) (RdSl.off hw1 (by (focus (repeat' first|exact Ext.none _|exact Ext.one _ _|exact Ext.here _ _|exact Ext.all _|apply Ext.cons|apply Ext.app|apply Ext.two);done)) (At.mem (by (focus (repeat' first|exact At.head|apply At.tail|apply At.right);done))));rw [← hB1] at h9;exact h9;rintro v Lo ⟨ov1,rfl,hov1,rfl⟩);apply R.nil;refine ⟨(by (focus (repeat' first|exact trivial|exact At.head|apply At.tail|apply At.right|refine ⟨?_,?_⟩))),A.cast (by kernel_rfl) (H1_13 _ _ ⟨ov1,b1,b3,hov1,⟨rfl,rfl,rfl,rfl,rfl,rfl,rfl,rfl,trivial⟩,(by (focus (repeat' first|exact Keep.nil _|exact Ext.one _ _|exact Ext.here _ _|exact Ext.all _|apply Keep.cons|apply Keep.app|apply Keep.last|apply Ext.cons|apply Ext.app);done))⟩)⟩
      · ((first|(apply R.buildSlice;(iterate 12 exact rfl);intro)|fail));rename_i b2;apply R.nil;refine ⟨(by (focus (repeat' first|exact trivial|exact At.head|apply At.tail|apply At.right|refine ⟨?_,?_⟩))),A.cast (by kernel_rfl) (H0_0123 _ _ ⟨ov,b0,b1,b2,b3,hov,⟨rfl,rfl,rfl,rfl,rfl,rfl,rfl,rfl,rfl,trivial⟩,(by (focus (repeat' first|exact Keep.nil _|exact Ext.one _ _|exact Ext.here _ _|exact Ext.all _|apply Keep.cons|apply Keep.app|apply Keep.last|apply Ext.cons|apply Ext.app);done))⟩)⟩
    intro H0_013
    refine A.merge (fun σ L=>∃ (ov:Ov) (b0:Nat) (b2:Nat) (b3:Nat),OvOk 1 ov B0.length (u8s B0)∧Sub [(5,.pointer (some ⟨bw,0,none⟩)),(12,.int .i64 c.id),(16,.int .i64 c.roles),(20,.int .i64 c.exp),(24,.int .i64 c.ser),(13,.slice (some ⟨b0,0,none⟩) 1 1),(21,.slice (some ⟨b2,0,none⟩) 1 1),(25,.slice (some ⟨b3,0,none⟩) 1 1)] σ∧Keep L (WL bw ov B0++[(bc,.cells ⟨[.int .i64 c.id,.int .i64 c.roles,.int .i64 c.exp,.int .i64 c.ser]⟩ 37 (0,0)),(b0,.cells ⟨[.int .i64 c.id]⟩ 3 (0,0)),(b2,.cells ⟨[.int .i64 c.exp]⟩ 3 (0,0)),(b3,.cells ⟨[.int .i64 c.ser]⟩ 3 (0,0))])) 10 #[true,true,true,false,true,true,false,false,true,true,true,false,true,true,true,false,false,false,false,false,false] ?_ ?_
    · rintro σ L ⟨ov,b0,b2,b3,hov,hs,hk⟩
      refine A.weak ?_ hs hk
      refine A.multi [3,6] (by kernel_rfl) (by decide) ⟨⟨_,rfl,?_⟩,⟨_,rfl,?_⟩,trivial⟩
      · (apply R.callE (Li:=WL bw ov B0);(iterate 3 exact rfl);(focus (repeat' first|exact Ext.none _|exact Ext.one _ _|exact Ext.here _ _|exact Ext.all _|apply Ext.cons|apply Ext.app|apply Ext.two);done);intro w1 hw1;have h9:=number1_ok bw ov B0 hov 1 c.id hf1 hl0 b0 _ _ w1 (hw1.get _ _ (At.mem (by (focus (repeat' first|exact At.head|apply At.tail|apply At.right);done)))) (RdSl.off hw1 (by (focus (repeat' first|exact Ext.none _|exact Ext.one _ _|exact Ext.here _ _|exact Ext.all _|apply Ext.cons|apply Ext.app|apply Ext.two);done)) (At.mem (by (focus (repeat' first|exact At.head|apply At.tail|apply At.right);done))));rw [← hB1] at h9;exact h9;rintro v Lo ⟨ov1,rfl,hov1,rfl⟩);apply R.nil;refine ⟨(by (focus (repeat' first|exact trivial|exact At.head|apply At.tail|apply At.right|refine ⟨?_,?_⟩))),A.cast (by kernel_rfl) (H1_23 _ _ ⟨ov1,b2,b3,hov1,⟨rfl,rfl,rfl,rfl,rfl,rfl,rfl,rfl,trivial⟩,(by (focus (repeat' first|exact Keep.nil _|exact Ext.one _ _|exact Ext.here _ _|exact Ext.all _|apply Keep.cons|apply Keep.app|apply Keep.last|apply Ext.cons|apply Ext.app);done))⟩)⟩
      · ((first|(apply R.buildSlice;(iterate 12 exact rfl);intro)|fail));rename_i b1;apply R.nil;refine ⟨(by (focus (repeat' first|exact trivial|exact At.head|apply At.tail|apply At.right|refine ⟨?_,?_⟩))),A.cast (by kernel_rfl) (H0_0123 _ _ ⟨ov,b0,b1,b2,b3,hov,⟨rfl,rfl,rfl,rfl,rfl,rfl,rfl,rfl,rfl,trivial⟩,(by (focus (repeat' first|exact Keep.nil _|exact Ext.one _ _|exact Ext.here _ _|exact Ext.all _|apply Keep.cons|apply Keep.app|apply Keep.last|apply Ext.cons|apply Ext.app);done))⟩)⟩
    intro H0_023
    refine A.merge (fun σ L=>∃ (ov:Ov) (b1:Nat) (b2:Nat) (b3:Nat),OvOk 1 ov B0.length (u8s B0)∧Sub [(5,.pointer (some ⟨bw,0,none⟩)),(12,.int .i64 c.id),(16,.int .i64 c.roles),(20,.int .i64 c.exp),(24,.int .i64 c.ser),(17,.slice (some ⟨b1,0,none⟩) 1 1),(21,.slice (some ⟨b2,0,none⟩) 1 1),(25,.slice (some ⟨b3,0,none⟩) 1 1)] σ∧Keep L (WL bw ov B0++[(bc,.cells ⟨[.int .i64 c.id,.int .i64 c.roles,.int .i64 c.exp,.int .i64 c.ser]⟩ 37 (0,0)),(b1,.cells ⟨[.int .i64 c.roles]⟩ 3 (0,0)),(b2,.cells ⟨[.int .i64 c.exp]⟩ 3 (0,0)),(b3,.cells ⟨[.int .i64 c.ser]⟩ 3 (0,0))])) 10 #[true,true,false,false,true,true,true,false,true,true,true,false,true,true,true,false,false,false,false,false,false] ?_ ?_
    · rintro σ L ⟨ov,b1,b2,b3,hov,hs,hk⟩
      refine A.weak ?_ hs hk
      refine A.multi [2] (by kernel_rfl) (by decide) ⟨⟨_,rfl,?_⟩,trivial⟩
      · ((first|(apply R.buildSlice;(iterate 12 exact rfl);intro)|fail));rename_i b0;apply R.nil;refine ⟨(by (focus (repeat' first|exact trivial|exact At.head|apply At.tail|apply At.right|refine ⟨?_,?_⟩))),A.cast (by kernel_rfl) (H0_0123 _ _ ⟨ov,b0,b1,b2,b3,hov,⟨rfl,rfl,rfl,rfl,rfl,rfl,rfl,rfl,rfl,trivial⟩,(by (focus (repeat' first|exact Keep.nil _|exact Ext.one _ _|exact Ext.here _ _|exact Ext.all _|apply Keep.cons|apply Keep.app|apply Keep.last|apply Ext.cons|apply Ext.app);done))⟩)⟩
    intro H0_123
    refine A.merge (fun σ L=>∃ (ov:Ov) (b0:Nat) (b1:Nat),OvOk 1 ov B0.length (u8s B0)∧Sub [(5,.pointer (some ⟨bw,0,none⟩)),(12,.int .i64 c.id),(16,.int .i64 c.roles),(20,.int .i64 c.exp),(24,.int .i64 c.ser),(13,.slice (some ⟨b0,0,none⟩) 1 1),(17,.slice (some ⟨b1,0,none⟩) 1 1)] σ∧Keep L (WL bw ov B0++[(bc,.cells ⟨[.int .i64 c.id,.int .i64 c.roles,.int .i64 c.exp,.int .i64 c.ser]⟩ 37 (0,0)),(b0,.cells ⟨[.int .i64 c.id]⟩ 3 (0,0)),(b1,.cells ⟨[.int .i64 c.roles]⟩ 3 (0,0))])) 11 #[true,true,true,false,true,true,true,false,true,true,false,false,true,true,false,false,false,false,false,false,false] ?_ ?_
    · rintro σ L ⟨ov,b0,b1,hov,hs,hk⟩
      refine A.weak ?_ hs hk
      refine A.multi [3,10,14] (by kernel_rfl) (by decide) ⟨⟨_,rfl,?_⟩,⟨_,rfl,?_⟩,⟨_,rfl,?_⟩,trivial⟩
      · (apply R.callE (Li:=WL bw ov B0);(iterate 3 exact rfl);(focus (repeat' first|exact Ext.none _|exact Ext.one _ _|exact Ext.here _ _|exact Ext.all _|apply Ext.cons|apply Ext.app|apply Ext.two);done);intro w1 hw1;have h9:=number1_ok bw ov B0 hov 1 c.id hf1 hl0 b0 _ _ w1 (hw1.get _ _ (At.mem (by (focus (repeat' first|exact At.head|apply At.tail|apply At.right);done)))) (RdSl.off hw1 (by (focus (repeat' first|exact Ext.none _|exact Ext.one _ _|exact Ext.here _ _|exact Ext.all _|apply Ext.cons|apply Ext.app|apply Ext.two);done)) (At.mem (by (focus (repeat' first|exact At.head|apply At.tail|apply At.right);done))));rw [← hB1] at h9;exact h9;rintro v Lo ⟨ov1,rfl,hov1,rfl⟩);apply R.nil;refine ⟨(by (focus (repeat' first|exact trivial|exact At.head|apply At.tail|apply At.right|refine ⟨?_,?_⟩))),A.cast (by kernel_rfl) (H1_1 _ _ ⟨ov1,b1,hov1,⟨rfl,rfl,rfl,rfl,rfl,rfl,rfl,trivial⟩,(by (focus (repeat' first|exact Keep.nil _|exact Ext.one _ _|exact Ext.here _ _|exact Ext.all _|apply Keep.cons|apply Keep.app|apply Keep.last|apply Ext.cons|apply Ext.app);done))⟩)⟩
      · ((first|(apply R.buildSlice;(iterate 12 exact rfl);intro)|fail));rename_i b2;apply R.nil;refine ⟨(by (focus (repeat' first|exact trivial|exact At.head|apply At.tail|apply At.right|refine ⟨?_,?_⟩))),A.cast (by kernel_rfl) (H0_012 _ _ ⟨ov,b0,b1,b2,hov,⟨rfl,rfl,rfl,rfl,rfl,rfl,rfl,rfl,trivial⟩,(by (focus (repeat' first|exact Keep.nil _|exact Ext.one _ _|exact Ext.here _ _|exact Ext.all _|apply Keep.cons|apply Keep.app|apply Keep.last|apply Ext.cons|apply Ext.app);done))⟩)⟩
      · ((first|(apply R.buildSlice;(iterate 12 exact rfl);intro)|fail));rename_i b3;apply R.nil;refine ⟨(by (focus (repeat' first|exact trivial|exact At.head|apply At.tail|apply At.right|refine ⟨?_,?_⟩))),A.cast (by kernel_rfl) (H0_013 _ _ ⟨ov,b0,b1,b3,hov,⟨rfl,rfl,rfl,rfl,rfl,rfl,rfl,rfl,trivial⟩,(by (focus (repeat' first|exact Keep.nil _|exact Ext.one _ _|exact Ext.here _ _|exact Ext.all _|apply Keep.cons|apply Keep.app|apply Keep.last|apply Ext.cons|apply Ext.app);done))⟩)⟩
    intro H0_01
    refine A.merge (fun σ L=>∃ (ov:Ov) (b0:Nat) (b2:Nat),OvOk 1 ov B0.length (u8s B0)∧Sub [(5,.pointer (some ⟨bw,0,none⟩)),(12,.int .i64 c.id),(16,.int .i64 c.roles),(20,.int .i64 c.exp),(24,.int .i64 c.ser),(13,.slice (some ⟨b0,0,none⟩) 1 1),(21,.slice (some ⟨b2,0,none⟩) 1 1)] σ∧Keep L (WL bw ov B0++[(bc,.cells ⟨[.int .i64 c.id,.int .i64 c.roles,.int .i64 c.exp,.int .i64 c.ser]⟩ 37 (0,0)),(b0,.cells ⟨[.int .i64 c.id]⟩ 3 (0,0)),(b2,.cells ⟨[.int .i64 c.exp]⟩ 3 (0,0))])) 11 #[true,true,true,false,true,true,false,false,true,true,true,false,true,true,false,false,false,false,false,false,false] ?_ ?_
    · rintro σ L ⟨ov,b0,b2,hov,hs,hk⟩
      refine A.weak ?_ hs hk
      refine A.multi [3,6,14] (by kernel_rfl) (by decide) ⟨⟨_,rfl,?_⟩,⟨_,rfl,?_⟩,⟨_,rfl,?_⟩,trivial⟩
      · (apply R.callE (Li:=WL bw ov B0);(iterate 3 exact rfl);(focus (repeat' first|exact Ext.none _|exact Ext.one _ _|exact Ext.here _ _|exact Ext.all _|apply Ext.cons|apply Ext.app|apply Ext.two);done);intro w1 hw1;have h9:=number1_ok bw ov B0 hov 1 c.id hf1 hl0 b0 _ _ w1 (hw1.get _ _ (At.mem (by (focus (repeat' first|exact At.head|apply At.tail|apply At.right);done)))) (RdSl.off hw1 (by (focus (repeat' first|exact Ext.none _|exact Ext.one _ _|exact Ext.here _ _|exact Ext.all _|apply Ext.cons|apply Ext.app|apply Ext.two);done)) (At.mem (by (focus (repeat' first|exact At.head|apply At.tail|apply At.right);done))));rw [← hB1] at h9;exact h9;rintro v Lo ⟨ov1,rfl,hov1,rfl⟩);apply R.nil;refine ⟨(by (focus (repeat' first|exact trivial|exact At.head|apply At.tail|apply At.right|refine ⟨?_,?_⟩))),A.cast (by kernel_rfl) (H1_2 _ _ ⟨ov1,b2,hov1,⟨rfl,rfl,rfl,rfl,rfl,rfl,rfl,trivial⟩,(by (focus (repeat' first|exact Keep.nil _|exact Ext.one _ _|exact Ext.here _ _|exact Ext.all _|apply Keep.cons|apply Keep.app|apply Keep.last|apply Ext.cons|apply Ext.app);done))⟩)⟩
      · ((first|(apply R.buildSlice;(iterate 12 exact rfl);intro)|fail));rename_i b1;apply R.nil;refine ⟨(by (focus (repeat' first|exact trivial|exact At.head|apply At.tail|apply At.right|refine ⟨?_,?_⟩))),A.cast (by kernel_rfl) (H0_012 _ _ ⟨ov,b0,b1,b2,hov,⟨rfl,rfl,rfl,rfl,rfl,rfl,rfl,rfl,trivial⟩,(by (focus (repeat' first|exact Keep.nil _|exact Ext.one _ _|exact Ext.here _ _|exact Ext.all _|apply Keep.cons|apply Keep.app|apply Keep.last|apply Ext.cons|apply Ext.app);done))⟩)⟩
      · ((first|(apply R.buildSlice;(iterate 12 exact rfl);intro)|fail));rename_i b3;apply R.nil;refine ⟨(by (focus (repeat' first|exact trivial|exact At.head|apply At.tail|apply At.right|refine ⟨?_,?_⟩))),A.cast (by kernel_rfl) (H0_023 _ _ ⟨ov,b0,b2,b3,hov,⟨rfl,rfl,rfl,rfl,rfl,rfl,rfl,rfl,trivial⟩,(by (focus (repeat' first|exact Keep.nil _|exact Ext.one _ _|exact Ext.here _ _|exact Ext.all _|apply Keep.cons|apply Keep.app|apply Keep.last|apply Ext.cons|apply Ext.app);done))⟩)⟩
    intro H0_02
    refine A.merge (fun σ L=>∃ (ov:Ov) (b0:Nat) (b3:Nat),OvOk 1 ov B0.length (u8s B0)∧Sub [(5,.pointer (some ⟨bw,0,none⟩)),(12,.int .i64 c.id),(16,.int .i64 c.roles),(20,.int .i64 c.exp),(24,.int .i64 c.ser),(13,.slice (some ⟨b0,0,none⟩) 1 1),(25,.slice (some ⟨b3,0,none⟩) 1 1)] σ∧Keep L (WL bw ov B0++[(bc,.cells ⟨[.int .i64 c.id,.int .i64 c.roles,.int .i64 c.exp,.int .i64 c.ser]⟩ 37 (0,0)),(b0,.cells ⟨[.int .i64 c.id]⟩ 3 (0,0)),(b3,.cells ⟨[.int .i64 c.ser]⟩ 3 (0,0))])) 11 #[true,true,true,false,true,true,false,false,true,true,false,false,true,true,true,false,false,false,false,false,false] ?_ ?_
    · rintro σ L ⟨ov,b0,b3,hov,hs,hk⟩
      refine A.weak ?_ hs hk
      refine A.multi [3,6,10] (by kernel_rfl) (by decide) ⟨⟨_,rfl,?_⟩,⟨_,rfl,?_⟩,⟨_,rfl,?_⟩,trivial⟩
      · (apply R.callE (Li:=WL bw ov B0);(iterate 3 exact rfl);(focus (repeat' first|exact Ext.none _|exact Ext.one _ _|exact Ext.here _ _|exact Ext.all _|apply Ext.cons|apply Ext.app|apply Ext.two);done);intro w1 hw1;have h9:=number1_ok bw ov B0 hov 1 c.id hf1 hl0 b0 _ _ w1 (hw1.get _ _ (At.mem (by (focus (repeat' first|exact At.head|apply At.tail|apply At.right);done)))) (RdSl.off hw1 (by (focus (repeat' first|exact Ext.none _|exact Ext.one _ _|exact Ext.here _ _|exact Ext.all _|apply Ext.cons|apply Ext.app|apply Ext.two);done)) (At.mem (by (focus (repeat' first|exact At.head|apply At.tail|apply At.right);done))));rw [← hB1] at h9;exact h9;rintro v Lo ⟨ov1,rfl,hov1,rfl⟩);apply R.nil;refine ⟨(by (focus (repeat' first|exact trivial|exact At.head|apply At.tail|apply At.right|refine ⟨?_,?_⟩))),A.cast (by kernel_rfl) (H1_3 _ _ ⟨ov1,b3,hov1,⟨rfl,rfl,rfl,rfl,rfl,rfl,rfl,trivial⟩,(by (focus (repeat' first|exact Keep.nil _|exact Ext.one _ _|exact Ext.here _ _|exact Ext.all _|apply Keep.cons|apply Keep.app|apply Keep.last|apply Ext.cons|apply Ext.app);done))⟩)⟩
      · ((first|(apply R.buildSlice;(iterate 12 exact rfl);intro)|fail));rename_i b1;apply R.nil;refine ⟨(by (focus (repeat' first|exact trivial|exact At.head|apply At.tail|apply At.right|refine ⟨?_,?_⟩))),A.cast (by kernel_rfl) (H0_013 _ _ ⟨ov,b0,b1,b3,hov,⟨rfl,rfl,rfl,rfl,rfl,rfl,rfl,rfl,trivial⟩,(by (focus (repeat' first|exact Keep.nil _|exact Ext.one _ _|exact Ext.here _ _|exact Ext.all _|apply Keep.cons|apply Keep.app|apply Keep.last|apply Ext.cons|apply Ext.app);done))⟩)⟩
      · ((first|(apply R.buildSlice;(iterate 12 exact rfl);intro)|fail));rename_i b2;apply R.nil;refine ⟨(by (focus (repeat' first|exact trivial|exact At.head|apply At.tail|apply At.right|refine ⟨?_,?_⟩))),A.cast (by kernel_rfl) (H0_023 _ _ ⟨ov,b0,b2,b3,hov,⟨rfl,rfl,rfl,rfl,rfl,rfl,rfl,rfl,trivial⟩,(by (focus (repeat' first|exact Keep.nil _|exact Ext.one _ _|exact Ext.here _ _|exact Ext.all _|apply Keep.cons|apply Keep.app|apply Keep.last|apply Ext.cons|apply Ext.app);done))⟩)⟩
    intro H0_03
    refine A.merge (fun σ L=>∃ (ov:Ov) (b1:Nat) (b2:Nat),OvOk 1 ov B0.length (u8s B0)∧Sub [(5,.pointer (some ⟨bw,0,none⟩)),(12,.int .i64 c.id),(16,.int .i64 c.roles),(20,.int .i64 c.exp),(24,.int .i64 c.ser),(17,.slice (some ⟨b1,0,none⟩) 1 1),(21,.slice (some ⟨b2,0,none⟩) 1 1)] σ∧Keep L (WL bw ov B0++[(bc,.cells ⟨[.int .i64 c.id,.int .i64 c.roles,.int .i64 c.exp,.int .i64 c.ser]⟩ 37 (0,0)),(b1,.cells ⟨[.int .i64 c.roles]⟩ 3 (0,0)),(b2,.cells ⟨[.int .i64 c.exp]⟩ 3 (0,0))])) 11 #[true,true,false,false,true,true,true,false,true,true,true,false,true,true,false,false,false,false,false,false,false] ?_ ?_
    · rintro σ L ⟨ov,b1,b2,hov,hs,hk⟩
      refine A.weak ?_ hs hk
      refine A.multi [2,14] (by kernel_rfl) (by decide) ⟨⟨_,rfl,?_⟩,⟨_,rfl,?_⟩,trivial⟩
      · ((first|(apply R.buildSlice;(iterate 12 exact rfl);intro)|fail));rename_i b0;apply R.nil;refine ⟨(by (focus (repeat' first|exact trivial|exact At.head|apply At.tail|apply At.right|refine ⟨?_,?_⟩))),A.cast (by kernel_rfl) (H0_012 _ _ ⟨ov,b0,b1,b2,hov,⟨rfl,rfl,rfl,rfl,rfl,rfl,rfl,rfl,trivial⟩,(by (focus (repeat' first|exact Keep.nil _|exact Ext.one _ _|exact Ext.here _ _|exact Ext.all _|apply Keep.cons|apply Keep.app|apply Keep.last|apply Ext.cons|apply Ext.app);done))⟩)⟩
      · ((first|(apply R.buildSlice;(iterate 12 exact rfl);intro)|fail));rename_i b3;apply R.nil;refine ⟨(by (focus (repeat' first|exact trivial|exact At.head|apply At.tail|apply At.right|refine ⟨?_,?_⟩))),A.cast (by kernel_rfl) (H0_123 _ _ ⟨ov,b1,b2,b3,hov,⟨rfl,rfl,rfl,rfl,rfl,rfl,rfl,rfl,trivial⟩,(by (focus (repeat' first|exact Keep.nil _|exact Ext.one _ _|exact Ext.here _ _|exact Ext.all _|apply Keep.cons|apply Keep.app|apply Keep.last|apply Ext.cons|apply Ext.app);done))⟩)⟩
    intro H0_12
    refine A.merge (fun σ L=>∃ (ov:Ov) (b1:Nat) (b3:Nat),OvOk 1 ov B0.length (u8s B0)∧Sub [(5,.pointer (some ⟨bw,0,none⟩)),(12,.int .i64 c.id),(16,.int .i64 c.roles),(20,.int .i64 c.exp),(24,.int .i64 c.ser),(17,.slice (some ⟨b1,0,none⟩) 1 1),(25,.slice (some ⟨b3,0,none⟩) 1 1)] σ∧Keep L (WL bw ov B0++[(bc,.cells ⟨[.int .i64 c.id,.int .i64 c.roles,.int .i64 c.exp,.int .i64 c.ser]⟩ 37 (0,0)),(b1,.cells ⟨[.int .i64 c.roles]⟩ 3 (0,0)),(b3,.cells ⟨[.int .i64 c.ser]⟩ 3 (0,0))])) 11 #[true,true,false,false,true,true,true,false,true,true,false,false,true,true,true,false,false,false,false,false,false] ?_ ?_
    · rintro σ L ⟨ov,b1,b3,hov,hs,hk⟩
      refine A.weak ?_ hs hk
      refine A.multi [2,10] (by kernel_rfl) (by decide) ⟨⟨_,rfl,?_⟩,⟨_,rfl,?_⟩,trivial⟩
      · ((first|(apply R.buildSlice;(iterate 12 exact rfl);intro)|fail));rename_i b0;apply R.nil;refine ⟨(by (focus (repeat' first|exact trivial|exact At.head|apply At.tail|apply At.right|refine ⟨?_,?_⟩))),A.cast (by kernel_rfl) (H0_013 _ _ ⟨ov,b0,b1,b3,hov,⟨rfl,rfl,rfl,rfl,rfl,rfl,rfl,rfl,trivial⟩,(by (focus (repeat' first|exact Keep.nil _|exact Ext.one _ _|exact Ext.here _ _|exact Ext.all _|apply Keep.cons|apply Keep.app|apply Keep.last|apply Ext.cons|apply Ext.app);done))⟩)⟩
      · ((first|(apply R.buildSlice;(iterate 12 exact rfl);intro)|fail));rename_i b2;apply R.nil;refine ⟨(by (focus (repeat' first|exact trivial|exact At.head|apply At.tail|apply At.right|refine ⟨?_,?_⟩))),A.cast (by kernel_rfl) (H0_123 _ _ ⟨ov,b1,b2,b3,hov,⟨rfl,rfl,rfl,rfl,rfl,rfl,rfl,rfl,trivial⟩,(by (focus (repeat' first|exact Keep.nil _|exact Ext.one _ _|exact Ext.here _ _|exact Ext.all _|apply Keep.cons|apply Keep.app|apply Keep.last|apply Ext.cons|apply Ext.app);done))⟩)⟩
    intro H0_13
    refine A.merge (fun σ L=>∃ (ov:Ov) (b2:Nat) (b3:Nat),OvOk 1 ov B0.length (u8s B0)∧Sub [(5,.pointer (some ⟨bw,0,none⟩)),(12,.int .i64 c.id),(16,.int .i64 c.roles),(20,.int .i64 c.exp),(24,.int .i64 c.ser),(21,.slice (some ⟨b2,0,none⟩) 1 1),(25,.slice (some ⟨b3,0,none⟩) 1 1)] σ∧Keep L (WL bw ov B0++[(bc,.cells ⟨[.int .i64 c.id,.int .i64 c.roles,.int .i64 c.exp,.int .i64 c.ser]⟩ 37 (0,0)),(b2,.cells ⟨[.int .i64 c.exp]⟩ 3 (0,0)),(b3,.cells ⟨[.int .i64 c.ser]⟩ 3 (0,0))])) 11 #[true,true,false,false,true,true,false,false,true,true,true,false,true,true,true,false,false,false,false,false,false] ?_ ?_
    · rintro σ L ⟨ov,b2,b3,hov,hs,hk⟩
      refine A.weak ?_ hs hk
      refine A.multi [2,6] (by kernel_rfl) (by decide) ⟨⟨_,rfl,?_⟩,⟨_,rfl,?_⟩,trivial⟩
      · ((first|(apply R.buildSlice;(iterate 12 exact rfl);intro)|fail));rename_i b0;apply R.nil;refine ⟨(by (focus (repeat' first|exact trivial|exact At.head|apply At.tail|apply At.right|refine ⟨?_,?_⟩))),A.cast (by kernel_rfl) (H0_023 _ _ ⟨ov,b0,b2,b3,hov,⟨rfl,rfl,rfl,rfl,rfl,rfl,rfl,rfl,trivial⟩,(by (focus (repeat' first|exact Keep.nil _|exact Ext.one _ _|exact Ext.here _ _|exact Ext.all _|apply Keep.cons|apply Keep.app|apply Keep.last|apply Ext.cons|apply Ext.app);done))⟩)⟩
      · ((first|(apply R.buildSlice;(iterate 12 exact rfl);intro)|fail));rename_i b1;apply R.nil;refine ⟨(by (focus (repeat' first|exact trivial|exact At.head|apply At.tail|apply At.right|refine ⟨?_,?_⟩))),A.cast (by kernel_rfl) (H0_123 _ _ ⟨ov,b1,b2,b3,hov,⟨rfl,rfl,rfl,rfl,rfl,rfl,rfl,rfl,trivial⟩,(by (focus (repeat' first|exact Keep.nil _|exact Ext.one _ _|exact Ext.here _ _|exact Ext.all _|apply Keep.cons|apply Keep.app|apply Keep.last|apply Ext.cons|apply Ext.app);done))⟩)⟩
    intro H0_23
    refine A.merge (fun σ L=>∃ (ov:Ov) (b0:Nat),OvOk 1 ov B0.length (u8s B0)∧Sub [(5,.pointer (some ⟨bw,0,none⟩)),(12,.int .i64 c.id),(16,.int .i64 c.roles),(20,.int .i64 c.exp),(24,.int .i64 c.ser),(13,.slice (some ⟨b0,0,none⟩) 1 1)] σ∧Keep L (WL bw ov B0++[(bc,.cells ⟨[.int .i64 c.id,.int .i64 c.roles,.int .i64 c.exp,.int .i64 c.ser]⟩ 37 (0,0)),(b0,.cells ⟨[.int .i64 c.id]⟩ 3 (0,0))])) 12 #[true,true,true,false,true,true,false,false,true,true,false,false,true,true,false,false,false,false,false,false,false] ?_ ?_
    · rintro σ L ⟨ov,b0,hov,hs,hk⟩
      refine A.weak ?_ hs hk
      refine A.multi [3,6,10,14] (by kernel_rfl) (by decide) ⟨⟨_,rfl,?_⟩,⟨_,rfl,?_⟩,⟨_,rfl,?_⟩,⟨_,rfl,?_⟩,trivial⟩
      · (apply R.callE (Li:=WL bw ov B0);(iterate 3 exact rfl);(focus (repeat' first|exact Ext.none _|exact Ext.one _ _|exact Ext.here _ _|exact Ext.all _|apply Ext.cons|apply Ext.app|apply Ext.two);done);intro w1 hw1;have h9:=number1_ok bw ov B0 hov 1 c.id hf1 hl0 b0 _ _ w1 (hw1.get _ _ (At.mem (by (focus (repeat' first|exact At.head|apply At.tail|apply At.right);done)))) (RdSl.off hw1 (by (focus (repeat' first|exact Ext.none _|exact Ext.one _ _|exact Ext.here _ _|exact Ext.all _|apply Ext.cons|apply Ext.app|apply Ext.two);done)) (At.mem (by (focus (repeat' first|exact At.head|apply At.tail|apply At.right);done))));rw [← hB1] at h9;exact h9;rintro v Lo ⟨ov1,rfl,hov1,rfl⟩);apply R.nil;refine ⟨(by (focus (repeat' first|exact trivial|exact At.head|apply At.tail|apply At.right|refine ⟨?_,?_⟩))),A.cast (by kernel_rfl) (H1_ _ _ ⟨ov1,hov1,⟨rfl,rfl,rfl,rfl,rfl,rfl,trivial⟩,(by (focus (repeat' first|exact Keep.nil _|exact Ext.one _ _|exact Ext.here _ _|exact Ext.all _|apply Keep.cons|apply Keep.app|apply Keep.last|apply Ext.cons|apply Ext.app);done))⟩)⟩
      · ((first|(apply R.buildSlice;(iterate 12 exact rfl);intro)|fail));rename_i b1;apply R.nil;refine ⟨(by (focus (repeat' first|exact trivial|exact At.head|apply At.tail|apply At.right|refine ⟨?_,?_⟩))),A.cast (by kernel_rfl) (H0_01 _ _ ⟨ov,b0,b1,hov,⟨rfl,rfl,rfl,rfl,rfl,rfl,rfl,trivial⟩,(by (focus (repeat' first|exact Keep.nil _|exact Ext.one _ _|exact Ext.here _ _|exact Ext.all _|apply Keep.cons|apply Keep.app|apply Keep.last|apply Ext.cons|apply Ext.app);done))⟩)⟩
      · ((first|(apply R.buildSlice;(iterate 12 exact rfl);intro)|fail));rename_i b2;apply R.nil;refine ⟨(by (focus (repeat' first|exact trivial|exact At.head|apply At.tail|apply At.right|refine ⟨?_,?_⟩))),A.cast (by kernel_rfl) (H0_02 _ _ ⟨ov,b0,b2,hov,⟨rfl,rfl,rfl,rfl,rfl,rfl,rfl,trivial⟩,(by (focus (repeat' first|exact Keep.nil _|exact Ext.one _ _|exact Ext.here _ _|exact Ext.all _|apply Keep.cons|apply Keep.app|apply Keep.last|apply Ext.cons|apply Ext.app);done))⟩)⟩
      · ((first|(apply R.buildSlice;(iterate 12 exact rfl);intro)|fail));rename_i b3;apply R.nil;refine ⟨(by (focus (repeat' first|exact trivial|exact At.head|apply At.tail|apply At.right|refine ⟨?_,?_⟩))),A.cast (by kernel_rfl) (H0_03 _ _ ⟨ov,b0,b3,hov,⟨rfl,rfl,rfl,rfl,rfl,rfl,rfl,trivial⟩,(by (focus (repeat' first|exact Keep.nil _|exact Ext.one _ _|exact Ext.here _ _|exact Ext.all _|apply Keep.cons|apply Keep.app|apply Keep.last|apply Ext.cons|apply Ext.app);done))⟩)⟩
    intro H0_0
    refine A.merge (fun σ L=>∃ (ov:Ov) (b1:Nat),OvOk 1 ov B0.length (u8s B0)∧Sub [(5,.pointer (some ⟨bw,0,none⟩)),(12,.int .i64 c.id),(16,.int .i64 c.roles),(20,.int .i64 c.exp),(24,.int .i64 c.ser),(17,.slice (some ⟨b1,0,none⟩) 1 1)] σ∧Keep L (WL bw ov B0++[(bc,.cells ⟨[.int .i64 c.id,.int .i64 c.roles,.int .i64 c.exp,.int .i64 c.ser]⟩ 37 (0,0)),(b1,.cells ⟨[.int .i64 c.roles]⟩ 3 (0,0))])) 12 #[true,true,false,false,true,true,true,false,true,true,false,false,true,true,false,false,false,false,false,false,false] ?_ ?_
    · rintro σ L ⟨ov,b1,hov,hs,hk⟩
      refine A.weak ?_ hs hk
      refine A.multi [2,10,14] (by kernel_rfl) (by decide) ⟨⟨_,rfl,?_⟩,⟨_,rfl,?_⟩,⟨_,rfl,?_⟩,trivial⟩
      · ((first|(apply R.buildSlice;(iterate 12 exact rfl);intro)|fail));rename_i b0;apply R.nil;refine ⟨(by (focus (repeat' first|exact trivial|exact At.head|apply At.tail|apply At.right|refine ⟨?_,?_⟩))),A.cast (by kernel_rfl) (H0_01 _ _ ⟨ov,b0,b1,hov,⟨rfl,rfl,rfl,rfl,rfl,rfl,rfl,trivial⟩,(by (focus (repeat' first|exact Keep.nil _|exact Ext.one _ _|exact Ext.here _ _|exact Ext.all _|apply Keep.cons|apply Keep.app|apply Keep.last|apply Ext.cons|apply Ext.app);done))⟩)⟩
      · ((first|(apply R.buildSlice;(iterate 12 exact rfl);intro)|fail));rename_i b2;apply R.nil;refine ⟨(by (focus (repeat' first|exact trivial|exact At.head|apply At.tail|apply At.right|refine ⟨?_,?_⟩))),A.cast (by kernel_rfl) (H0_12 _ _ ⟨ov,b1,b2,hov,⟨rfl,rfl,rfl,rfl,rfl,rfl,rfl,trivial⟩,(by (focus (repeat' first|exact Keep.nil _|exact Ext.one _ _|exact Ext.here _ _|exact Ext.all _|apply Keep.cons|apply Keep.app|apply Keep.last|apply Ext.cons|apply Ext.app);done))⟩)⟩
      · ((first|(apply R.buildSlice;(iterate 12 exact rfl);intro)|fail));rename_i b3;apply R.nil;refine ⟨(by (focus (repeat' first|exact trivial|exact At.head|apply At.tail|apply At.right|refine ⟨?_,?_⟩))),A.cast (by kernel_rfl) (H0_13 _ _ ⟨ov,b1,b3,hov,⟨rfl,rfl,rfl,rfl,rfl,rfl,rfl,trivial⟩,(by (focus (repeat' first|exact Keep.nil _|exact Ext.one _ _|exact Ext.here _ _|exact Ext.all _|apply Keep.cons|apply Keep.app|apply Keep.last|apply Ext.cons|apply Ext.app);done))⟩)⟩
    intro H0_1
    refine A.merge (fun σ L=>∃ (ov:Ov) (b2:Nat),OvOk 1 ov B0.length (u8s B0)∧Sub [(5,.pointer (some ⟨bw,0,none⟩)),(12,.int .i64 c.id),(16,.int .i64 c.roles),(20,.int .i64 c.exp),(24,.int .i64 c.ser),(21,.slice (some ⟨b2,0,none⟩) 1 1)] σ∧Keep L (WL bw ov B0++[(bc,.cells ⟨[.int .i64 c.id,.int .i64 c.roles,.int .i64 c.exp,.int .i64 c.ser]⟩ 37 (0,0)),(b2,.cells ⟨[.int .i64 c.exp]⟩ 3 (0,0))])) 12 #[true,true,false,false,true,true,false,false,true,true,true,false,true,true,false,false,false,false,false,false,false] ?_ ?_
    · rintro σ L ⟨ov,b2,hov,hs,hk⟩
      refine A.weak ?_ hs hk
      refine A.multi [2,6,14] (by kernel_rfl) (by decide) ⟨⟨_,rfl,?_⟩,⟨_,rfl,?_⟩,⟨_,rfl,?_⟩,trivial⟩
      · ((first|(apply R.buildSlice;(iterate 12 exact rfl);intro)|fail));rename_i b0;apply R.nil;refine ⟨(by (focus (repeat' first|exact trivial|exact At.head|apply At.tail|apply At.right|refine ⟨?_,?_⟩))),A.cast (by kernel_rfl) (H0_02 _ _ ⟨ov,b0,b2,hov,⟨rfl,rfl,rfl,rfl,rfl,rfl,rfl,trivial⟩,(by (focus (repeat' first|exact Keep.nil _|exact Ext.one _ _|exact Ext.here _ _|exact Ext.all _|apply Keep.cons|apply Keep.app|apply Keep.last|apply Ext.cons|apply Ext.app);done))⟩)⟩
      · ((first|(apply R.buildSlice;(iterate 12 exact rfl);intro)|fail));rename_i b1;apply R.nil;refine ⟨(by (focus (repeat' first|exact trivial|exact At.head|apply At.tail|apply At.right|refine ⟨?_,?_⟩))),A.cast (by kernel_rfl) (H0_12 _ _ ⟨ov,b1,b2,hov,⟨rfl,rfl,rfl,rfl,rfl,rfl,rfl,trivial⟩,(by (focus (repeat' first|exact Keep.nil _|exact Ext.one _ _|exact Ext.here _ _|exact Ext.all _|apply Keep.cons|apply Keep.app|apply Keep.last|apply Ext.cons|apply Ext.app);done))⟩)⟩
      · ((first|(apply R.buildSlice;(iterate 12 exact rfl);intro)|fail));rename_i b3;apply R.nil;refine ⟨(by (focus (repeat' first|exact trivial|exact At.head|apply At.tail|apply At.right|refine ⟨?_,?_⟩))),A.cast (by kernel_rfl) (H0_23 _ _ ⟨ov,b2,b3,hov,⟨rfl,rfl,rfl,rfl,rfl,rfl,rfl,trivial⟩,(by (focus (repeat' first|exact Keep.nil _|exact Ext.one _ _|exact Ext.here _ _|exact Ext.all _|apply Keep.cons|apply Keep.app|apply Keep.last|apply Ext.cons|apply Ext.app);done))⟩)⟩
    intro H0_2
    refine A.merge (fun σ L=>∃ (ov:Ov) (b3:Nat),OvOk 1 ov B0.length (u8s B0)∧Sub [(5,.pointer (some ⟨bw,0,none⟩)),(12,.int .i64 c.id),(16,.int .i64 c.roles),(20,.int .i64 c.exp),(24,.int .i64 c.ser),(25,.slice (some ⟨b3,0,none⟩) 1 1)] σ∧Keep L (WL bw ov B0++[(bc,.cells ⟨[.int .i64 c.id,.int .i64 c.roles,.int .i64 c.exp,.int .i64 c.ser]⟩ 37 (0,0)),(b3,.cells ⟨[.int .i64 c.ser]⟩ 3 (0,0))])) 12 #[true,true,false,false,true,true,false,false,true,true,false,false,true,true,true,false,false,false,false,false,false] ?_ ?_
    · rintro σ L ⟨ov,b3,hov,hs,hk⟩
      refine A.weak ?_ hs hk
      refine A.multi [2,6,10] (by kernel_rfl) (by decide) ⟨⟨_,rfl,?_⟩,⟨_,rfl,?_⟩,⟨_,rfl,?_⟩,trivial⟩
      · ((first|(apply R.buildSlice;(iterate 12 exact rfl);intro)|fail));rename_i b0;apply R.nil;refine ⟨(by (focus (repeat' first|exact trivial|exact At.head|apply At.tail|apply At.right|refine ⟨?_,?_⟩))),A.cast (by kernel_rfl) (H0_03 _ _ ⟨ov,b0,b3,hov,⟨rfl,rfl,rfl,rfl,rfl,rfl,rfl,trivial⟩,(by (focus (repeat' first|exact Keep.nil _|exact Ext.one _ _|exact Ext.here _ _|exact Ext.all _|apply Keep.cons|apply Keep.app|apply Keep.last|apply Ext.cons|apply Ext.app);done))⟩)⟩
      · ((first|(apply R.buildSlice;(iterate 12 exact rfl);intro)|fail));rename_i b1;apply R.nil;refine ⟨(by (focus (repeat' first|exact trivial|exact At.head|apply At.tail|apply At.right|refine ⟨?_,?_⟩))),A.cast (by kernel_rfl) (H0_13 _ _ ⟨ov,b1,b3,hov,⟨rfl,rfl,rfl,rfl,rfl,rfl,rfl,trivial⟩,(by (focus (repeat' first|exact Keep.nil _|exact Ext.one _ _|exact Ext.here _ _|exact Ext.all _|apply Keep.cons|apply Keep.app|apply Keep.last|apply Ext.cons|apply Ext.app);done))⟩)⟩
      · ((first|(apply R.buildSlice;(iterate 12 exact rfl);intro)|fail));rename_i b2;apply R.nil;refine ⟨(by (focus (repeat' first|exact trivial|exact At.head|apply At.tail|apply At.right|refine ⟨?_,?_⟩))),A.cast (by kernel_rfl) (H0_23 _ _ ⟨ov,b2,b3,hov,⟨rfl,rfl,rfl,rfl,rfl,rfl,rfl,trivial⟩,(by (focus (repeat' first|exact Keep.nil _|exact Ext.one _ _|exact Ext.here _ _|exact Ext.all _|apply Keep.cons|apply Keep.app|apply Keep.last|apply Ext.cons|apply Ext.app);done))⟩)⟩
    intro H0_3
    refine A.merge (fun σ L=>∃ (ov:Ov),OvOk 1 ov B0.length (u8s B0)∧Sub [(5,.pointer (some ⟨bw,0,none⟩)),(12,.int .i64 c.id),(16,.int .i64 c.roles),(20,.int .i64 c.exp),(24,.int .i64 c.ser)] σ∧Keep L (WL bw ov B0++[(bc,.cells ⟨[.int .i64 c.id,.int .i64 c.roles,.int .i64 c.exp,.int .i64 c.ser]⟩ 37 (0,0))])) 13 #[true,true,false,false,true,true,false,false,true,true,false,false,true,true,false,false,false,false,false,false,false] ?_ ?_
    · rintro σ L ⟨ov,hov,hs,hk⟩
      refine A.weak ?_ hs hk
      refine A.multi [2,6,10,14] (by kernel_rfl) (by decide) ⟨⟨_,rfl,?_⟩,⟨_,rfl,?_⟩,⟨_,rfl,?_⟩,⟨_,rfl,?_⟩,trivial⟩
      · ((first|(apply R.buildSlice;(iterate 12 exact rfl);intro)|fail));rename_i b0;apply R.nil;refine ⟨(by (focus (repeat' first|exact trivial|exact At.head|apply At.tail|apply At.right|refine ⟨?_,?_⟩))),A.cast (by kernel_rfl) (H0_0 _ _ ⟨ov,b0,hov,⟨rfl,rfl,rfl,rfl,rfl,rfl,trivial⟩,(by (focus (repeat' first|exact Keep.nil _|exact Ext.one _ _|exact Ext.here _ _|exact Ext.all _|apply Keep.cons|apply Keep.app|apply Keep.last|apply Ext.cons|apply Ext.app);done))⟩)⟩
      · ((first|(apply R.buildSlice;(iterate 12 exact rfl);intro)|fail));rename_i b1;apply R.nil;refine ⟨(by (focus (repeat' first|exact trivial|exact At.head|apply At.tail|apply At.right|refine ⟨?_,?_⟩))),A.cast (by kernel_rfl) (H0_1 _ _ ⟨ov,b1,hov,⟨rfl,rfl,rfl,rfl,rfl,rfl,trivial⟩,(by (focus (repeat' first|exact Keep.nil _|exact Ext.one _ _|exact Ext.here _ _|exact Ext.all _|apply Keep.cons|apply Keep.app|apply Keep.last|apply Ext.cons|apply Ext.app);done))⟩)⟩
      · ((first|(apply R.buildSlice;(iterate 12 exact rfl);intro)|fail));rename_i b2;apply R.nil;refine ⟨(by (focus (repeat' first|exact trivial|exact At.head|apply At.tail|apply At.right|refine ⟨?_,?_⟩))),A.cast (by kernel_rfl) (H0_2 _ _ ⟨ov,b2,hov,⟨rfl,rfl,rfl,rfl,rfl,rfl,trivial⟩,(by (focus (repeat' first|exact Keep.nil _|exact Ext.one _ _|exact Ext.here _ _|exact Ext.all _|apply Keep.cons|apply Keep.app|apply Keep.last|apply Ext.cons|apply Ext.app);done))⟩)⟩
      · ((first|(apply R.buildSlice;(iterate 12 exact rfl);intro)|fail));rename_i b3;apply R.nil;refine ⟨(by (focus (repeat' first|exact trivial|exact At.head|apply At.tail|apply At.right|refine ⟨?_,?_⟩))),A.cast (by kernel_rfl) (H0_3 _ _ ⟨ov,b3,hov,⟨rfl,rfl,rfl,rfl,rfl,rfl,trivial⟩,(by (focus (repeat' first|exact Keep.nil _|exact Ext.one _ _|exact Ext.here _ _|exact Ext.all _|apply Keep.cons|apply Keep.app|apply Keep.last|apply Ext.cons|apply Ext.app);done))⟩)⟩
    intro H0_
    exact A.cast (by kernel_rfl) (H0_ _ _ ⟨none,hw0,⟨rfl,rfl,rfl,rfl,rfl,trivial⟩,(by (focus (repeat' first|exact Keep.nil _|exact Ext.one _ _|exact Ext.here _ _|exact Ext.all _|apply Keep.cons|apply Keep.app|apply Keep.last|apply Ext.cons|apply Ext.app);done))⟩)
  rintro σ L ⟨ov,hov,hs,hk⟩
  refine A.weak ?_ hs hk
  clear hs hk
  (apply A.one 16;kernel_rfl;exact rfl;((first|(simp only [WL,List.cons_append];apply R.callE;(iterate 3 exact rfl);exact Ext.none _;intro w1 hw1;exact wout_ok bw ov B4 hov (by rw [hB,clI_len];decide) w1 (hw1.get _ _ (At.mem (by (focus (repeat' first|exact At.head|apply At.tail|apply At.right);done)))) (rdown hov hw1 (Ext.mem (by (focus (repeat' first|exact Ext.none _|exact Ext.one _ _|exact Ext.here _ _|exact Ext.all _|apply Ext.cons|apply Ext.app|apply Ext.two);done))));rintro v Lo ⟨ov9,hov9,rfl,rfl⟩)|(apply R.pure;exact rfl;first|(apply Ok1.lenS;(iterate 3 exact rfl))|(apply Ok1.lenStr;(iterate 3 exact rfl))|(apply Ok1.lenMm;(iterate 3 exact rfl);(focus (repeat' first|exact At.head|apply At.tail|apply At.right);done))|(apply Ok1.lenM_nil;(iterate 3 exact rfl))|(apply Ok1.max2;exact rfl;exact rfl)|(apply Ok1.min2;exact rfl;exact rfl))));apply R.nil;refine ⟨?_,?_⟩;(focus (repeat' first|exact trivial|exact At.head|apply At.tail|apply At.right|refine ⟨?_,?_⟩)))<;>(apply A.tk 17;exact rfl;kernel_rfl;first|(apply Ok1.extract;exact rfl;exact rfl))<;>(apply A.tk 18;exact rfl;kernel_rfl;first|(apply Ok1.extract;exact rfl;exact rfl))<;>(apply A.tk 19;exact rfl;kernel_rfl;first|(apply Ok1.assign;exact rfl))<;>(apply A.tk 20;exact rfl;kernel_rfl;first|(apply Ok1.assign;exact rfl))<;>(apply A.done;kernel_rfl)
  rw [hB,clI_len] at hov9
  repeat' (first|(apply R.is1;first|(apply R.isBin;first|(apply R.pure;exact rfl;first|(apply Ok1.neq_t;exact rfl;exact rfl;omega)|(apply Ok1.neq_f;exact rfl;exact rfl;omega)|(apply Ok1.neqP;(iterate 5 exact rfl))|(apply Ok1.neqM;(iterate 5 exact rfl))|(apply Ok1.neqS;(iterate 5 exact rfl)))|(apply R.neq rfl rfl rfl<;>intro)|(apply R.neqF;(iterate 8 exact rfl);all_goals intro))|(apply R.pure;exact rfl;first|(apply Ok1.move;exact rfl)|(apply Ok1.fieldAddr;(iterate 5 exact rfl))|(apply Ok1.load;exact rfl;first|(apply Ld.own1;exact rfl;exact rfl;(focus (repeat' first|exact At.head|apply At.tail|apply At.right);done);exact rfl)|(apply Ld.ownk;exact rfl;exact rfl;(focus (repeat' first|exact At.head|apply At.tail|apply At.right);done);exact rfl)|(apply Ld.old1;exact rfl;exact rfl;assumption;(first|exact List.not_mem_nil|assumption))|(apply Ld.blk1;exact rfl;exact rfl;assumption;(first|exact List.not_mem_nil|assumption);exact rfl)|(apply Ld.blkk;exact rfl;exact rfl;assumption;(first|exact List.not_mem_nil|assumption);exact rfl))|(apply Ok1.assign;exact rfl)|(apply Ok1.extract;exact rfl;exact rfl))|(apply R.box;(iterate 3 exact rfl);intro)|(apply R.alloc;(iterate 3 exact rfl);intro)|(apply R.buildSlice;(iterate 12 exact rfl);intro))|(apply R.is0;first|fail)|(apply R.isG;first|(apply R.guard_run;exact rfl;exact rfl)|(apply R.guard_not;(iterate 3 exact rfl))|(apply R.guard_not0;exact rfl;exact rfl)|(apply R.guard_un;(iterate 3 exact rfl))|(apply R.guard_un0;exact rfl;exact rfl)|(apply R.guard rfl rfl ?_ (fun h=>⟨rfl,?_⟩)<;>try intro))|apply R.nil|(apply T.is;first|apply T.seq|apply T.region|apply T.block|apply T.scope|apply T.label|apply T.skip|apply T.exit|apply T.ret|(apply T.cond_t;exact rfl)|(apply T.cond_f;exact rfl)|(apply T.cond_h;exact rfl;assumption)|(apply T.cond_n;exact rfl;assumption)|(apply T.cond rfl<;>intro))|apply Rnd.step)
  (apply RetOk.tt;exact rfl;exact rfl)
  refine ⟨_,?_,ov9,hov9,by rw [hB,clI_len],rfl⟩
  rw [hB]
  (focus (repeat' first|exact Keep.nil _|exact Ext.one _ _|exact Ext.here _ _|exact Ext.all _|apply Keep.cons|apply Keep.app|apply Keep.last|apply Ext.cons|apply Ext.app);done)
def iV (x:Int):List Value:=[.int .i64 x]
theorem iV_len (x:Int):(iV x).length=1:=rfl
def iis (xs:List Int):List Value:=xs.map fun x=>.int .i64 x
theorem fl_i (xs:List Int):fl iV xs=iis xs:=by
  unfold fl iis
  induction xs with
  | nil=>rfl
  | cons a l ih=>simp only [List.map_cons,List.flatten_cons,ih];rfl
theorem irdown {ov:Ov} {xs:List Int} {e:Nat} (hov:OvOk 1 ov xs.length (iis xs)) {w0 w:World} {S:List Nat} {L:Lst} (hw:Hp w0 S L w) (hin:∀ x∈blkL e ov (iis xs),x∈L):RdSl w (ovp ov) iV xs:=by
  rw [← fl_i] at hov hin
  exact RdSl.own' hw hin hov iV_len
/-- A log: nothing,or a slice of one's own. -/
structure Lg where
  ov:Ov
  xs:List Int
def Lg.v (g:Lg):Value:=slV g.ov g.xs.length
def Lg.L (g:Lg):Lst:=blkL 3 g.ov (iis g.xs)
def Lg.ok (g:Lg):Prop:=OvOk 1 g.ov g.xs.length (iis g.xs)
theorem Lg.rd {g:Lg} (h:g.ok) {w0 w:World} {S:List Nat} {L:Lst} (hw:Hp w0 S L w) (hin:∀ x∈g.L,x∈L):RdSl w (ovp g.ov) iV g.xs:=irdown h hw hin
/-- A part: a slice of integers. -/
structure Pi where
  p:Option Addr
  cap:Nat
  xs:List Int
deriving Inhabited
def Pi.v (x:Pi):List Value:=[.slice x.p x.xs.length x.cap]
theorem CallM.to {P:Program} {f:FuncId} {vs:List Value} {L:Lst} {w:World} {R R':Value→Lst→Prop} (h:CallM P f vs L w R) (hr:∀ v L,R v L→R' v L):CallM P f vs L w R' :=
  ⟨fun hw=>(h.run hw).mono fun e w' ⟨v,L',h1,h2,h3⟩=>⟨v,L',h1,hr _ _ h2,h3⟩⟩
structure GOk (gs:List Lg):Prop where
  len:gs.length=4
  ok:∀ g∈gs,g.ok
  le:∀ g∈gs,g.xs.length≤256
def lgs (gs:List Lg):List (List Int):=gs.map Lg.xs
def lcat (gs:List Lg):List Int:=gs.flatMap Lg.xs
theorem GOk.set {gs:List Lg} (hg:GOk gs) (i:Nat) {g':Lg} (h:g'.ok) (hl:g'.xs.length≤256):GOk (gs.set i g') :=
  ⟨by rw [List.length_set];exact hg.len,fun g hm=>by rcases List.mem_or_eq_of_mem_set hm with h1|rfl;exact hg.ok g h1;exact h,fun g hm=>by rcases List.mem_or_eq_of_mem_set hm with h1|rfl;exact hg.le g h1;exact hl⟩
section
variable {X:Cx} {σ:Env} {L Lr:Lst} {d:Option Nat} {ty:TypeId} {pos:String} {af:Array Edge} {g:Option (Nat × Bool)} {x:Operand} {t e:TypeId} {r re:TRow} {p:Option Addr} {n cap i j:Nat}
end
/-- A delta: from where,and a log's part,of each. -/
abbrev Dl:=List (Int × Pi)
section
variable {X:Cx} {σ:Env} {L Lr:Lst} {d:Option Nat} {ty:TypeId} {pos:String} {af:Array Edge} {g:Option (Nat × Bool)} {x:Operand} {t e:TypeId} {r re:TRow} {p:Option Addr} {n cap i j:Nat}
end
/-- A delta whose logs lie in the blocks of L. -/
structure DlO (d:Dl) (L:Lst):Prop where
  cap:∀ x∈d,x.2.xs.length≤x.2.cap
  adr:∀ x∈d,x.2.xs≠[]→∃ b o,x.2.p=some ⟨b,o,none⟩∧b∈blks L
  rd:∀ (w0 w:World) (S:List Nat) (L':Lst),Hp w0 S L' w→(∀ z∈L,z∈L')→∀ x∈d,RdSl w x.2.p iV x.2.xs
theorem DlO.nil (L:Lst):DlO [] L:=⟨by simp,by simp,by simp⟩
theorem DlO.snoc {d:Dl} {L:Lst} (h:DlO d L) {ov:Ov} {xs:List Int} (hov:OvOk 1 ov xs.length (iis xs)) (f:Int) {k c:Nat} (hk:k≤xs.length) (hc:xs.length≤c) {m:Nat} (hm:xs.length - k≤m) :
    DlO (d++[(f,⟨sufP (ovp ov) c k 1,m,xs.drop k⟩)]) (blkL 3 ov (iis xs)++L):=by
  refine ⟨fun x hx=>?_,fun x hx hne=>?_,fun w0 w S L' hw hin x hx=>?_⟩
  · rcases List.mem_append.1 hx with h1|h1
    · exact h.cap x h1
    · rw [List.mem_singleton.1 h1]
      simp only [List.length_drop]
      exact hm
  · rcases List.mem_append.1 hx with h1|h1
    · obtain ⟨b,o,h2,h3⟩:=h.adr x h1 hne
      refine ⟨b,o,h2,?_⟩
      rw [blks,List.map_append]
      exact List.mem_append_right _ h3
    · rw [List.mem_singleton.1 h1] at hne ⊢
      simp only at hne ⊢
      cases ov with
      | none =>
        have h0:xs.length=0:=hov.2
        have:xs=[]:=List.eq_nil_of_length_eq_zero h0
        subst this
        simp at hne
      | some q =>
        obtain ⟨b,j,junk⟩:=q
        have hb:b∈blks (blkL 3 (some (b,j,junk)) (iis xs)++L):=by simp [blks,blkL]
        unfold sufP ovp
        by_cases hck:c=k
        · exact ⟨b,0,by rw [if_pos hck],hb⟩
        · exact ⟨b,0+k * 1,by rw [if_neg hck];simp [Addr.add];omega,hb⟩
  · rcases List.mem_append.1 hx with h1|h1
    · exact h.rd w0 w S L' hw (fun z hz=>hin z (List.mem_append_right _ hz)) x h1
    · rw [List.mem_singleton.1 h1]
      exact (irdown hov hw fun z hz=>hin z (List.mem_append_left _ hz)).suf iV_len hk hc
section
variable {X:Cx} {σ:Env} {L:Lst} {ty t:TypeId} {pos:String} {af:Array Edge} {x:Operand} {r re:TRow} {d:Option Nat} {g:Option (Nat × Bool)} {e:TypeId} {p:Option Addr} {n cap j:Nat}
end
/-- The number that bytes make,the highest first. -/
def beN (xs:List Int):Int:=xs.foldl (fun a c=>a * 256+c) 0
/-- What is left to be read,and the first error. -/
structure Rs where
  q:Option Addr
  cap:Nat
  xs:List Int
  e:Int
def Rs.L (s:Rs) (br:Nat):Lst:=[(br,.cells ⟨[.slice s.q s.xs.length s.cap,.int .i64 s.e]⟩ 189 (0,0))]
def Rs.fail (s:Rs) (e:Int):Rs:=if s.e=0 then ⟨none,0,[],e⟩ else s
def Rs.drop (s:Rs) (k:Nat):Rs:=⟨sufP s.q s.cap k 1,s.cap - k,s.xs.drop k,s.e⟩
structure Rs.ok (s:Rs) (br:Nat) (w:World):Prop where
  rd:RdSl w s.q u8V s.xs
  cap:s.xs.length≤s.cap
  off:s.xs≠[]→Off s.q [br]
  byt:Byt s.xs
  big:s.xs.length≤1000000000
/-- The next number of k bytes. -/
def Rs.num (s:Rs) (k:Nat):Int × Bool × Rs :=
  if s.e≠0 ∨ s.xs.length < k then (0,false,s.fail 4) else if beN (s.xs.take k)≤9223372036854775807 then (beN (s.xs.take k),true,s.drop k) else (0,false,(s.drop k).fail 3)
/-- A field of a number. -/
def Rs.get (s:Rs) (z k:Nat):List Value:=if (s.num k).2.1=true then fldV z (s.num k).1 else fldV 0 0
/-- A reader whose bytes lie in known blocks. -/
structure RsO (s:Rs) (M:Lst):Prop where
  rd:∀ (w0 w:World) (S:List Nat) (L':Lst),Hp w0 S L' w→(∀ z∈M,z∈L')→RdSl w s.q u8V s.xs
  adr:s.xs≠[]→∃ b o,s.q=some ⟨b,o,none⟩∧b∈blks M
  cap:s.xs.length≤s.cap
  byt:Byt s.xs
  big:s.xs.length≤1000000000
theorem RsO.ok {s:Rs} {M:Lst} (h:RsO s M) {br:Nat} {w0 w:World} {S:List Nat} {L Lr:Lst} (hw:Hp w0 S L w) (he:Ext L (s.L br) Lr) (hin:∀ z∈M,z∈Lr):s.ok br w:=by
  refine ⟨h.rd _ _ _ _ hw fun z hz=>he.perm.subset (List.mem_append_right _ (hin z hz)),h.cap,fun hne a ha=>?_,h.byt,h.big⟩
  obtain ⟨b,o,hp,hb⟩:=h.adr hne
  rw [hp] at ha
  cases ha
  obtain ⟨z,hz,hze⟩:=List.mem_map.1 hb
  obtain ⟨zb,zo⟩:=z
  simp only at hze
  subst hze
  exact RdSl.off hw he (hin _ hz)
theorem RsO.fail {s:Rs} {M:Lst} (h:RsO s M) (e:Int):RsO (s.fail e) M:=by
  unfold Rs.fail
  split
  · exact ⟨fun _ _ _ _ _ _=>.inl rfl,(fun h=>absurd rfl h),Nat.zero_le _,(fun y hy=>by cases hy),Nat.zero_le _⟩
  · exact h
theorem RsO.drop {s:Rs} {M:Lst} (h:RsO s M) {k:Nat} (hk:k≤s.xs.length):RsO (s.drop k) M:=by
  refine ⟨fun w0 w S L' hw hin=>(h.rd w0 w S L' hw hin).suf u8V_len hk h.cap,fun hne=>?_,?_,fun y hy=>h.byt y (List.mem_of_mem_drop hy),?_⟩
  · have h1:s.xs≠[]:=by intro h0;apply hne;simp [Rs.drop,h0]
    obtain ⟨b,o,hp,hb⟩:=h.adr h1
    by_cases hc:s.cap=k
    · exfalso;apply hne;simp only [Rs.drop];exact List.drop_of_length_le (by have:=h.cap;omega)
    · exact ⟨b,o+k * 1,by simp [Rs.drop,sufP,hc,hp,Addr.add_none],hb⟩
  · have:=h.cap;simp only [Rs.drop,List.length_drop];omega
  · have:=h.big;simp only [Rs.drop,List.length_drop];omega
theorem RsO.num {s:Rs} {M:Lst} (h:RsO s M) (k:Nat):RsO (s.num k).2.2 M:=by
  unfold Rs.num
  split
  · exact h.fail 4
  · rename_i hn
    have hk:k≤s.xs.length:=Nat.le_of_not_lt fun h1=>hn (.inr h1)
    split
    · exact h.drop hk
    · exact (h.drop hk).fail 3
theorem DlO.mono {d:Dl} {L L':Lst} (h:DlO d L) (hs:∀ z∈L,z∈L'):DlO d L' :=
  ⟨h.cap,fun x hx hne=>by obtain ⟨b,o,h1,h2⟩:=h.adr x hx hne;obtain ⟨z,hz,e⟩:=List.mem_map.1 h2;exact ⟨b,o,h1,List.mem_map.2 ⟨z,hs z hz,e⟩⟩,fun w0 w S L' hw hin=>h.rd w0 w S L' hw fun z hz=>hin z (hs z hz)⟩
structure Rs.is (s:Rs) (xs:List Int) (e:Int):Prop where
  xs:s.xs=xs
  e:s.e=e
/-- Two readers with the same bytes. -/
def Rs.eqv (s t:Rs):Prop:=s.xs=t.xs∧s.e=t.e
theorem Rs.eqv.fail {s t:Rs} (h:s.eqv t) (e:Int):(s.fail e).eqv (t.fail e):=by
  unfold Rs.fail
  rw [h.2]
  split
  · exact ⟨rfl,rfl⟩
  · exact h
theorem Rs.eqv.drop {s t:Rs} (h:s.eqv t) (k:Nat):(s.drop k).eqv (t.drop k):=⟨by simp only [Rs.drop];rw [h.1],h.2⟩
theorem Rs.eqv.num {s t:Rs} (h:s.eqv t) (k:Nat):(s.num k).1=(t.num k).1∧(s.num k).2.1=(t.num k).2.1∧(s.num k).2.2.eqv (t.num k).2.2:=by
  unfold Rs.num
  rw [h.1,h.2]
  split
  · exact ⟨rfl,rfl,h.fail 4⟩
  · split
    · exact ⟨rfl,rfl,h.drop k⟩
    · exact ⟨rfl,rfl,(h.drop k).fail 3⟩
def Grw (ls ls':List (List Int)):Prop:=ls'.length=ls.length∧∀ (i:Nat) (xs:List Int),ls[i]? = some xs→∃ zs,ls'[i]? = some (xs++zs)
theorem Grw.refl (ls:List (List Int)):Grw ls ls:=⟨rfl,fun i xs h=>⟨[],by rw [List.append_nil];exact h⟩⟩
theorem Grw.mem {gs gs':List Lg} (h:Grw (lgs gs) (lgs gs')) {y:Int} (hy:y∈lcat gs):y∈lcat gs':=by
  obtain ⟨g,hg,hyg⟩:=List.mem_flatMap.1 hy
  obtain ⟨i,hi,rfl⟩:=List.getElem_of_mem hg
  obtain ⟨zs,hz⟩:=h.2 i gs[i].xs (by rw [lgs,List.getElem?_map,List.getElem?_eq_getElem hi];rfl)
  rw [lgs,List.getElem?_map] at hz
  cases hg':gs'[i]? with
  | none=>rw [hg'] at hz;cases hz
  | some g' =>
    rw [hg'] at hz
    simp only [Option.map_some,Option.some.injEq] at hz
    exact List.mem_flatMap.2 ⟨g',List.mem_of_getElem? hg',by rw [hz];exact List.mem_append_left _ hyg⟩
theorem Grw.le {gs gs':List Lg} (h:Grw (lgs gs) (lgs gs')):∀ x∈(gs'.map fun g=>(g.xs.length:Int)).zip (gs.map fun g=>(g.xs.length:Int)),x.2≤x.1:=by
  intro x hx
  obtain ⟨i,hi,rfl⟩:=List.getElem_of_mem hx
  simp only [List.length_zip,List.length_map] at hi
  simp only [List.getElem_zip,List.getElem_map]
  obtain ⟨zs,hz⟩:=h.2 i gs[i].xs (by rw [lgs,List.getElem?_map,List.getElem?_eq_getElem (by omega)];rfl)
  rw [lgs,List.getElem?_map,List.getElem?_eq_getElem (by omega)] at hz
  simp only [Option.map_some,Option.some.injEq] at hz
  rw [hz,List.length_append]
  omega
structure RAct where
  kind:Int
  n:Int
  l:Pi
  f0:Int
  f1:Int
  f2:Int
  f3:Int
  l0:Pi
  l1:Pi
  l2:Pi
  l3:Pi
deriving Inhabited
def Pi.w (z:Pi):Value:=.slice z.p z.xs.length z.cap
def RAct.v (a:RAct):List Value:=[.int .i64 a.kind,.int .i64 a.n,a.l.w,.int .i64 a.f0,.int .i64 a.f1,.int .i64 a.f2,.int .i64 a.f3,a.l0.w,a.l1.w,a.l2.w,a.l3.w]
def RAct.d (a:RAct):Dl:=[(a.f0,a.l0),(a.f1,a.l1),(a.f2,a.l2),(a.f3,a.l3)]
structure RAct.ok (w:World) (a:RAct):Prop where
  rd:RdSl w a.l.p iV a.l.xs
  cap:a.l.xs.length≤a.l.cap
  drd:∀ x∈a.d,RdSl w x.2.p iV x.2.xs
  dcap:∀ x∈a.d,x.2.xs.length≤x.2.cap
theorem DlO.off {d:Dl} {M:Lst} (h:DlO d M) {w0 w:World} {S:List Nat} {L Li Lr:Lst} (hw:Hp w0 S L w) (he:Ext L Li Lr) (hin:∀ z∈M,z∈Lr):∀ x∈d,x.2.xs≠[]→Off x.2.p (blks Li):=by
  intro x hx hne a ha
  obtain ⟨b,o,hp,hb⟩:=h.adr x hx hne
  rw [hp] at ha
  cases ha
  obtain ⟨z,hz,hze⟩:=List.mem_map.1 hb
  obtain ⟨zb,zo⟩:=z
  simp only at hze
  subst hze
  exact RdSl.off hw he (hin _ hz)
def val:List Nat→Nat
  | []=>0
  | d::r=>d+65536 * val r
def zs (n:Nat):List Value:=List.replicate n (.int .u32 0)
theorem Rs.ok.fail {s:Rs} {br:Nat} {w:World} (h:s.ok br w) (e:Int):(s.fail e).ok br w:=by
  unfold Rs.fail
  split
  · exact ⟨.inl rfl,Nat.le_refl _,(fun h=>absurd rfl h),(fun y hy=>by cases hy),Nat.zero_le _⟩
  · exact h
theorem Rs.ok.drop {s:Rs} {br:Nat} {w:World} (h:s.ok br w) {k:Nat} (hk:k≤s.xs.length):(s.drop k).ok br w:=by
  refine ⟨h.rd.suf u8V_len hk h.cap,?_,fun hne=>?_,fun y hy=>h.byt y (List.mem_of_mem_drop hy),?_⟩
  · have:=h.cap;simp only [Rs.drop,List.length_drop];omega
  · exact (h.off (by intro h0;apply hne;simp [Rs.drop,h0])).suf _ _ _
  · have:=h.big;simp only [Rs.drop,List.length_drop];omega
theorem Rs.ok.num {s:Rs} {br:Nat} {w:World} (h:s.ok br w) (k:Nat):(s.num k).2.2.ok br w:=by
  unfold Rs.num
  split
  · exact h.fail 4
  · rename_i hn
    have hk:k≤s.xs.length:=Nat.le_of_not_lt fun h1=>hn (.inr h1)
    split
    · exact h.drop hk
    · exact (h.drop hk).fail 3
def sTok:ByteArray:=⟨#[116,111,107,101,110]⟩
def secretI (k:List Int) (c:Cl):List Int:=deriveI k sTok [clI c]
def clC (c:Cl):List Value:=[.int .i64 c.id,.int .i64 c.roles,.int .i64 c.exp,.int .i64 c.ser]
def tkC (c:Cl) (s:List Int):List Value:=clC c++u8s s
def zI (n:Nat):List Int:=List.replicate n 0
theorem list32 {α:Type}:∀ (l:List α),l.length=32→∃ x0 x1 x2 x3 x4 x5 x6 x7 x8 x9 x10 x11 x12 x13 x14 x15 x16 x17 x18 x19 x20 x21 x22 x23 x24 x25 x26 x27 x28 x29 x30 x31,l=[x0,x1,x2,x3,x4,x5,x6,x7,x8,x9,x10,x11,x12,x13,x14,x15,x16,x17,x18,x19,x20,x21,x22,x23,x24,x25,x26,x27,x28,x29,x30,x31]:=by
  intro l h
  match l,h with
  | [x0,x1,x2,x3,x4,x5,x6,x7,x8,x9,x10,x11,x12,x13,x14,x15,x16,x17,x18,x19,x20,x21,x22,x23,x24,x25,x26,x27,x28,x29,x30,x31],_=>exact ⟨x0,x1,x2,x3,x4,x5,x6,x7,x8,x9,x10,x11,x12,x13,x14,x15,x16,x17,x18,x19,x20,x21,x22,x23,x24,x25,x26,x27,x28,x29,x30,x31,rfl⟩
theorem fill_tk (a b:Nat) (c:Cl) (d:List Int) (hd:d.length=32):fillE (fldPl [(a,0,4),(b,4,32)]) (tkC ⟨0,0,0,0⟩ (zI 32)) [(0,.agg ⟨clC c⟩),(1,.agg ⟨u8s d⟩)]=some (tkC c d):=by
  obtain ⟨x0,x1,x2,x3,x4,x5,x6,x7,x8,x9,x10,x11,x12,x13,x14,x15,x16,x17,x18,x19,x20,x21,x22,x23,x24,x25,x26,x27,x28,x29,x30,x31,rfl⟩:=list32 d hd
  rfl
theorem secret_len (k:List Int) (c:Cl):(secretI k c).length=32:=derive_len _ _ _
theorem secret_byt (k:List Int) (c:Cl):Byt (secretI k c):=derive_byt _ _ _
theorem make_ok (c:Cl) (hr:c.right) (bk:Nat) (k:List Int) (hkl:k.length≤999999000) (hkb:Byt k) (w:World) (hk:KeyR w bk k):CallW Tryz.prog 19 [.pointer (some ⟨bk,0,none⟩),kvC c] w fun v _=>v = .tuple #[.agg ⟨tkC c (secretI k c)⟩,.int .i64 0]:=by
  have hcb:=clBytes_ok c hr
  have hdl:=secret_len k c
  have hdd:secretI k c=deriveI k sTok [clI c]:=rfl
  have hcl:=clI_len c
  have hcy:=clI_byt c
  have hfl:(frameI [strI sTok,clI c]).length=22:=rfl
  have hst:sTok.size=5:=rfl
  generalize hsec:secretI k c=d at *
  generalize clI c=cb at *
  have hls:(u8s d).length=32:=by rw [u8s_len,hdl]
  have htl:(tkC c d).length=36:=by simp [tkC,clC,hls]
  have hto:(tkC c d).all Value.oneCell'=true:=by simp only [tkC,List.all_append,u8s_one,Bool.and_true];rfl
  have hfill:=fun a b=>fill_tk a b c d hdl
  refine enterW (tb:=tb) Tryz.func19 rfl Tryz.ntmps19 rfl ?_
  simp only [kvC]
  repeat' (first|(apply R.is1;first|(apply R.isBin;first|(apply R.pure;exact rfl;first|(apply Ok1.eql_t;exact rfl;exact rfl;omega)|(apply Ok1.eql_f;exact rfl;exact rfl;omega)|(apply Ok1.neq_t;exact rfl;exact rfl;omega)|(apply Ok1.neq_f;exact rfl;exact rfl;omega)|(apply Ok1.eqlP;(iterate 5 exact rfl))|(apply Ok1.neqP;(iterate 5 exact rfl))|(apply Ok1.eqlM;(iterate 5 exact rfl))|(apply Ok1.neqM;(iterate 5 exact rfl))|(apply Ok1.eqlS;(iterate 5 exact rfl))|(apply Ok1.neqS;(iterate 5 exact rfl)))|(apply R.eql rfl rfl rfl<;>intro)|(apply R.neq rfl rfl rfl<;>intro)|(apply R.eqlF;(iterate 8 exact rfl);all_goals intro)|(apply R.neqF;(iterate 8 exact rfl);all_goals intro))|(apply R.isCall;first|(apply R.callE (vs:=[.agg ⟨[.int .i64 c.id,.int .i64 c.roles,.int .i64 c.exp,.int .i64 c.ser]⟩]);(iterate 3 exact rfl);exact Ext.none _;intro w1 hw1;exact hcb w1;rintro v Lo ⟨ov,hov,rfl,rfl⟩;rw [slV_eq hov];obtain ⟨b9,j9,k9,rfl⟩:=ovsome hov (by decide);simp only [blkL,List.cons_append,List.nil_append]))|(apply R.pure;exact rfl;first|(apply Ok1.move;exact rfl)|(apply Ok1.load;exact rfl;first|(apply Ld.own1;exact rfl;exact rfl;(focus (repeat' first|exact At.head|apply At.tail|apply At.right);done);exact rfl)|(apply Ld.ownk;exact rfl;exact rfl;(focus (repeat' first|exact At.head|apply At.tail|apply At.right);done);exact rfl)|(apply Ld.old1;exact rfl;exact rfl;assumption;(first|exact List.not_mem_nil|assumption))|(apply Ld.blk1;exact rfl;exact rfl;assumption;(first|exact List.not_mem_nil|assumption);exact rfl)|(apply Ld.blkk;exact rfl;exact rfl;assumption;(first|exact List.not_mem_nil|assumption);exact rfl))|(apply Ok1.assign;exact rfl)|(apply Ok1.build;(iterate 5 exact rfl))|(apply Ok1.extract;exact rfl;exact rfl)|(apply Ok1.buildA;(iterate 6 exact rfl)))|(apply R.box;(iterate 3 exact rfl);intro)|(apply R.alloc;(iterate 3 exact rfl);intro)|(apply R.buildSlice;(iterate 12 exact rfl);intro))|(apply R.is0;first|(apply R.store;(iterate 6 exact rfl);(focus (repeat' first|exact Upd.head|apply Upd.tail|apply Upd.right);done);exact rfl)|fail)|(apply R.isG;first|(apply R.guard_run;exact rfl;exact rfl)|(apply R.guard_not;(iterate 3 exact rfl))|(apply R.guard_not0;exact rfl;exact rfl)|(apply R.guard_un;(iterate 3 exact rfl))|(apply R.guard_un0;exact rfl;exact rfl)|(apply R.guard rfl rfl ?_ (fun h=>⟨rfl,?_⟩)<;>try intro))|apply R.nil|(apply T.is;first|apply T.seq|apply T.region|apply T.block|apply T.scope|apply T.label|apply T.skip|apply T.exit|apply T.ret|(apply T.cond_t;exact rfl)|(apply T.cond_f;exact rfl)|(apply T.cond_h;exact rfl;assumption)|(apply T.cond_n;exact rfl;assumption)|(apply T.cond rfl<;>intro))|apply Rnd.step)
  simp only [ovp,ovc]
  apply T.drawC (id:=6) [2] (by decide)
  (apply A.tk 0;exact rfl;kernel_rfl;first|(apply Ok1.load;exact rfl;apply Ld.ownk;exact rfl;exact rfl;(focus (repeat' first|exact At.head|apply At.tail|apply At.right);done);exact subE_app _ _ hls)|(apply Ok1.load;exact rfl;first|(apply Ld.own1;exact rfl;exact rfl;(focus (repeat' first|exact At.head|apply At.tail|apply At.right);done);exact rfl)|(apply Ld.ownk;exact rfl;exact rfl;(focus (repeat' first|exact At.head|apply At.tail|apply At.right);done);exact rfl)|(apply Ld.old1;exact rfl;exact rfl;assumption;(first|exact List.not_mem_nil|assumption))|(apply Ld.blk1;exact rfl;exact rfl;assumption;(first|exact List.not_mem_nil|assumption);exact rfl)|(apply Ld.blkk;exact rfl;exact rfl;assumption;(first|exact List.not_mem_nil|assumption);exact rfl)))
    <;> (apply A.tk 1;exact rfl;kernel_rfl;first|(apply Ok1.move;exact rfl))
    <;> (apply A.tk 2;exact rfl;kernel_rfl;first|(apply Ok1.move;exact rfl))
    <;> (apply A.one 3;kernel_rfl;exact rfl;((first|(apply R.buildSlice;(iterate 12 exact rfl);intro)|fail));apply R.nil;refine ⟨?_,?_⟩;(focus (repeat' first|exact trivial|exact At.head|apply At.tail|apply At.right|refine ⟨?_,?_⟩)))
    <;> (apply A.one 4;kernel_rfl;exact rfl;((first|(apply R.callE (vs:=[.pointer (some ⟨bk,0,none⟩),.string sTok,.slice (some ⟨_,0,none⟩) 1 1]);(iterate 3 exact rfl);exact Ext.none _;intro w1 hw1;exact derive_ok bk k hkl hkb sTok (by rw [hst];decide) _ 1 1 [⟨some ⟨b9,0,none⟩,9+j9,cb⟩] rfl (by decide) (by intro x hx;cases List.mem_singleton.1 hx;exact hcy) (by rw [List.map_cons,List.map_nil,hfl];decide) (by intro x hx;cases List.mem_singleton.1 hx;rw [hcl];decide) w1 (hk.chg hw1.chg) (RdSl.of (junk:=[]) hw1 (by (focus (repeat' first|exact At.head|apply At.tail|apply At.right);done)) (by simp [fl,Pt.v,hcl])) (by intro x hx;cases List.mem_singleton.1 hx;exact RdSl.of (junk:=k9) hw1 (by (focus (repeat' first|exact At.head|apply At.tail|apply At.right);done)) (by rw [fl_u8]));rw [List.map_cons,List.map_nil,← hdd];rintro v Lo ⟨bk2,ov2,rfl,hov2,rfl⟩)|(apply R.callE (vs:=[.pointer (some ⟨bk2,0,none⟩)]);(iterate 3 exact rfl);exact Ext.none _;intro w1 hw1;exact bytes_ok bk2 d (by rw [hdl];decide) w1 (KeyR.of (by rw [hdl];exact hov2) hw1 (Ext.mem (by (focus (repeat' first|exact Ext.none _|exact Ext.one _ _|exact Ext.here _ _|exact Ext.all _|apply Ext.cons|apply Ext.app|apply Ext.two);done))));rw [hdl];rintro v Lo ⟨ov3,hov3,rfl,rfl⟩;rw [slV_eq hov3];obtain ⟨b3,j3,k3,rfl⟩:=ovsome hov3 (by decide);simp only [ovp,ovc,blkL,List.cons_append,List.nil_append])|(apply R.pure;exact rfl;first|(apply Ok1.lenS;(iterate 3 exact rfl))|(apply Ok1.lenStr;(iterate 3 exact rfl))|(apply Ok1.lenMm;(iterate 3 exact rfl);(focus (repeat' first|exact At.head|apply At.tail|apply At.right);done))|(apply Ok1.lenM_nil;(iterate 3 exact rfl))|(apply Ok1.max2;exact rfl;exact rfl)|(apply Ok1.min2;exact rfl;exact rfl))));apply R.nil;refine ⟨?_,?_⟩;(focus (repeat' first|exact trivial|exact At.head|apply At.tail|apply At.right|refine ⟨?_,?_⟩)))
    <;> (apply A.one 5;kernel_rfl;exact rfl;((first|(apply R.callE (vs:=[.pointer (some ⟨bk,0,none⟩),.string sTok,.slice (some ⟨_,0,none⟩) 1 1]);(iterate 3 exact rfl);exact Ext.none _;intro w1 hw1;exact derive_ok bk k hkl hkb sTok (by rw [hst];decide) _ 1 1 [⟨some ⟨b9,0,none⟩,9+j9,cb⟩] rfl (by decide) (by intro x hx;cases List.mem_singleton.1 hx;exact hcy) (by rw [List.map_cons,List.map_nil,hfl];decide) (by intro x hx;cases List.mem_singleton.1 hx;rw [hcl];decide) w1 (hk.chg hw1.chg) (RdSl.of (junk:=[]) hw1 (by (focus (repeat' first|exact At.head|apply At.tail|apply At.right);done)) (by simp [fl,Pt.v,hcl])) (by intro x hx;cases List.mem_singleton.1 hx;exact RdSl.of (junk:=k9) hw1 (by (focus (repeat' first|exact At.head|apply At.tail|apply At.right);done)) (by rw [fl_u8]));rw [List.map_cons,List.map_nil,← hdd];rintro v Lo ⟨bk2,ov2,rfl,hov2,rfl⟩)|(apply R.callE (vs:=[.pointer (some ⟨bk2,0,none⟩)]);(iterate 3 exact rfl);exact Ext.none _;intro w1 hw1;exact bytes_ok bk2 d (by rw [hdl];decide) w1 (KeyR.of (by rw [hdl];exact hov2) hw1 (Ext.mem (by (focus (repeat' first|exact Ext.none _|exact Ext.one _ _|exact Ext.here _ _|exact Ext.all _|apply Ext.cons|apply Ext.app|apply Ext.two);done))));rw [hdl];rintro v Lo ⟨ov3,hov3,rfl,rfl⟩;rw [slV_eq hov3];obtain ⟨b3,j3,k3,rfl⟩:=ovsome hov3 (by decide);simp only [ovp,ovc,blkL,List.cons_append,List.nil_append])|(apply R.pure;exact rfl;first|(apply Ok1.lenS;(iterate 3 exact rfl))|(apply Ok1.lenStr;(iterate 3 exact rfl))|(apply Ok1.lenMm;(iterate 3 exact rfl);(focus (repeat' first|exact At.head|apply At.tail|apply At.right);done))|(apply Ok1.lenM_nil;(iterate 3 exact rfl))|(apply Ok1.max2;exact rfl;exact rfl)|(apply Ok1.min2;exact rfl;exact rfl))));apply R.nil;refine ⟨?_,?_⟩;(focus (repeat' first|exact trivial|exact At.head|apply At.tail|apply At.right|refine ⟨?_,?_⟩)))
    <;> (apply A.tk 6;exact rfl;kernel_rfl;first|(apply Ok1.arrPtr;(iterate 3 exact rfl);omega))
    <;> (apply A.one 7;kernel_rfl;exact rfl;((first|(apply R.pure;exact rfl;first|(apply Ok1.load;exact rfl;apply Ld.ownk;exact rfl;exact rfl;(focus (repeat' first|exact At.head|apply At.tail|apply At.right);done);exact subE_app _ _ hls)|(apply Ok1.load;exact rfl;first|(apply Ld.own1;exact rfl;exact rfl;(focus (repeat' first|exact At.head|apply At.tail|apply At.right);done);exact rfl)|(apply Ld.ownk;exact rfl;exact rfl;(focus (repeat' first|exact At.head|apply At.tail|apply At.right);done);exact rfl)|(apply Ld.old1;exact rfl;exact rfl;assumption;(first|exact List.not_mem_nil|assumption))|(apply Ld.blk1;exact rfl;exact rfl;assumption;(first|exact List.not_mem_nil|assumption);exact rfl)|(apply Ld.blkk;exact rfl;exact rfl;assumption;(first|exact List.not_mem_nil|assumption);exact rfl)))|fail));apply R.nil;refine ⟨?_,?_⟩;(focus (repeat' first|exact trivial|exact At.head|apply At.tail|apply At.right|refine ⟨?_,?_⟩)))
    <;> (apply A.tk 8;exact rfl;kernel_rfl;first|(apply Ok1.build;(iterate 4 exact rfl);exact hfill _ _)|(apply Ok1.build;(iterate 5 exact rfl))|(apply Ok1.buildA;(iterate 6 exact rfl)))
    <;> (apply A.one 9;kernel_rfl;exact rfl;((first|(apply R.store;(iterate 4 exact rfl);exact htl;exact hto;(focus (repeat' first|exact Upd.head|apply Upd.tail|apply Upd.right);done);exact setE_all htl)|(apply R.store;(iterate 6 exact rfl);(focus (repeat' first|exact Upd.head|apply Upd.tail|apply Upd.right);done);exact rfl)|fail));apply R.nil;refine ⟨?_,?_⟩;(focus (repeat' first|exact trivial|exact At.head|apply At.tail|apply At.right|refine ⟨?_,?_⟩)))
    <;> (apply A.tk 10;exact rfl;kernel_rfl;first|(apply Ok1.assign;exact rfl))
    <;> (apply A.done;kernel_rfl)
  repeat' (first|(apply R.is1;first|(apply R.isBin;first|(apply R.pure;exact rfl;first|(apply Ok1.eql_t;exact rfl;exact rfl;omega)|(apply Ok1.eql_f;exact rfl;exact rfl;omega)|(apply Ok1.neq_t;exact rfl;exact rfl;omega)|(apply Ok1.neq_f;exact rfl;exact rfl;omega)|(apply Ok1.eqlP;(iterate 5 exact rfl))|(apply Ok1.neqP;(iterate 5 exact rfl))|(apply Ok1.eqlM;(iterate 5 exact rfl))|(apply Ok1.neqM;(iterate 5 exact rfl))|(apply Ok1.eqlS;(iterate 5 exact rfl))|(apply Ok1.neqS;(iterate 5 exact rfl)))|(apply R.eql rfl rfl rfl<;>intro)|(apply R.neq rfl rfl rfl<;>intro)|(apply R.eqlF;(iterate 8 exact rfl);all_goals intro)|(apply R.neqF;(iterate 8 exact rfl);all_goals intro))|(apply R.pure;exact rfl;first|(apply Ok1.move;exact rfl)|(apply Ok1.load;exact rfl;first|(apply Ld.own1;exact rfl;exact rfl;(focus (repeat' first|exact At.head|apply At.tail|apply At.right);done);exact rfl)|(apply Ld.ownk;exact rfl;exact rfl;(focus (repeat' first|exact At.head|apply At.tail|apply At.right);done);exact rfl)|(apply Ld.old1;exact rfl;exact rfl;assumption;(first|exact List.not_mem_nil|assumption))|(apply Ld.blk1;exact rfl;exact rfl;assumption;(first|exact List.not_mem_nil|assumption);exact rfl)|(apply Ld.blkk;exact rfl;exact rfl;assumption;(first|exact List.not_mem_nil|assumption);exact rfl))|(apply Ok1.assign;exact rfl)|(apply Ok1.build;(iterate 5 exact rfl))|(apply Ok1.extract;exact rfl;exact rfl)|(apply Ok1.buildA;(iterate 6 exact rfl)))|(apply R.box;(iterate 3 exact rfl);intro)|(apply R.alloc;(iterate 3 exact rfl);intro)|(apply R.buildSlice;(iterate 12 exact rfl);intro))|(apply R.is0;first|(apply R.store;(iterate 6 exact rfl);(focus (repeat' first|exact Upd.head|apply Upd.tail|apply Upd.right);done);exact rfl)|fail)|(apply R.isG;first|(apply R.guard_run;exact rfl;exact rfl)|(apply R.guard_not;(iterate 3 exact rfl))|(apply R.guard_not0;exact rfl;exact rfl)|(apply R.guard_un;(iterate 3 exact rfl))|(apply R.guard_un0;exact rfl;exact rfl)|(apply R.guard rfl rfl ?_ (fun h=>⟨rfl,?_⟩)<;>try intro))|apply R.nil|(apply T.is;first|apply T.seq|apply T.region|apply T.block|apply T.scope|apply T.label|apply T.skip|apply T.exit|apply T.ret|(apply T.cond_t;exact rfl)|(apply T.cond_f;exact rfl)|(apply T.cond_h;exact rfl;assumption)|(apply T.cond_n;exact rfl;assumption)|(apply T.cond rfl<;>intro))|apply Rnd.step)
  all_goals apply RetOk.ct
  all_goals first|exact rfl|skip
  all_goals first|(apply Ld.ownk;exact rfl;exact rfl;(focus (repeat' first|exact At.head|apply At.tail|apply At.right);done);exact subE_all htl)|exact rfl
theorem RdSl.mid {w0 w:World} {S:List Nat} {L:Lst} {b:Nat} {e:TypeId} {fz:Nat × Nat} {pre junk:List Value} {xs:List Int} (hw:Hp w0 S L w) (hat:At L b (.cells ⟨pre++u8s xs++junk⟩ e fz)) {o:Nat} (ho:o=pre.length):RdSl w (some ⟨b,o,none⟩) u8V xs:=by
  subst ho
  right
  refine ⟨b,pre.length,rfl,fun k hk=>?_⟩
  have h1:=hw.get b _ hat.mem
  rw [fl_u8] at hk ⊢
  simp only [World.cell?,h1]
  simp only [List.append_assoc,List.getElem?_toArray]
  rw [List.getElem?_append_right (by omega),List.getElem?_append_left (by omega),Nat.add_sub_cancel_left]
  rfl
theorem key_ok (c:Cl) (s:List Int) (hs:s.length=32):∀ w,CallM Tryz.prog 57 [.agg ⟨tkC c s⟩] [] w fun v L=>∃ bk ov,v = .pointer (some ⟨bk,0,none⟩)∧OvOk 1 ov 32 (u8s s)∧L=KL bk ov s:=by
  intro w
  refine enterK (tb:=tb) Tryz.func57 rfl Tryz.ntmps57 rfl ?_
  have hls:(u8s s).length=32:=by rw [u8s_len,hs]
  have htl:(tkC c s).length=36:=by simp [tkC,clC,hls]
  repeat' (first|(apply R.is1;first|(apply R.isCall;first|(apply R.callE;(iterate 3 exact rfl);exact Ext.none _;intro w1 hw1;exact new_ok (some ⟨_,4,none⟩) 32 32 s hs.symm (by decide) w1 (RdSl.mid (pre:=clC c) (junk:=[]) hw1 (by rw [List.append_nil];(focus (repeat' first|exact At.head|apply At.tail|apply At.right);done)) rfl);rintro v Lo ⟨bk2,ov2,rfl,hov2,_,rfl⟩))|(apply R.pure;exact rfl;first|(apply Ok1.sliceArr;(iterate 4 exact rfl))|(apply Ok1.fieldAddr;(iterate 5 exact rfl))|(apply Ok1.assign;exact rfl)|(apply Ok1.slice0;(iterate 7 exact rfl);(refine ⟨?_,?_,?_⟩<;>omega);(first|exact Or.inl rfl|exact Or.inr (fun e=>by cases e)))|(apply Ok1.sliceTo;(iterate 6 exact rfl);omega;omega;omega;(first|exact Or.inl rfl|exact Or.inr (fun e=>by cases e)))|(apply Ok1.sliceFrom;(iterate 7 exact rfl);omega;omega;omega;omega;omega;(first|exact Or.inl rfl|exact Or.inr (fun e=>by cases e))))|(apply R.box;(iterate 3 exact rfl);intro))|(apply R.is0;first|fail)|(apply R.isG;first|(apply R.guard_run;exact rfl;exact rfl)|(apply R.guard_not;(iterate 3 exact rfl))|(apply R.guard_not0;exact rfl;exact rfl)|(apply R.guard_un;(iterate 3 exact rfl))|(apply R.guard_un0;exact rfl;exact rfl)|(apply R.guard rfl rfl ?_ (fun h=>⟨rfl,?_⟩)<;>try intro))|apply R.nil|(apply T.is;first|apply T.seq|apply T.region|apply T.block|apply T.scope|apply T.label|apply T.skip|apply T.exit|apply T.ret|(apply T.cond_t;exact rfl)|(apply T.cond_f;exact rfl)|(apply T.cond_h;exact rfl;assumption)|(apply T.cond_n;exact rfl;assumption)|(apply T.cond rfl<;>intro))|apply Rnd.step)
  (apply RetOk.t;exact rfl)
  rw [hs] at hov2
  refine ⟨_,?_,bk2,ov2,rfl,hov2,rfl⟩
  (focus (repeat' first|exact Keep.nil _|exact Ext.one _ _|exact Ext.here _ _|exact Ext.all _|apply Keep.cons|apply Keep.app|apply Keep.last|apply Ext.cons|apply Ext.app);done)
end Go.Proofs.YtijbmkjebidanaaGreatDoor
set_option linter.unusedSimpArgs false
set_option linter.unusedVariables false
namespace Go.Proofs.YtijbmkjebidanaaGreatDoor
open Go.ChangeShapes Go.WideShapes Go.ChangeAt Go.RowKit
section
variable {H:Type} {enc:TypeId × Value→H} {P:Program} {w:World} {base:Nat} {spare:Nat→Bool} {held:Bool}
end
section
variable {H:Type} {enc:TypeId × Value→H} {w:World} {base:Nat} {spare:Nat→Bool} {held:Bool}
end
open Go.ChangeShapes Go.WideShapes Go.ChangeAt Go.RowKit
section
variable {H:Type} {enc:TypeId × Value→H} {P:Program} {w:World} {base:Nat} {spare:Nat→Bool} {held:Bool}
theorem Opens.argSt {t:TypeId} {r:TRow} {fs:List (Nat × Nat × Nat)} {Q:List Value→Prop} (tb:Tb P) (ht:tb.row t=some r) (hk:r.k = .strct fs) (hE:Opens enc P w base spare held t Q) {v:Value} {d:DataW H} {p:List MemPlace} {rc:Reach} {b0:Nat} (hv:Value.okWide P w rc b0 t v) (h:DataW.Trod enc P w base spare held t v d p):∃ cs,v = .agg ⟨cs⟩∧Q cs:=by
  have his:=(tb.get ht).is
  rw [hk] at his
  obtain ⟨fields,h1,_⟩:=his
  obtain ⟨cs,rfl,_⟩:=okWide_struct h1 hv
  exact ⟨cs.toList,rfl,hE.arg h⟩
end
end Go.Proofs.YtijbmkjebidanaaGreatDoor
set_option linter.unusedSimpArgs false
set_option linter.unusedVariables false
namespace Go.Proofs.YtijbmkjebidanaaGreatDoor
open Go.RowKit Go.Shelf
set_option maxRecDepth 100000
def cl0:Cl:=⟨0,0,0,0⟩
section
variable {X:Cx} {σ:Env} {L:Lst} {Rp:Value→Lst→Prop} {a b c' ta tb:Nat} {u v z:Value} {p q:Addr}
end
def NR (a b:Int):Prop:=1≤a∧a≤65535∧1≤b∧b≤2147483647
instance (a b:Int):Decidable (NR a b):=by unfold NR;infer_instance
theorem nonce_ok (a b:Int):CallP Tryz.prog 54 [.agg ⟨[.int .i64 a,.int .i64 b]⟩] (.int .i64 (if NR a b then 0 else 10)):=by
  refine enterP (tb:=tb) Tryz.func54 rfl Tryz.ntmps54 rfl fun w=>?_
  repeat' (first|(apply R.is1;first|(apply R.isBin;first|(apply R.pure;exact rfl;first|(apply Ok1.lss_t;exact rfl;exact rfl;omega)|(apply Ok1.lss_f;exact rfl;exact rfl;omega)|(apply Ok1.gtr_t;exact rfl;exact rfl;omega)|(apply Ok1.gtr_f;exact rfl;exact rfl;omega))|(apply R.lss rfl rfl rfl<;>intro)|(apply R.gtr rfl rfl rfl<;>intro))|(apply R.pure;exact rfl;first|(apply Ok1.move;exact rfl)|(apply Ok1.fieldAddr;(iterate 5 exact rfl))|(apply Ok1.load;exact rfl;first|(apply Ld.own1;exact rfl;exact rfl;(focus (repeat' first|exact At.head|apply At.tail|apply At.right);done);exact rfl)|(apply Ld.ownk;exact rfl;exact rfl;(focus (repeat' first|exact At.head|apply At.tail|apply At.right);done);exact rfl)|(apply Ld.old1;exact rfl;exact rfl;assumption;(first|exact List.not_mem_nil|assumption))|(apply Ld.blk1;exact rfl;exact rfl;assumption;(first|exact List.not_mem_nil|assumption);exact rfl)|(apply Ld.blkk;exact rfl;exact rfl;assumption;(first|exact List.not_mem_nil|assumption);exact rfl))|(apply Ok1.assign;exact rfl)|(apply Ok1.pick_t;exact rfl;exact rfl)|(apply Ok1.pick_f;exact rfl;exact rfl)|(apply Ok1.pick_h;exact rfl;assumption;exact rfl)|(apply Ok1.pick_n;exact rfl;assumption;exact rfl))|(apply R.box;(iterate 3 exact rfl);intro))|(apply R.is0;first|fail)|(apply R.isG;first|(apply R.guard_run;exact rfl;exact rfl)|(apply R.guard_not;(iterate 3 exact rfl))|(apply R.guard_not0;exact rfl;exact rfl)|(apply R.guard_un;(iterate 3 exact rfl))|(apply R.guard_un0;exact rfl;exact rfl)|(apply R.guard rfl rfl ?_ (fun h=>⟨rfl,?_⟩)<;>try intro))|apply R.nil|(apply T.is;first|apply T.seq|apply T.region|apply T.block|apply T.scope|apply T.label|apply T.skip|apply T.exit|apply T.ret|(apply T.cond_t;exact rfl)|(apply T.cond_f;exact rfl)|(apply T.cond_h;exact rfl;assumption)|(apply T.cond_n;exact rfl;assumption)|(apply T.cond rfl<;>intro))|apply Rnd.step)
  all_goals (apply RetOk.t;exact rfl)
  all_goals first
    | (rw [if_pos (by unfold NR;omega)];done)
    | (rw [if_neg (by unfold NR;omega)];done)
section
variable {X:Cx} {σ:Env} {L L':Lst} {dd:Nat} {ty:TypeId} {pos:String} {af:Array Edge} {x y:Operand} {t t2 e:TypeId} {r r2 re:TRow}
variable {all:Array Oper} {rest:List Oper} {K:Env→Lst→Prop} {p:Option Addr} {n m cap b o:Nat}
theorem copy_runO {α:Type} {v:α→List Value} {xs:List α} {P:Program} (tb:Tb P) (ht:tb.row t=some r) (hk:r.k = .slice e) (he:tb.row e=some re) (hs:re.size=1) (hv:∀ a,(v a).length=1) {w:World} {dn dcap:Nat} {cs cs':List Value} {te:TypeId}
    (hp:RdSl w p v xs) (h1:(fl v xs).all Value.oneCell'=true) (hb:w.heap[b]? = some (.cells ⟨cs⟩ te (0,0))) (hc:setE cs o (fl v (xs.take dn))=some cs') :
    ∃ w',(Builtin.copy_ #[t,t2] ty #[.slice (some ⟨b,o,none⟩) dn dcap,.slice p xs.length cap]).run P w = .ok (.int .i64 (min xs.length dn:Nat)) w' ∧ w'.heap[b]? = some (.cells ⟨cs'⟩ te (0,0))∧Chg [b] w w':=by
  have hu:P.underlying t=some (.slice e):=by have:=(tb.get ht).is;rw [hk] at this;exact this
  have hone:(fl v (xs.take dn)).all Value.oneCell'=true:=by
    rw [List.all_eq_true] at h1 ⊢
    intro z hz
    rw [← fl_takeG hv] at hz
    exact h1 z (List.mem_of_mem_take hz)
  obtain ⟨w',g1,g2,g3⟩:=run_stores P ⟨b,o,none⟩ rfl te (fl v (xs.take dn)) 0 w cs cs' hone hb hc
  have hf:(Builtin.firstCells 1 (min xs.length dn) (.slice p xs.length cap)).run P w = .ok ⟨fl v (xs.take dn)⟩ w:=by
    by_cases hx:xs.take dn=[]
    · have h9:(xs.take dn).length=0:=by rw [hx];rfl
      have h0:min xs.length dn=0:=by
        rw [List.length_take] at h9
        omega
      rw [hx,h0]
      cases p<;>simp [Builtin.firstCells,loadCells,loadCellsFrom,fl]
    · refine first_run ((hp.pre hv dn).holds hx) ?_
      rw [fl_len hv,List.length_take,Nat.min_comm]
  refine ⟨w',?_,g2,g3⟩
  unfold Builtin.copy_
  simp only [List.getElem?_toArray,List.getElem?_cons_zero,List.getElem?_cons_succ,Sem.run_bind,run_underlying hu,Result.andThen_ok,(tb.get he).size,hs,Sem.run_pure,Builtin.lenOf,show Nat.min xs.length dn=min xs.length dn from rfl,hf,g1,goInt]
theorem R.copyOff {α:Type} {v:α→List Value} {xs:List α} {dn dcap:Nat} {cs cs':List Value} {te:TypeId} {k:Nat} (hn:Nat.blt dd X.n=true) (ht:X.tb.row t=some r) (hk:r.k = .slice e) (he:X.tb.row e=some re) (hs:re.size=1)
    (hx:ev σ x=some (.slice (some ⟨b,o,none⟩) dn dcap)) (hy:ev σ y=some (.slice p m cap)) (hm:m=xs.length) (hv:∀ a,(v a).length=1) (hh:∀ w,Hp X.w0 X.S L w→RdSl w p v xs) (h1:(fl v xs).all Value.oneCell'=true)
    (hu:Upd L b (.cells ⟨cs⟩ te (0,0)) (.cells ⟨cs'⟩ te (0,0)) L') (hc:setE cs o (fl v (xs.take dn))=some cs') (hmin:min m dn=k) (h:R X all rest K ((dd,.int .i64 (k:Nat))::σ) L') :
    R X all (⟨some dd,.call { callee:=.builtin .copy,args:=#[x,y],argTypes:=#[t,t2] },ty,pos,af,none⟩::rest) K σ L :=
  R.value rfl rfl hn fun a w ha hw=>by
    subst hm
    subst hmin
    obtain ⟨w',g1,g2,g3⟩:=copy_runO (ty:=ty) (t2:=t2) (dcap:=dcap) (cap:=cap) X.tb ht hk he hs hv (hh w hw) h1 (hw.get _ _ hu.mem) hc
    refine ⟨_,w',L',?_,hw.upd hu g3 g2,h⟩
    simp [execOp,resolve,ha.ev hx,ha.ev hy,invoke,builtin,g1]
/-- All of what is read is copied. -/
theorem R.copyAll {α:Type} {v:α→List Value} {xs:List α} {dn dcap o':Nat} {cs cs':List Value} {te:TypeId} (hn:Nat.blt dd X.n=true) (ht:X.tb.row t=some r) (hk:r.k = .slice e) (he:X.tb.row e=some re) (hs:re.size=1)
    (hx:ev σ x=some (.slice (some ⟨b,o,none⟩) dn dcap)) (hy:ev σ y=some (.slice p m cap)) (hm:m=xs.length) (hv:∀ a,(v a).length=1) (hh:∀ w,Hp X.w0 X.S L w→RdSl w p v xs) (h1:(fl v xs).all Value.oneCell'=true)
    (hdn:xs.length≤dn) (ho:o=o') (hu:Upd L b (.cells ⟨cs⟩ te (0,0)) (.cells ⟨cs'⟩ te (0,0)) L') (hc:setE cs o' (fl v xs)=some cs') (h:R X all rest K ((dd,.int .i64 (m:Nat))::σ) L') :
    R X all (⟨some dd,.call { callee:=.builtin .copy,args:=#[x,y],argTypes:=#[t,t2] },ty,pos,af,none⟩::rest) K σ L :=
  R.copyOff hn ht hk he hs hx hy hm hv hh h1 hu (by rw [List.take_of_length_le hdn,ho];exact hc) (Nat.min_eq_left (by omega)) h
theorem setE_off (pre vs cs:List Value) (h:vs.length≤cs.length):setE (pre++cs) pre.length vs=some (pre++(vs++cs.drop vs.length)):=by
  rw [setE_mid _ h,List.append_assoc]
/-- What bytealg.MakeNoZero does: a new row of some bytes. -/
def NoZero (P:Program) (f:FuncId) (e:TypeId):Prop:=∀ (n:Nat) (w:World),n≤1000000000→∃ cs:List Value,(callFunc f #[.int .i64 n]).run P w = .ok (.value (.slice (some ⟨w.heap.size,0,none⟩) n cs.length)) (w.drew.drew.alloc (.cells ⟨cs⟩ e))∧n≤cs.length
theorem NoZero.of {P:Program} {f:FuncId} {fn:Func} {ps:Array TypeId} {t e:TypeId} (hf:P.funcs[f]? = some fn) (hname:(fn.name == "runtime.NumGoroutine")=false) (hb:fn.body.isNone=true) (hn:Extern.findNext fn=none) (he:Extern.find fn=some (Extern.BytealgMakeNoZero.makeNoZero ps #[t])) (ht:P.underlying t=some (.slice e)):NoZero P f e:=by
  intro n w hn9
  obtain ⟨cs,h1,h2,_⟩:=Lib.run_makeNoZero (P:=P) w ps t e ht n (by omega)
  refine ⟨cs.toList,?_,by simpa using h2⟩
  rw [run_callFunc_extern hf hname hb hn he,h1]
  simp
theorem R.noZero {f:FuncId} {xs:List Operand} {ats:Array TypeId} (hz:NoZero X.P f e) (hx:evs σ xs=some [.int .i64 (n:Nat)]) (hl:n≤1000000000) (hn:Nat.blt dd X.n=true)
    (h:∀ b cs,n≤cs.length→R X all rest K ((dd,.slice (some ⟨b,0,none⟩) n cs.length)::σ) ((b,.cells ⟨cs⟩ e (0,0))::L)) :
    R X all (⟨some dd,.call { callee:=.value (.func f),args:=xs.toArray,argTypes:=ats },ty,pos,af,none⟩::rest) K σ L :=
  R.value rfl rfl hn fun a w ha hw=>by
    obtain ⟨cs,h1,h2⟩:=hz n w hl
    have hw2:Hp X.w0 X.S L w.drew.drew:=(hw.step (Chg.drew [] w)).step (Chg.drew [] w.drew)
    have hs:w.drew.drew.heap.size=w.heap.size:=rfl
    refine ⟨_,_,_,?_,hw2.alloc (.cells ⟨cs⟩ e (0,0)),h _ cs h2⟩
    have hargs:xs.map a.eval=[.int .i64 (n:Nat)]:=evs_map ha hx
    simp only [execOp,resolve,Act.eval,List.map_toArray,hargs,Deferred.ofValue,Sem.run_bind,Sem.run_pure,Result.andThen_ok,invoke,hs]
    simpa using h1
end
theorem nozero_ok:NoZero Tryz.prog 81 5:=NoZero.of (ps:=#[3]) (t:=26) Tryz.func81 (by kernel_rfl) (by kernel_rfl) (by kernel_rfl) (by kernel_rfl) (by have:=(tb.get (t:=26) rfl).is;exact this)
theorem setE_nilO (cs:List Value) (o:Nat):setE cs o []=some cs:=by simp [setE]
theorem nto_ok (a b:Int):CallP Tryz.prog 18 [.agg ⟨[.int .i64 a,.int .i64 b]⟩] (.agg ⟨[.int .i64 a,.int .i64 b]⟩):=by
  refine enterP (tb:=tb) Tryz.func18 rfl Tryz.ntmps18 rfl fun w=>?_
  repeat' (first|(apply R.is1;first|(apply R.pure;exact rfl;first|(apply Ok1.fieldAddr;(iterate 5 exact rfl))|(apply Ok1.load;exact rfl;first|(apply Ld.own1;exact rfl;exact rfl;(focus (repeat' first|exact At.head|apply At.tail|apply At.right);done);exact rfl)|(apply Ld.ownk;exact rfl;exact rfl;(focus (repeat' first|exact At.head|apply At.tail|apply At.right);done);exact rfl)|(apply Ld.old1;exact rfl;exact rfl;assumption;(first|exact List.not_mem_nil|assumption))|(apply Ld.blk1;exact rfl;exact rfl;assumption;(first|exact List.not_mem_nil|assumption);exact rfl)|(apply Ld.blkk;exact rfl;exact rfl;assumption;(first|exact List.not_mem_nil|assumption);exact rfl))|(apply Ok1.build;(iterate 5 exact rfl))|(apply Ok1.buildA;(iterate 6 exact rfl)))|(apply R.box;(iterate 3 exact rfl);intro)|(apply R.alloc;(iterate 3 exact rfl);intro))|(apply R.is0;first|(apply R.store;(iterate 6 exact rfl);(focus (repeat' first|exact Upd.head|apply Upd.tail|apply Upd.right);done);exact rfl)|fail)|(apply R.isG;first|(apply R.guard_run;exact rfl;exact rfl)|(apply R.guard_not;(iterate 3 exact rfl))|(apply R.guard_not0;exact rfl;exact rfl)|(apply R.guard_un;(iterate 3 exact rfl))|(apply R.guard_un0;exact rfl;exact rfl)|(apply R.guard rfl rfl ?_ (fun h=>⟨rfl,?_⟩)<;>try intro))|apply R.nil|(apply T.is;first|apply T.seq|apply T.region|apply T.block|apply T.scope|apply T.label|apply T.skip|apply T.exit|apply T.ret|(apply T.cond_t;exact rfl)|(apply T.cond_f;exact rfl)|(apply T.cond_h;exact rfl;assumption)|(apply T.cond_n;exact rfl;assumption)|(apply T.cond rfl<;>intro))|apply Rnd.step)
  (apply RetOk.c;exact rfl;(first|(apply Ld.ownk;exact rfl;exact rfl;(focus (repeat' first|exact At.head|apply At.tail|apply At.right);done);exact rfl)|(apply Ld.own1;exact rfl;exact rfl;(focus (repeat' first|exact At.head|apply At.tail|apply At.right);done);exact rfl)))
  rfl
def nbI (a b:Int):List Int:=([]++numI 1 a)++numI 2 b
theorem wnbytes_ok (a b:Int) (hr:NR a b) (w:World):CallM Tryz.prog 60 [.agg ⟨[.int .i64 a,.int .i64 b]⟩] [] w fun v L=>∃ ov,OvOk 1 ov 6 (u8s (nbI a b))∧v = .tuple #[slV ov 6,.int .i64 0]∧L=blkL 5 ov (u8s (nbI a b)):=by
  have hck:=nonce_ok a b
  rw [if_pos hr] at hck
  have hf1:Fits 1 a:=by unfold NR at hr;unfold Fits;omega
  have hf2:Fits 2 b:=by unfold NR at hr;unfold Fits;omega
  refine enterK (tb:=tb) Tryz.func60 rfl Tryz.ntmps60 rfl ?_
  repeat' (first|(apply R.is1;first|(apply R.isBin;first|(apply R.pure;exact rfl;first|(apply Ok1.neq_t;exact rfl;exact rfl;omega)|(apply Ok1.neq_f;exact rfl;exact rfl;omega)|(apply Ok1.neqP;(iterate 5 exact rfl))|(apply Ok1.neqM;(iterate 5 exact rfl))|(apply Ok1.neqS;(iterate 5 exact rfl)))|(apply R.neq rfl rfl rfl<;>intro)|(apply R.neqF;(iterate 8 exact rfl);all_goals intro))|(apply R.isCall;first|apply R.callP rfl rfl rfl hck)|(apply R.pure;exact rfl;first|(apply Ok1.move;exact rfl)|(apply Ok1.fieldAddr;(iterate 5 exact rfl))|(apply Ok1.load;exact rfl;first|(apply Ld.own1;exact rfl;exact rfl;(focus (repeat' first|exact At.head|apply At.tail|apply At.right);done);exact rfl)|(apply Ld.ownk;exact rfl;exact rfl;(focus (repeat' first|exact At.head|apply At.tail|apply At.right);done);exact rfl)|(apply Ld.old1;exact rfl;exact rfl;assumption;(first|exact List.not_mem_nil|assumption))|(apply Ld.blk1;exact rfl;exact rfl;assumption;(first|exact List.not_mem_nil|assumption);exact rfl)|(apply Ld.blkk;exact rfl;exact rfl;assumption;(first|exact List.not_mem_nil|assumption);exact rfl))|(apply Ok1.assign;exact rfl)|(apply Ok1.extract;exact rfl;exact rfl))|(apply R.box;(iterate 3 exact rfl);intro)|(apply R.alloc;(iterate 3 exact rfl);intro)|(apply R.buildSlice;(iterate 12 exact rfl);intro))|(apply R.is0;first|fail)|(apply R.isG;first|(apply R.guard_run;exact rfl;exact rfl)|(apply R.guard_not;(iterate 3 exact rfl))|(apply R.guard_not0;exact rfl;exact rfl)|(apply R.guard_un;(iterate 3 exact rfl))|(apply R.guard_un0;exact rfl;exact rfl)|(apply R.guard rfl rfl ?_ (fun h=>⟨rfl,?_⟩)<;>try intro))|apply R.nil|(apply T.is;first|apply T.seq|apply T.region|apply T.block|apply T.scope|apply T.label|apply T.skip|apply T.exit|apply T.ret|(apply T.cond_t;exact rfl)|(apply T.cond_f;exact rfl)|(apply T.cond_h;exact rfl;assumption)|(apply T.cond_n;exact rfl;assumption)|(apply T.cond rfl<;>intro))|apply Rnd.step)
  rename_i bc bw
  obtain ⟨B0,hB0⟩:∃ B:List Int,B=[]:=⟨_,rfl⟩
  obtain ⟨B1,hB1⟩:∃ B,B=B0++numI 1 a:=⟨_,rfl⟩
  obtain ⟨B2,hB2⟩:∃ B,B=B1++numI 2 b:=⟨_,rfl⟩
  have hl0:B0.length≤1000:=by rw [hB0];decide
  have hl1:B1.length≤1000:=by rw [hB1,hB0];exact Nat.le_of_ble_eq_true rfl
  have hB:B2=nbI a b:=by rw [hB2,hB1,hB0];rfl
  have hBl:B2.length=6:=by rw [hB];rfl
  have hw0:OvOk 1 none B0.length (u8s B0):=by rw [hB0];exact OvOk.start 1
  apply T.drawC (id:=5) [1] (by decide)
  (apply A.tk 0;exact rfl;kernel_rfl;first|(apply Ok1.fieldAddr;(iterate 5 exact rfl)))<;>(apply A.tk 1;exact rfl;kernel_rfl;first|(apply Ok1.load;exact rfl;first|(apply Ld.own1;exact rfl;exact rfl;(focus (repeat' first|exact At.head|apply At.tail|apply At.right);done);exact rfl)|(apply Ld.ownk;exact rfl;exact rfl;(focus (repeat' first|exact At.head|apply At.tail|apply At.right);done);exact rfl)|(apply Ld.old1;exact rfl;exact rfl;assumption;(first|exact List.not_mem_nil|assumption))|(apply Ld.blk1;exact rfl;exact rfl;assumption;(first|exact List.not_mem_nil|assumption);exact rfl)|(apply Ld.blkk;exact rfl;exact rfl;assumption;(first|exact List.not_mem_nil|assumption);exact rfl)))<;>(apply A.tk 4;exact rfl;kernel_rfl;first|(apply Ok1.fieldAddr;(iterate 5 exact rfl)))<;>(apply A.tk 5;exact rfl;kernel_rfl;first|(apply Ok1.load;exact rfl;first|(apply Ld.own1;exact rfl;exact rfl;(focus (repeat' first|exact At.head|apply At.tail|apply At.right);done);exact rfl)|(apply Ld.ownk;exact rfl;exact rfl;(focus (repeat' first|exact At.head|apply At.tail|apply At.right);done);exact rfl)|(apply Ld.old1;exact rfl;exact rfl;assumption;(first|exact List.not_mem_nil|assumption))|(apply Ld.blk1;exact rfl;exact rfl;assumption;(first|exact List.not_mem_nil|assumption);exact rfl)|(apply Ld.blkk;exact rfl;exact rfl;assumption;(first|exact List.not_mem_nil|assumption);exact rfl)))
  refine A.merge (fun σ L=>∃ (ov:Ov),OvOk 1 ov B2.length (u8s B2)∧Sub [(5,.pointer (some ⟨bw,0,none⟩)),(12,.int .i64 a),(16,.int .i64 b),(18,.pointer (some ⟨bw,0,none⟩))] σ∧Keep L (WL bw ov B2++[(bc,.cells ⟨[.int .i64 a,.int .i64 b]⟩ 38 (0,0))])) 5 #[true,true,true,true,true,true,true,true,false,false,false,false,false] ?_ ?_
  rotate_left 1
  focus
    intro H2_
    refine A.merge (fun σ L=>∃ (ov:Ov) (b1:Nat),OvOk 1 ov B1.length (u8s B1)∧Sub [(5,.pointer (some ⟨bw,0,none⟩)),(12,.int .i64 a),(16,.int .i64 b),(14,.pointer (some ⟨bw,0,none⟩)),(17,.slice (some ⟨b1,0,none⟩) 1 1)] σ∧Keep L (WL bw ov B1++[(bc,.cells ⟨[.int .i64 a,.int .i64 b]⟩ 38 (0,0)),(b1,.cells ⟨[.int .i64 b]⟩ 3 (0,0))])) 6 #[true,true,true,true,true,true,true,false,false,false,false,false,false] ?_ ?_
    · rintro σ L ⟨ov,b1,hov,hs,hk⟩
      refine A.weak ?_ hs hk
      refine A.multi [7] (by kernel_rfl) (by decide) ⟨⟨_,rfl,?_⟩,trivial⟩
      · (apply R.callE (Li:=WL bw ov B1);(iterate 3 exact rfl);(focus (repeat' first|exact Ext.none _|exact Ext.one _ _|exact Ext.here _ _|exact Ext.all _|apply Ext.cons|apply Ext.app|apply Ext.two);done);intro w1 hw1;have h9:=number1_ok bw ov B1 hov 2 b hf2 hl1 b1 _ _ w1 (hw1.get _ _ (At.mem (by (focus (repeat' first|exact At.head|apply At.tail|apply At.right);done)))) (RdSl.off hw1 (by (focus (repeat' first|exact Ext.none _|exact Ext.one _ _|exact Ext.here _ _|exact Ext.all _|apply Ext.cons|apply Ext.app|apply Ext.two);done)) (At.mem (by (focus (repeat' first|exact At.head|apply At.tail|apply At.right);done))));rw [← hB2] at h9;exact h9;rintro v Lo ⟨ov1,rfl,hov1,rfl⟩);apply R.nil;refine ⟨(by (focus (repeat' first|exact trivial|exact At.head|apply At.tail|apply At.right|refine ⟨?_,?_⟩))),A.cast (by kernel_rfl) (H2_ _ _ ⟨ov1,hov1,⟨rfl,rfl,rfl,rfl,trivial⟩,(by (focus (repeat' first|exact Keep.nil _|exact Ext.one _ _|exact Ext.here _ _|exact Ext.all _|apply Keep.cons|apply Keep.app|apply Keep.last|apply Ext.cons|apply Ext.app);done))⟩)⟩
    intro H1_1
    refine A.merge (fun σ L=>∃ (ov:Ov),OvOk 1 ov B1.length (u8s B1)∧Sub [(5,.pointer (some ⟨bw,0,none⟩)),(12,.int .i64 a),(16,.int .i64 b),(14,.pointer (some ⟨bw,0,none⟩))] σ∧Keep L (WL bw ov B1++[(bc,.cells ⟨[.int .i64 a,.int .i64 b]⟩ 38 (0,0))])) 7 #[true,true,true,true,true,true,false,false,false,false,false,false,false] ?_ ?_
    · rintro σ L ⟨ov,hov,hs,hk⟩
      refine A.weak ?_ hs hk
      refine A.multi [6] (by kernel_rfl) (by decide) ⟨⟨_,rfl,?_⟩,trivial⟩
      · ((first|(apply R.buildSlice;(iterate 12 exact rfl);intro)|fail));rename_i b1;apply R.nil;refine ⟨(by (focus (repeat' first|exact trivial|exact At.head|apply At.tail|apply At.right|refine ⟨?_,?_⟩))),A.cast (by kernel_rfl) (H1_1 _ _ ⟨ov,b1,hov,⟨rfl,rfl,rfl,rfl,rfl,trivial⟩,(by (focus (repeat' first|exact Keep.nil _|exact Ext.one _ _|exact Ext.here _ _|exact Ext.all _|apply Keep.cons|apply Keep.app|apply Keep.last|apply Ext.cons|apply Ext.app);done))⟩)⟩
    intro H1_
    refine A.merge (fun σ L=>∃ (ov:Ov) (b0:Nat) (b1:Nat),OvOk 1 ov B0.length (u8s B0)∧Sub [(5,.pointer (some ⟨bw,0,none⟩)),(12,.int .i64 a),(16,.int .i64 b),(13,.slice (some ⟨b0,0,none⟩) 1 1),(17,.slice (some ⟨b1,0,none⟩) 1 1)] σ∧Keep L (WL bw ov B0++[(bc,.cells ⟨[.int .i64 a,.int .i64 b]⟩ 38 (0,0)),(b0,.cells ⟨[.int .i64 a]⟩ 3 (0,0)),(b1,.cells ⟨[.int .i64 b]⟩ 3 (0,0))])) 7 #[true,true,true,false,true,true,true,false,false,false,false,false,false] ?_ ?_
    · rintro σ L ⟨ov,b0,b1,hov,hs,hk⟩
      refine A.weak ?_ hs hk
      refine A.multi [3] (by kernel_rfl) (by decide) ⟨⟨_,rfl,?_⟩,trivial⟩
      · (apply R.callE (Li:=WL bw ov B0);(iterate 3 exact rfl);(focus (repeat' first|exact Ext.none _|exact Ext.one _ _|exact Ext.here _ _|exact Ext.all _|apply Ext.cons|apply Ext.app|apply Ext.two);done);intro w1 hw1;have h9:=number1_ok bw ov B0 hov 1 a hf1 hl0 b0 _ _ w1 (hw1.get _ _ (At.mem (by (focus (repeat' first|exact At.head|apply At.tail|apply At.right);done)))) (RdSl.off hw1 (by (focus (repeat' first|exact Ext.none _|exact Ext.one _ _|exact Ext.here _ _|exact Ext.all _|apply Ext.cons|apply Ext.app|apply Ext.two);done)) (At.mem (by (focus (repeat' first|exact At.head|apply At.tail|apply At.right);done))));rw [← hB1] at h9;exact h9;rintro v Lo ⟨ov1,rfl,hov1,rfl⟩);apply R.nil;refine ⟨(by (focus (repeat' first|exact trivial|exact At.head|apply At.tail|apply At.right|refine ⟨?_,?_⟩))),A.cast (by kernel_rfl) (H1_1 _ _ ⟨ov1,b1,hov1,⟨rfl,rfl,rfl,rfl,rfl,trivial⟩,(by (focus (repeat' first|exact Keep.nil _|exact Ext.one _ _|exact Ext.here _ _|exact Ext.all _|apply Keep.cons|apply Keep.app|apply Keep.last|apply Ext.cons|apply Ext.app);done))⟩)⟩
    intro H0_01
    refine A.merge (fun σ L=>∃ (ov:Ov) (b0:Nat),OvOk 1 ov B0.length (u8s B0)∧Sub [(5,.pointer (some ⟨bw,0,none⟩)),(12,.int .i64 a),(16,.int .i64 b),(13,.slice (some ⟨b0,0,none⟩) 1 1)] σ∧Keep L (WL bw ov B0++[(bc,.cells ⟨[.int .i64 a,.int .i64 b]⟩ 38 (0,0)),(b0,.cells ⟨[.int .i64 a]⟩ 3 (0,0))])) 8 #[true,true,true,false,true,true,false,false,false,false,false,false,false] ?_ ?_
    · rintro σ L ⟨ov,b0,hov,hs,hk⟩
      refine A.weak ?_ hs hk
      refine A.multi [3,6] (by kernel_rfl) (by decide) ⟨⟨_,rfl,?_⟩,⟨_,rfl,?_⟩,trivial⟩
      · (apply R.callE (Li:=WL bw ov B0);(iterate 3 exact rfl);(focus (repeat' first|exact Ext.none _|exact Ext.one _ _|exact Ext.here _ _|exact Ext.all _|apply Ext.cons|apply Ext.app|apply Ext.two);done);intro w1 hw1;have h9:=number1_ok bw ov B0 hov 1 a hf1 hl0 b0 _ _ w1 (hw1.get _ _ (At.mem (by (focus (repeat' first|exact At.head|apply At.tail|apply At.right);done)))) (RdSl.off hw1 (by (focus (repeat' first|exact Ext.none _|exact Ext.one _ _|exact Ext.here _ _|exact Ext.all _|apply Ext.cons|apply Ext.app|apply Ext.two);done)) (At.mem (by (focus (repeat' first|exact At.head|apply At.tail|apply At.right);done))));rw [← hB1] at h9;exact h9;rintro v Lo ⟨ov1,rfl,hov1,rfl⟩);apply R.nil;refine ⟨(by (focus (repeat' first|exact trivial|exact At.head|apply At.tail|apply At.right|refine ⟨?_,?_⟩))),A.cast (by kernel_rfl) (H1_ _ _ ⟨ov1,hov1,⟨rfl,rfl,rfl,rfl,trivial⟩,(by (focus (repeat' first|exact Keep.nil _|exact Ext.one _ _|exact Ext.here _ _|exact Ext.all _|apply Keep.cons|apply Keep.app|apply Keep.last|apply Ext.cons|apply Ext.app);done))⟩)⟩
      · ((first|(apply R.buildSlice;(iterate 12 exact rfl);intro)|fail));rename_i b1;apply R.nil;refine ⟨(by (focus (repeat' first|exact trivial|exact At.head|apply At.tail|apply At.right|refine ⟨?_,?_⟩))),A.cast (by kernel_rfl) (H0_01 _ _ ⟨ov,b0,b1,hov,⟨rfl,rfl,rfl,rfl,rfl,trivial⟩,(by (focus (repeat' first|exact Keep.nil _|exact Ext.one _ _|exact Ext.here _ _|exact Ext.all _|apply Keep.cons|apply Keep.app|apply Keep.last|apply Ext.cons|apply Ext.app);done))⟩)⟩
    intro H0_0
    refine A.merge (fun σ L=>∃ (ov:Ov) (b1:Nat),OvOk 1 ov B0.length (u8s B0)∧Sub [(5,.pointer (some ⟨bw,0,none⟩)),(12,.int .i64 a),(16,.int .i64 b),(17,.slice (some ⟨b1,0,none⟩) 1 1)] σ∧Keep L (WL bw ov B0++[(bc,.cells ⟨[.int .i64 a,.int .i64 b]⟩ 38 (0,0)),(b1,.cells ⟨[.int .i64 b]⟩ 3 (0,0))])) 8 #[true,true,false,false,true,true,true,false,false,false,false,false,false] ?_ ?_
    · rintro σ L ⟨ov,b1,hov,hs,hk⟩
      refine A.weak ?_ hs hk
      refine A.multi [2] (by kernel_rfl) (by decide) ⟨⟨_,rfl,?_⟩,trivial⟩
      · ((first|(apply R.buildSlice;(iterate 12 exact rfl);intro)|fail));rename_i b0;apply R.nil;refine ⟨(by (focus (repeat' first|exact trivial|exact At.head|apply At.tail|apply At.right|refine ⟨?_,?_⟩))),A.cast (by kernel_rfl) (H0_01 _ _ ⟨ov,b0,b1,hov,⟨rfl,rfl,rfl,rfl,rfl,trivial⟩,(by (focus (repeat' first|exact Keep.nil _|exact Ext.one _ _|exact Ext.here _ _|exact Ext.all _|apply Keep.cons|apply Keep.app|apply Keep.last|apply Ext.cons|apply Ext.app);done))⟩)⟩
    intro H0_1
    refine A.merge (fun σ L=>∃ (ov:Ov),OvOk 1 ov B0.length (u8s B0)∧Sub [(5,.pointer (some ⟨bw,0,none⟩)),(12,.int .i64 a),(16,.int .i64 b)] σ∧Keep L (WL bw ov B0++[(bc,.cells ⟨[.int .i64 a,.int .i64 b]⟩ 38 (0,0))])) 9 #[true,true,false,false,true,true,false,false,false,false,false,false,false] ?_ ?_
    · rintro σ L ⟨ov,hov,hs,hk⟩
      refine A.weak ?_ hs hk
      refine A.multi [2,6] (by kernel_rfl) (by decide) ⟨⟨_,rfl,?_⟩,⟨_,rfl,?_⟩,trivial⟩
      · ((first|(apply R.buildSlice;(iterate 12 exact rfl);intro)|fail));rename_i b0;apply R.nil;refine ⟨(by (focus (repeat' first|exact trivial|exact At.head|apply At.tail|apply At.right|refine ⟨?_,?_⟩))),A.cast (by kernel_rfl) (H0_0 _ _ ⟨ov,b0,hov,⟨rfl,rfl,rfl,rfl,trivial⟩,(by (focus (repeat' first|exact Keep.nil _|exact Ext.one _ _|exact Ext.here _ _|exact Ext.all _|apply Keep.cons|apply Keep.app|apply Keep.last|apply Ext.cons|apply Ext.app);done))⟩)⟩
      · ((first|(apply R.buildSlice;(iterate 12 exact rfl);intro)|fail));rename_i b1;apply R.nil;refine ⟨(by (focus (repeat' first|exact trivial|exact At.head|apply At.tail|apply At.right|refine ⟨?_,?_⟩))),A.cast (by kernel_rfl) (H0_1 _ _ ⟨ov,b1,hov,⟨rfl,rfl,rfl,rfl,trivial⟩,(by (focus (repeat' first|exact Keep.nil _|exact Ext.one _ _|exact Ext.here _ _|exact Ext.all _|apply Keep.cons|apply Keep.app|apply Keep.last|apply Ext.cons|apply Ext.app);done))⟩)⟩
    intro H0_
    exact A.cast (by kernel_rfl) (H0_ _ _ ⟨none,hw0,⟨rfl,rfl,rfl,trivial⟩,(by (focus (repeat' first|exact Keep.nil _|exact Ext.one _ _|exact Ext.here _ _|exact Ext.all _|apply Keep.cons|apply Keep.app|apply Keep.last|apply Ext.cons|apply Ext.app);done))⟩)
  rintro σ L ⟨ov,hov,hs,hk⟩
  refine A.weak ?_ hs hk
  clear hs hk
  (apply A.one 8;kernel_rfl;exact rfl;((first|(simp only [WL,List.cons_append];apply R.callE;(iterate 3 exact rfl);exact Ext.none _;intro w1 hw1;exact wout_ok bw ov B2 hov (by rw [hBl];decide) w1 (hw1.get _ _ (At.mem (by (focus (repeat' first|exact At.head|apply At.tail|apply At.right);done)))) (rdown hov hw1 (Ext.mem (by (focus (repeat' first|exact Ext.none _|exact Ext.one _ _|exact Ext.here _ _|exact Ext.all _|apply Ext.cons|apply Ext.app|apply Ext.two);done))));rintro v Lo ⟨ov9,hov9,rfl,rfl⟩)|(apply R.pure;exact rfl;first|(apply Ok1.lenS;(iterate 3 exact rfl))|(apply Ok1.lenStr;(iterate 3 exact rfl))|(apply Ok1.lenMm;(iterate 3 exact rfl);(focus (repeat' first|exact At.head|apply At.tail|apply At.right);done))|(apply Ok1.lenM_nil;(iterate 3 exact rfl))|(apply Ok1.max2;exact rfl;exact rfl)|(apply Ok1.min2;exact rfl;exact rfl))));apply R.nil;refine ⟨?_,?_⟩;(focus (repeat' first|exact trivial|exact At.head|apply At.tail|apply At.right|refine ⟨?_,?_⟩)))<;>(apply A.tk 9;exact rfl;kernel_rfl;first|(apply Ok1.extract;exact rfl;exact rfl))<;>(apply A.tk 10;exact rfl;kernel_rfl;first|(apply Ok1.extract;exact rfl;exact rfl))<;>(apply A.tk 11;exact rfl;kernel_rfl;first|(apply Ok1.assign;exact rfl))<;>(apply A.tk 12;exact rfl;kernel_rfl;first|(apply Ok1.assign;exact rfl))<;>(apply A.done;kernel_rfl)
  rw [hBl] at hov9
  repeat' (first|(apply R.is1;first|(apply R.isBin;first|(apply R.pure;exact rfl;first|(apply Ok1.neq_t;exact rfl;exact rfl;omega)|(apply Ok1.neq_f;exact rfl;exact rfl;omega)|(apply Ok1.neqP;(iterate 5 exact rfl))|(apply Ok1.neqM;(iterate 5 exact rfl))|(apply Ok1.neqS;(iterate 5 exact rfl)))|(apply R.neq rfl rfl rfl<;>intro)|(apply R.neqF;(iterate 8 exact rfl);all_goals intro))|(apply R.pure;exact rfl;first|(apply Ok1.move;exact rfl)|(apply Ok1.fieldAddr;(iterate 5 exact rfl))|(apply Ok1.load;exact rfl;first|(apply Ld.own1;exact rfl;exact rfl;(focus (repeat' first|exact At.head|apply At.tail|apply At.right);done);exact rfl)|(apply Ld.ownk;exact rfl;exact rfl;(focus (repeat' first|exact At.head|apply At.tail|apply At.right);done);exact rfl)|(apply Ld.old1;exact rfl;exact rfl;assumption;(first|exact List.not_mem_nil|assumption))|(apply Ld.blk1;exact rfl;exact rfl;assumption;(first|exact List.not_mem_nil|assumption);exact rfl)|(apply Ld.blkk;exact rfl;exact rfl;assumption;(first|exact List.not_mem_nil|assumption);exact rfl))|(apply Ok1.assign;exact rfl)|(apply Ok1.extract;exact rfl;exact rfl))|(apply R.box;(iterate 3 exact rfl);intro)|(apply R.alloc;(iterate 3 exact rfl);intro)|(apply R.buildSlice;(iterate 12 exact rfl);intro))|(apply R.is0;first|fail)|(apply R.isG;first|(apply R.guard_run;exact rfl;exact rfl)|(apply R.guard_not;(iterate 3 exact rfl))|(apply R.guard_not0;exact rfl;exact rfl)|(apply R.guard_un;(iterate 3 exact rfl))|(apply R.guard_un0;exact rfl;exact rfl)|(apply R.guard rfl rfl ?_ (fun h=>⟨rfl,?_⟩)<;>try intro))|apply R.nil|(apply T.is;first|apply T.seq|apply T.region|apply T.block|apply T.scope|apply T.label|apply T.skip|apply T.exit|apply T.ret|(apply T.cond_t;exact rfl)|(apply T.cond_f;exact rfl)|(apply T.cond_h;exact rfl;assumption)|(apply T.cond_n;exact rfl;assumption)|(apply T.cond rfl<;>intro))|apply Rnd.step)
  (apply RetOk.tt;exact rfl;exact rfl)
  refine ⟨_,?_,ov9,hB ▸ hov9,by rw [hBl],rfl⟩
  rw [← hB]
  (focus (repeat' first|exact Keep.nil _|exact Ext.one _ _|exact Ext.here _ _|exact Ext.all _|apply Keep.cons|apply Keep.app|apply Keep.last|apply Ext.cons|apply Ext.app);done)
end Go.Proofs.YtijbmkjebidanaaGreatDoor
