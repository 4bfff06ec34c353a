/- Texts of the proof: Eng26, Eng31, Eng20, Eng30, Eng15, Eng22, Eng25, S0, Tab, Dg1, Dg2, Dg3, Dg4, Dg5. -/
import Derived.Test.YtcfdgnajepilbaaGreatL28nb1
import Derived.RangeFuncRecord
import Derived.TacticsIn
import Derived.OrdersIn
import Derived.ProofKit
import Derived.Deep.Slices
import Derived.OpenShut
import Derived.Test.YtcfdgnajepilbaaGreatProg
set_option linter.unusedSimpArgs false
set_option linter.unusedVariables false
set_option linter.unusedSectionVars false
namespace Go.Proofs.YtcfdgnajepilbaaGreat
open Go.RowKit Go.Shelf
theorem subE_app:∀ (xs junk:List Value) {n:Nat},xs.length=n→subE (xs++junk) 0 n=some xs
  | [],junk,n,h=>by simp at h;subst h;cases junk<;>rfl
  | x :: xs,junk,n,h=>by
    cases n with
    | zero=>simp at h
    | succ n =>
      have:=subE_app xs junk (n:=n) (by simpa using h)
      simp only [List.cons_append,subE,this]
theorem subE_all {xs:List Value} {n:Nat} (h:xs.length=n):subE xs 0 n=some xs:=by
  have:=subE_app xs [] h
  rwa [List.append_nil] at this
theorem setE_all {cs vs:List Value} (h:vs.length=cs.length):setE cs 0 vs=some vs:=by
  have:=setE_mid [] (vs:=vs) (junk:=cs) (by omega)
  simpa [h] using this
/-- Where a slice's last ones lie. -/
def sufP (p:Option Addr) (cap i sz:Nat):Option Addr:=if cap=i then p else p.map (·.add (i * sz))
section
variable {α:Type} {v:α→List Value} {sz:Nat} {xs:List α} {w:World} {p:Option Addr}
theorem RdSl.suf (hv:∀ a,(v a).length=sz) (h:RdSl w p v xs) {cap i:Nat} (h1:i≤xs.length) (h2:xs.length≤cap):RdSl w (sufP p cap i sz) v (xs.drop i):=by
  by_cases hc:cap=i
  · left;exact List.drop_eq_nil_of_le (by omega)
  · rcases h with h|⟨b,o,rfl,h⟩
    · left;rw [h];exact List.drop_nil
    · right
      refine ⟨b,o+i * sz,by simp [sufP,hc,Addr.add_none],fun k hk=>?_⟩
      rw [← fl_dropG hv] at hk ⊢
      rw [List.length_drop] at hk
      rw [List.getElem?_drop,← h (i * sz+k) (by omega),Nat.add_assoc]
theorem RdSl.pre (hv:∀ a,(v a).length=sz) (h:RdSl w p v xs) (i:Nat):RdSl w p v (xs.take i):=by
  rcases h with h|⟨b,o,rfl,h⟩
  · left;rw [h];exact List.take_nil
  · right
    refine ⟨b,o,rfl,fun k hk=>?_⟩
    rw [← fl_takeG hv] at hk ⊢
    rw [List.length_take] at hk
    rw [List.getElem?_take,if_pos (by omega)]
    exact h k (by omega)
theorem Off.suf {S:List Nat} (h:Off p S) (cap i sz:Nat):Off (sufP p cap i sz) S:=by
  intro a ha
  unfold sufP at ha
  split at ha
  · exact h a ha
  · cases p with
    | none=>cases ha
    | some a0 =>
      simp only [Option.map_some,Option.some.injEq] at ha
      subst ha
      have:=h a0 rfl
      unfold Addr.add
      split<;>exact this
theorem RdSl.chg' {w':World} {S:List Nat} (h:RdSl w p v xs) (hc:Chg S w w') (ho:xs≠[]→Off p S):RdSl w' p v xs:=by
  by_cases hx:xs=[]
  · exact .inl hx
  · exact h.chg hc (ho hx)
/-- What is old lies in none of the blocks that are one's own. -/
theorem RdSl.old {w':World} {S:List Nat} {L Li Lr:Lst} (hv:∀ a,(v a).length=sz) (hs:1≤sz) (h:RdSl w p v xs) (ho:xs≠[]→Off p S) (hw:Hp w S L w') (he:Ext L Li Lr):xs≠[]→Off p (blks Li):=by
  intro hx a ha hm
  rcases h with h|⟨b,o,hp,h⟩
  · exact hx h
  · rw [hp] at ha
    cases ha
    obtain ⟨⟨b',ob⟩,hmem,hb'⟩:=List.mem_map.1 hm
    simp only at hb'
    subst hb'
    rcases hw.own b' ob (he.mem _ hmem) with h1|h1
    · have h2:0 < (fl v xs).length:=by
        rw [fl_len hv]
        have:0 < xs.length:=List.length_pos_iff.2 hx
        exact Nat.mul_pos this hs
      have h3:=h 0 h2
      rw [List.getElem?_eq_getElem h2] at h3
      simp only [World.cell?] at h3
      have h4:w.heap[b']? = none:=Array.getElem?_eq_none h1
      rw [h4] at h3
      simp at h3
    · exact ho hx _ hp h1
theorem RdSl.holds {n cap:Nat} (h:RdSl w p v xs) (hne:xs≠[]):Holds w (.slice p n cap) (fl v xs):=by
  rcases h with h|⟨b,o,rfl,h⟩
  · exact absurd h hne
  · exact fun i hi=>h i hi
end
section
variable {X:Cx} {σ:Env} {L Lr:Lst} {d:Option Nat} {dd:Nat} {ty:TypeId} {pos:String} {af:Array Edge} {g:Option (Nat × Bool)} {x y:Operand} {t t2 e:TypeId} {r r2 re:TRow}
variable {all:Array Oper} {rest:List Oper} {K:Env→Lst→Prop} {p:Option Addr} {n cap i:Nat}
theorem Ok1.sufR {lo:Operand} {sz:Nat} (ht:X.tb.row t=some r) (hk:r.k = .slice e) (he:X.tb.row e=some re) (hsz:re.size=sz) (hx:ev σ x=some (.slice p n cap)) (hh:ev σ lo=some (.int .i64 i)) (h1:i≤n) (h2:n≤cap) :
    Ok1 X ⟨d,.slice t x (some lo) none none,ty,pos,af,g⟩ σ L (.slice (sufP p cap i sz) (n - i) (cap - i)):=.mk fun a w ha hw=>by
  subst hsz
  rw [slice_run (l:=(i:Int)) (h:=(n:Int)) (m:=(cap:Int)) X.tb ht hk he ha hx rfl rfl (by simp [bd,hh]) (by omega) (by omega) (by omega) (by omega) (.inl rfl)]
  simp [sufP]
theorem Ok1.preR {hi:Operand} (ht:X.tb.row t=some r) (hk:r.k = .slice e) (he:X.tb.row e=some re) (hx:ev σ x=some (.slice p n cap)) (hh:ev σ hi=some (.int .i64 i)) (h1:i≤cap) :
    Ok1 X ⟨d,.slice t x none (some hi) none,ty,pos,af,g⟩ σ L (.slice p i cap):=.mk fun a w ha hw=>by
  rw [slice_run (l:=0) (h:=(i:Int)) (m:=(cap:Int)) X.tb ht hk he ha hx rfl (by simp [bd,hh]) rfl (by omega) (by omega) (by omega) (by omega) (.inl rfl)]
  have:p.map (·.add (0 * re.size))=p:=by cases p<;>simp [Addr.add]
  simp only [Int.toNat_zero,this,ite_self,Int.toNat_natCast,Nat.sub_zero]
theorem Ok1.capS (ht:X.tb.row t=some r) (hk:r.k = .slice e) (hx:ev σ x=some (.slice p n cap)):Ok1 X ⟨d,.call { callee:=.builtin .cap,args:=#[x],argTypes:=#[t] },ty,pos,af,g⟩ σ L (.int .i64 cap):=.mk fun a w ha hw=>by
  have h2:=(X.tb.get ht).is
  rw [hk] at h2
  simp only [TK.is] at h2
  simp [execOp,resolve,ha.ev hx,invoke,builtin,Builtin.cap_,run_underlying h2,goInt]
/-- append(s,y...): s a slice of one's own,y one that is read. -/
theorem R.appendRd {α:Type} {v:α→List Value} {xs:List α} {sz:Nat} {ov:Ov} {m cap2 e2:Nat} {old zc:List Value} (hn:Nat.blt dd X.n=true) (ht:X.tb.row t=some r) (hk:r.k = .slice e) (he:X.tb.row e=some re) (hz:cellsE re.zero=some zc) (hzl:zc.length=re.size) (ht2:X.tb.row t2=some r2) (hk2:r2.k = .slice e2) (hb1:Nat.ble 1 re.bytes=true) (hb2:Nat.ble re.bytes 65536=true)
    (hx:ev σ x=some (slV ov n)) (hy:ev σ y=some (.slice p m cap2)) (hok:OvOk re.size ov n old) (hp:Ext L (blkL e ov old) Lr) (hm:m=xs.length) (hv:∀ a,(v a).length=sz) (hs:re.size=sz) (hh:∀ w,Hp X.w0 X.S L w→RdSl w p v xs)
    (h1:(fl v xs).all Value.oneCell'=true) (hbig:n+m≤1073741824)
    (h:∀ ov',OvOk re.size ov' (n+m) (old++fl v xs)→(ov.isSome=true→ov'.isSome=true)→R X all rest K ((dd,slV ov' (n+m))::σ) (blkL e ov' (old++fl v xs)++Lr)) :
    R X all (⟨some dd,.call { callee:=.builtin .append,args:=#[x,y],argTypes:=#[t,t2] },ty,pos,af,none⟩::rest) K σ L:=by
  subst hm
  cases xs with
  | nil =>
    refine R.value rfl rfl hn fun a w ha hw=>?_
    have hw2:=hw.perm hp.perm
    have hrun:=append_none X.tb (w:=w) (ty:=ty) (n:=n) (p2:=p) (cap2:=cap2) (ov:=ov) ht hk he ht2 hk2 (fun e=>by subst e;exact hok.2)
    refine ⟨slV ov n,w,blkL e ov (old++[])++Lr,?_,by rw [List.append_nil];exact hw2,h ov (by simpa [fl] using hok) id⟩
    simp [execOp,resolve,ha.ev hx,ha.ev hy,invoke,builtin,hrun]
  | cons x0 xs =>
    refine R.appendH hn ht hk he hz hzl ht2 hk2 hb1 hb2 hx hy rfl hok hp (fun w hw=>(hh w hw).holds (by simp)) ?_ h1 hbig fun ov' h2=>h ov' h2 fun _=>by
      cases ov' with
      | none=>have:=h2.2;simp at this
      | some _=>rfl
    rw [fl_len hv,hs]
/-- Room for n,made ahead of any: append(nil,make(..,n)...). -/
theorem grow_run {P : Program} (tb : Tb P) (ht : tb.row t=some r) (hk:r.k = .slice e) (he:tb.row e=some re) {z:Value} (hz:cellsE re.zero=some [z]) (hsz:re.size=1) (ht2:tb.row t2=some r2) (hk2:r2.k = .int .i64)
    {w0 w:World} {S:List Nat} {n:Nat} (hw:Hp w0 S L w) (hm:1≤n) (hbig:(2 * n+768) * re.bytes≤281474976710656) (hb1:1≤re.bytes) :
    ∃ b' j' w',(Builtin.append_ #[t,t2] ty #[.slice none 0 0,.int .i64 n]).run P w = .ok (.slice (some ⟨b',0,none⟩) n (n+j')) w' ∧ Hp w0 S ((b',.cells ⟨List.replicate (n+j') z⟩ e (0,0))::L) w':=by
  have hu:P.underlying t=some (.slice e):=by have:=(tb.get ht).is;rw [hk] at this;exact this
  have hu2:P.underlying t2=some (.int .i64):=by have:=(tb.get ht2).is;rw [hk2] at this;exact this
  obtain ⟨i,hi,hib⟩:∃ i,P.info? e=some i∧i.bytes=re.bytes:=by
    have:=(tb.get he).bytes
    cases h:P.info? e with
    | none=>rw [h] at this;cases this
    | some i=>rw [h] at this;exact ⟨i,rfl,by simpa using this⟩
  have hti:∀ w,(typeInfo e).run P w = .ok i w:=fun w=>by simp [typeInfo,hi]
  have hzc:=cellsE_eq hz
  have hnx:=nextcap_le n 0 (by omega)
  have h48:(2:Nat) ^ 48=281474976710656:=by decide
  have hnb:¬ Builtin.nextslicecap n 0 * re.bytes > 2 ^ 48:=by
    have:=Nat.mul_le_mul_right re.bytes hnx
    omega
  have hn2:n * 1≤n * re.bytes:=Nat.mul_le_mul_left _ hb1
  have hn3:(2 * n+768) * re.bytes=2 * (n * re.bytes)+768 * re.bytes:=by rw [Nat.add_mul,Nat.mul_assoc]
  have hwn:IntKind.i64.wrap (n:Int)=n:=wrap_in (by omega) (by omega)
  have hnn:¬ (n:Int) < 0:=by omega
  have hlb:¬ ((n:Int) * (re.bytes:Int) > 2 ^ 48):=by
    have h1:n * re.bytes≤2 ^ 48:=by omega
    have h2:((n * re.bytes:Nat):Int)≤((2 ^ 48:Nat):Int):=Int.ofNat_le.2 h1
    have h3:((2 ^ 48:Nat):Int)=2 ^ 48:=by decide
    rw [Int.natCast_mul] at h2
    omega
  have hzr:∀ k,(Builtin.zeroCells re.zero.cells k).toList=List.replicate k z:=by
    intro k
    have hc:re.zero.cells = #[z]:=by apply Array.toList_inj.1;rw [hzc]
    rw [hc]
    refine List.eq_replicate_iff.2 ⟨by simp [Builtin.zeroCells],fun x hx=>?_⟩
    simp only [Builtin.zeroCells,Array.toList_map,List.mem_map,List.size_toArray,List.length_singleton,Nat.mod_one] at hx
    obtain ⟨_,_,rfl⟩:=hx
    rfl
  obtain ⟨q,hq⟩:∃ q,(Question.appendCap n 0 e).cut (w.tape w.drawn (.appendCap n 0 e))=n+q:=⟨_,rfl⟩
  refine ⟨w.heap.size,q,w.drew.alloc (.cells ⟨List.replicate (n+q) z⟩ e (0,0)),?_,(hw.step (Chg.drew [] w)).alloc _⟩
  have harr:((#[]:Array Value)++Builtin.zeroCells re.zero.cells n++Builtin.zeroCells re.zero.cells (n+q - n):Array Value)=⟨List.replicate (n+q) z⟩:=by
    apply Array.toList_inj.1
    rw [Array.toList_append,Array.toList_append,hzr,hzr,Nat.add_sub_cancel_left,List.nil_append,List.replicate_append_replicate]
  have hai:∀ w,(asInt (.int .i64 (n:Int))).run P w = .ok (n:Int) w:=fun w=>by simp [asInt,asIntOf]
  have hmx : ¬ (n : Int) > IntKind.i64.max := by have:IntKind.i64.max=9223372036854775807:=by decide
                                                 omega
  unfold Builtin.append_
  simp only [hmx,false_and,List.getElem?_toArray,List.getElem?_cons_zero,List.getElem?_cons_succ,Sem.run_bind,run_underlying hu,run_underlying hu2,Result.andThen_ok,(tb.get he).size,Sem.run_pure,if_true,hai,hwn,hnn,if_false,Nat.zero_add,Nat.not_le.2 (show 0 < n by omega),hti,hib,Sem.run_ite,hlb,Int.toNat_natCast,Bool.not_true,Bool.false_eq_true,
    show ¬ re.bytes=0 by omega,or_false,and_false,false_or,hnb,run_choose,Question.forced,hq,run_askRoom,World.drew_eq,Builtin.firstCells,hsz,Nat.mul_one,show ¬ n=0 by omega,(tb.get he).zero,newRow,run_newObj,harr]
  rfl
theorem R.growMk {z:Value} (hn:Nat.blt dd X.n=true) (ht:X.tb.row t=some r) (hk:r.k = .slice e) (he:X.tb.row e=some re) (hz:cellsE re.zero=some [z]) (hsz:Nat.beq re.size 1=true) (ht2:X.tb.row t2=some r2) (hk2:r2.k = .int .i64) (hb1:Nat.ble 1 re.bytes=true) (hb2:Nat.ble re.bytes 65536=true)
    (hx:ev σ x=some (.slice none 0 0)) (hy:ev σ y=some (.int .i64 n)) (hm:1≤n) (hbig:n≤1073741824)
    (h:∀ b' j',R X all rest K ((dd,.slice (some ⟨b',0,none⟩) n (n+j'))::σ) ((b',.cells ⟨List.replicate (n+j') z⟩ e (0,0))::L)) :
    R X all (⟨some dd,.call { callee:=.builtin .append,args:=#[x,y],argTypes:=#[t,t2] },ty,pos,af,none⟩::rest) K σ L :=
  R.value rfl rfl hn fun a w ha hw=>by
    have h3:=Nat.le_of_ble_eq_true hb2
    have hbig':(2 * n+768) * re.bytes≤281474976710656:=by
      have:=Nat.mul_le_mul (show 2 * n+768≤2147484416 by omega) h3
      omega
    obtain ⟨b',j',w',g1,g2⟩:=grow_run X.tb (ty:=ty) ht hk he hz (Nat.eq_of_beq_eq_true hsz) ht2 hk2 hw hm hbig' (Nat.le_of_ble_eq_true hb1)
    refine ⟨_,w',_,?_,g2,h b' j'⟩
    simp [execOp,resolve,ha.ev hx,ha.ev hy,invoke,builtin,g1]
end
section
variable {X:Cx} {σ:Env} {L:Lst} {d:Option Nat} {ty:TypeId} {pos:String} {af:Array Edge} {g:Option (Nat × Bool)} {x:Operand} {t e:TypeId} {r re:TRow} {p:Option Addr} {n cap i m:Nat}
theorem Ok1.preM {hi mx:Operand} (ht:X.tb.row t=some r) (hk:r.k = .slice e) (he:X.tb.row e=some re) (hx:ev σ x=some (.slice p n cap)) (hh:ev σ hi=some (.int .i64 i)) (hm:ev σ mx=some (.int .i64 m)) (h1:i≤m) (h2:m≤cap) :
    Ok1 X ⟨d,.slice t x none (some hi) (some mx),ty,pos,af,g⟩ σ L (.slice p i m):=.mk fun a w ha hw=>by
  rw [slice_run (l:=0) (h:=(i:Int)) (m:=(m:Int)) X.tb ht hk he ha hx (by simp [bd,hm]) (by simp [bd,hh]) rfl (by omega) (by omega) (by omega) (by omega) (.inr (by simp))]
  have:p.map (·.add (0 * re.size))=p:=by cases p<;>simp [Addr.add]
  simp only [Int.toNat_zero,this,ite_self,Int.toNat_natCast,Nat.sub_zero]
end
section
variable {X:Cx} {σ:Env} {L:Lst} {d:Option Nat} {ty:TypeId} {pos:String} {af:Array Edge} {g:Option (Nat × Bool)} {x y:Operand} {k:IntKind} {i j m:Int} {ats:Array TypeId}
end
section
variable {X:Cx} {σ:Env} {L L':Lst} {ty:TypeId} {pos:String} {af:Array Edge} {x:Operand} {t e te:TypeId} {r re:TRow} {b o n cap k:Nat} {z0:Value} {cs cs':List Value} {all:Array Oper} {rest:List Oper} {K:Env→Lst→Prop}
end
/-- Where a walk goes: anywhere,or in a round of the loop l. -/
def fen:Option Nat→Fence
  | none=>Fence.wide
  | some l=>Fence.wide.inRound l
theorem fen_fn (ro:Option Nat) (f:Nat):(fen ro).fn f:=by cases ro<;>trivial
theorem fen_depth (ro:Option Nat):(fen ro).depth=none:=by cases ro<;>rfl
theorem fen_round (ro:Option Nat):(fen ro).round=ro:=by cases ro<;>rfl
theorem fen_calls {ro:Option Nat} {n:Nat} {P:Program} {f:FuncId} {args:Array Value} {w:World} {R:Ending→World→Prop} (h:Calls P f args w R):CallsIn (fen ro) n P f args w R:=by
  cases ro with
  | none=>exact callsIn_wide.2 h
  | some l=>exact ⟨trivial,((callsIn_wide (n:=n)).2 h).2⟩
theorem fen_rows {ro:Option Nat} {n:Nat} {P:Program} {row:String} {args:Array Value} {w:World} {R:Value→World→Prop} (h:Rows P row args w R):RowsIn (fen ro) n P row args w R:=by
  intro c cs _
  obtain ⟨v,w',r,s⟩:=h c cs
  refine ⟨v,w',r,?_⟩
  cases ro with
  | none=>exact stepsIn_wide.2 s
  | some l=>rw [show Machine.fenced P (fen (some l))=Machine.fenced P Fence.wide from rfl];exact stepsIn_wide.2 s
def noDefer (o:Oper):Bool:=match o.op with | .defer _=>false|_=>true
theorem noDefer_spec {o:Oper} (h:noDefer o=true):∀ c,o.op ≠ .defer c:=by
  intro c e;unfold noDefer at h;rw [e] at h;cases h
theorem Oper.up_fen {ro:Option Nat} {n:Nat} {P:Program} {o:Oper} {a:Act} {next:Act→World→Prop} {Q:Exit→Act→World→Prop} {r:Result Next} (h:o.upon P a next Q r):o.uponIn (fen ro) n P a next Q r:=by
  cases r with
  | ok m w' =>
    cases m with
    | enter f args=>exact ⟨fun e=>(by rw [fen_depth] at e;cases e),fen_calls h⟩
    | row f args=>exact ⟨fun e=>(by rw [fen_depth] at e;cases e),fen_rows h⟩
    | round=>exact h.elim
    | value v=>exact h
    | skip=>exact h
    | defer d=>exact h
    | _=>exact h.elim
  | halt x w'=>cases x<;>first|exact h|exact h.elim
theorem Oper.wp_fen {ro:Option Nat} {n:Nat} {P:Program} {o:Oper} {a:Act} {w:World} {next:Act→World→Prop} {Q:Exit→Act→World→Prop} (hd:noDefer o=true) (h:o.wp P a w next Q):o.wpIn (fen ro) n P a w next Q:=by
  refine ⟨fun f _=>fen_fn ro f,?_⟩
  rw [fen_round,Oper.semAt_eq _ _ _ (noDefer_spec hd)]
  exact Oper.up_fen h

/-- The judgement over a region's operations at such a fence. -/
structure RI (X:Cx) (ro:Option Nat) (all:Array Oper) (l:List Oper) (K:Env→Lst→Prop) (σ:Env) (L:Lst):Prop where
  run:∀ a w,Mod X.n a σ→Hp X.w0 X.S L w→wpListIn (fen ro) 0 X.P all (X.liftK K) l a w
section
variable {X:Cx} {ro:Option Nat} {all:Array Oper} {rest:List Oper} {K:Env→Lst→Prop} {σ:Env} {L:Lst} {o:Oper} {Q:Post}
theorem RI.nil (h:K σ L):RI X ro all [] K σ L:=⟨fun a w ha hw=>⟨rfl,σ,L,ha,hw,h⟩⟩
theorem RI.step (hd:noDefer o=true) (h:R X all [o] (fun σ' L'=>RI X ro all rest K σ' L') σ L):RI X ro all (o::rest) K σ L:=by
  refine ⟨fun a w ha hw=>?_⟩
  have h1:=h.run a w ha hw
  have hnil:∀ a' w',wpList X.P all (X.liftK fun σ' L'=>RI X ro all rest K σ' L') [] a' w' → wpListIn (fen ro) 0 X.P all (X.liftK K) rest a' w':=by
    rintro a' w' ⟨_,σ',L',h2,h3,h4⟩
    exact h4.run a' w' h2 h3
  unfold wpList at h1
  unfold wpListIn
  by_cases hwd:Region.wanted o (yielded all a.tmps)=true
  · rw [if_pos hwd] at h1 ⊢
    rcases h1 with h1|⟨_,a,w,h1⟩
    · exact Oper.wp_fen hd (Oper.wp_change hnil (fun c a w h=>by cases h.1) (fun ⟨a,w,h⟩=>by cases h.1) h1)
    · cases h1.1
  · rw [if_neg hwd] at h1 ⊢
    exact ⟨fun f _=>fen_fn ro f,hnil _ _ h1⟩
theorem T.regionIn {id:Nat} {ops:Array Oper} (h:RI X none ops ops.toList (Q .normal) σ L):T X (.region id ops false) Q σ L :=
  ⟨fun a w ha hw=>wpIn_wide.1 (Go.wpIn_mono (wpIn_region_list (h.run a w ha hw)) fun e a w ⟨he,σ,L,h1,h2,h3⟩=>⟨σ,L,h1,h2,he ▸ h3⟩)⟩
end
/-- A call of yield: what a round does to the known blocks. -/
structure YieldM (P:Program) (l:Nat) (args:List Value) (L:Lst) (w:World) (R1:Value→Lst→Prop):Prop where
  run:Hp w (blks L) L w→∃ fn tmps assign body,(Instr.yield l args.toArray).run P w = .ok (.round l fn tmps assign body) w∧RoundIn Fence.wide 0 P l fn tmps assign body w fun e w'=>∃ v L',e = .returned v∧R1 v L' ∧ Hp w (blks L) L' w'
theorem RI.yield {X:Cx} {all:Array Oper} {rest:List Oper} {K:Env→Lst→Prop} {σ:Env} {L Li Lr:Lst} {dd l:Nat} {ty:TypeId} {pos:String} {af:Array Edge} {c:Operand} {xs:List Operand} {vs:List Value} {ats:Array TypeId} {R1:Value→Lst→Prop}
    (hcv:ev σ c=some (.func (.yield l) #[] #[])) (hx:evs σ xs=some vs) (hn:Nat.blt dd X.n=true) (hp:Ext L Li Lr) (hc:∀ w,Hp X.w0 X.S L w→YieldM X.P l vs Li w R1) (h:∀ v Lo,R1 v Lo→RI X none all rest K ((dd,v)::σ) (Lo++Lr)) :
    RI X none all (⟨some dd,.call { callee:=.value c,args:=xs.toArray,argTypes:=ats },ty,pos,af,none⟩::rest) K σ L:=by
  refine ⟨fun a w ha hw=>wpListIn_plain rfl fun K' hK'=>⟨fun f _=>trivial,?_⟩⟩
  have hw2:=hw.perm hp.perm
  have hin:Hp w (blks Li) Li w:=⟨.refl _ _,fun b o hm=>hw2.get b o (List.mem_append_left _ hm),(List.nodup_append.1 (by have:=hw2.nod;rwa [List.map_append] at this)).1,fun b o hm=>.inr (List.mem_map.2 ⟨(b,o),hm,rfl⟩)⟩
  obtain ⟨fn,tmps,assign,body,hy,hR⟩:=(hc w hw).run hin
  have hm:xs.toArray.map a.eval=vs.toArray:=by rw [List.map_toArray,evs_map ha hx]
  have hr:(Oper.semAt (fen none).round a.eval { dst:=some dd,op:=.call { callee:=.value c,args:=xs.toArray,argTypes:=ats },type:=ty,pos:=pos,after:=af,guard:=none }).run X.P w = .ok (.round l fn tmps assign body) w:=by
    rw [fen_round,Oper.semAt_none]
    simp only [execOp,resolve,ha.ev hcv,hm,Deferred.ofValue,Sem.run_bind,Sem.run_pure,Result.andThen_ok,invoke,Array.append_empty,Array.empty_append,List.append_toArray,List.nil_append]
    simpa using hy
  rw [hr,Oper.uponIn_round]
  refine ⟨fun e=>(by rw [fen_depth] at e;cases e),hR.mono ?_⟩
  rintro e w' ⟨v,L',rfl,h2,h3⟩
  exact hK' _ _ ((h v L' h2).run _ _ (ha.put (blt_lt hn) v) (hw2.callM h3))

/-- What a round's contract is made of: the assignments to the loop's variables,then the body. -/
theorem YieldM.of {P:Program} {tb:Tb P} {n l p ia ib rb:Nat} {rec:Loop} {aops bops:Array Oper} {σ:Env} {u:Value} {Li:Lst} {w:World} {R1:Lst→Prop}
    (hm:Mod n { tmps:=rec.tmps,defers:=[] } σ) (hp:rec.params = #[p]) (hpn:p < n) (ha:rec.assign = .region ia aops false) (hb:rec.body = .block ib (.region rb bops false)) (hst:rec.state = .ready) (hpe:rec.pending=none)
    (h:RI ⟨P,tb,n,w,l::blks Li⟩ (some l) aops aops.toList (fun σ2 L2=>∃ L3,Keep L2 ((l,.loop rec)::L3)∧RI ⟨P,tb,n,w,l::blks Li⟩ (some l) bops bops.toList (fun σ4 L4=>∃ L5,Keep L4 ((l,.loop { rec with state:=.busy })::L5)∧R1 L5) σ2 ((l,.loop { rec with state:=.busy })::L3)) ((p,u)::σ) ((l,.loop rec)::Li)) :
    YieldM P l [u] ((l,.loop rec)::Li) w fun v L=>v = .bool true∧∃ L5,R1 L5∧L=(l,.loop rec)::L5:=by
  refine ⟨fun hw=>?_⟩
  have hl:=hw.get l _ List.mem_cons_self
  refine ⟨_,_,_,_,run_yield hl (by rw [hp];rfl),roundIn_of_wpIn trivial ?_⟩
  have hm':Mod n { tmps:=((rec.params.zip #[u]).foldl (fun t (q,v)=>t.setIfInBounds q v) rec.tmps),defers:=[] } ((p,u)::σ):=by
    have:=hm.put hpn u
    rw [hp]
    simpa [Act.put] using this
  rw [ha,hb]
  refine Go.wpIn_mono (wpIn_region_list (h.run _ w hm' hw)) ?_
  rintro e a1 w1 ⟨rfl,σ2,L2,m2,h2,L3,hk,hbody⟩
  have h3:=h2.keep hk
  have hl1:=h3.get l _ List.mem_cons_self
  have hlt:l < w1.heap.size:=(Array.getElem?_eq_some_iff.1 hl1).1
  refine ⟨_,run_beginRound hl1 hst,?_⟩
  have h4:Hp w (l::blks Li) ((l,.loop { rec with state:=.busy })::L3) (w1.putObj l (.loop { rec with state:=.busy })):=h3.upd .head (Chg.setObj w1 _ (by simp)) (World.putObj_heap_same hlt)
  have hbl:(Code.region rb bops false).wpIn (Fence.wide.inRound l) 0 P (Exit.inBlock ib (roundPost P l fun e w'=>∃ v L',e = .returned v∧(v = .bool true∧∃ L5,R1 L5∧L'=(l,.loop rec)::L5)∧Hp w (blks ((l,.loop rec)::Li)) L' w')) a1 (w1.putObj l (.loop { rec with state:=.busy })):=by
    refine Go.wpIn_mono (wpIn_region_list (hbody.run _ _ m2 h4)) ?_
    rintro e a5 w5 ⟨rfl,σ4,L4,m4,h5,L5,hk5,hR5⟩
    have h6:=h5.keep hk5
    have hl5:=h6.get l _ List.mem_cons_self
    have hlt5:l < w5.heap.size:=(Array.getElem?_eq_some_iff.1 hl5).1
    refine ⟨_,_,run_endRound none hl5,.bool true,(l,.loop rec)::L5,rfl,⟨rfl,L5,hR5,rfl⟩,?_⟩
    have he:({ { rec with state:=LoopState.busy } with state:=if (none:Option Code).isNone then .ready else .done,pending:=none }:Loop)=rec:=by
      cases rec;simp only at hst hpe;subst hst;subst hpe;rfl
    rw [he]
    exact h6.upd .head (Chg.setObj w5 _ (by simp)) (World.putObj_heap_same hlt5)
  exact wpIn_block hbl

def shift (ds:List Deferred) (a:Act):Act:={ a with defers:=a.defers++ds }
theorem shift_eval (ds:List Deferred) (a:Act):(shift ds a).eval=a.eval:=by
  funext x;cases x<;>rfl
theorem shift_put (ds:List Deferred) (a:Act) (d:Option Tmp) (v:Value):(shift ds a).put d v=shift ds (a.put d v):=by cases d<;>rfl
def shQ (ds:List Deferred) (Q:Exit→Act→World→Prop):Exit→Act→World→Prop:=fun e a' w'=>∃ a'',a'=shift ds a'' ∧ Q e a'' w'
theorem Oper.wp_shift {P:Program} {ds:List Deferred} {o:Oper} {a:Act} {w:World} {next next':Act→World→Prop} {Q:Exit→Act→World→Prop} (hn:∀ a w,next a w→next' (shift ds a) w) (h:o.wp P a w next Q):o.wp P (shift ds a) w next' (shQ ds Q):=by
  unfold Oper.wp at h ⊢
  rw [shift_eval]
  generalize (execOp a.eval o).run P w=r at *
  cases r with
  | ok m w' =>
    cases m with
    | value v=>rw [Oper.upon_value] at h ⊢;rw [shift_put];exact hn _ _ h
    | skip=>rw [Oper.upon_skip] at h ⊢;rw [shift_put];exact hn _ _ h
    | defer d =>
      rw [Oper.upon_defer] at h ⊢
      have:=hn _ _ h
      rw [← shift_put] at this
      exact this
    | enter f args =>
      rw [Oper.upon_enter] at h ⊢
      refine Calls.mono h fun e w'' he=>?_
      cases e with
      | returned v=>simp only at he ⊢;rw [shift_put];exact hn _ _ he
      | panicked c=>exact ⟨a,rfl,he⟩
      | outgrown=>obtain ⟨a1,w1,h1⟩:=he;exact ⟨shift ds a1,w1,a1,rfl,h1⟩
    | row f args =>
      refine Rows.mono (h:Rows P f args w' _) fun v w'' he=>?_
      rw [shift_put];exact hn _ _ he
    | _=>exact h.elim
  | halt x w'=>cases x<;>first|exact ⟨a,rfl,h⟩|exact h.elim
theorem wpList_shift {P:Program} {ds:List Deferred} {all:Array Oper} {Q:Exit→Act→World→Prop}:∀ (l:List Oper) (a:Act) (w:World),wpList P all Q l a w→wpList P all (shQ ds Q) l (shift ds a) w
  | [],a,w,h=>⟨a,rfl,h⟩
  | o :: r,a,w,h=>by
    unfold wpList at h ⊢
    have ht:(shift ds a).tmps=a.tmps:=rfl
    rw [ht]
    by_cases hw:Region.wanted o (yielded all a.tmps)=true
    · rw [if_pos hw] at h ⊢
      rcases h with h|⟨h1,a1,w1,h2⟩
      · exact .inl (Oper.wp_shift (fun a w h=>wpList_shift r a w h) h)
      · refine .inr ⟨?_,shift ds a1,w1,a1,rfl,h2⟩
        unfold Oper.asks at h1 ⊢
        rw [shift_eval];exact h1
    · rw [if_neg hw] at h ⊢
      rw [shift_put];exact wpList_shift r _ _ h
structure TD (X:Cx) (ds:List Deferred) (c:Code) (Q:Post) (σ:Env) (L:Lst):Prop where
  run:∀ a w,Mod X.n a σ→Hp X.w0 X.S L w→c.wp X.P (shQ ds (X.lift Q)) (shift ds a) w
section
variable {X:Cx} {ds:List Deferred} {x y:Code} {Q:Post} {σ:Env} {L:Lst}
theorem TD.region {id:Nat} {ops:Array Oper} (h:R X ops ops.toList (Q .normal) σ L):TD X ds (.region id ops false) Q σ L :=
  ⟨fun a w ha hw=>wp_mono (wp_region_list (wpList_shift _ _ _ (h.run a w ha hw))) fun e a w ⟨a2,h1,he,σ,L,h2,h3,h4⟩=>⟨a2,h1,σ,L,h2,h3,he ▸ h4⟩⟩
theorem TD.seq (h:TD X ds x (thenQ (fun σ L=>TD X ds y Q σ L) Q) σ L):TD X ds (.seq x y) Q σ L :=
  ⟨fun a w ha hw=>wp_seq (wp_mono (h.run a w ha hw) fun e a w ⟨a2,h1,σ,L,h2,h3,h4⟩=>by
    subst h1
    cases e with
    | normal=>exact h4.run a2 w h2 h3
    | _=>exact ⟨a2,rfl,σ,L,h2,h3,h4⟩)⟩
theorem TD.ret (h:Q .ret σ L):TD X ds .ret Q σ L:=⟨fun a w ha hw=>wp_ret ⟨a,rfl,σ,L,ha,hw,h⟩⟩
end
/-- The judgement over a function that holds a range over a function,up to the loop. -/
structure TF (X:Cx) (fn:Func) (Rr:Ending→World→Prop) (c:Code) (σ:Env) (L:Lst):Prop where
  run:∀ a w,Mod X.n a σ→Hp X.w0 X.S L w→c.wp X.P (bodyPostM Fence.wide 0 X.P fn Rr) a w
def noQ (K:Env→Lst→Prop):Post:=fun e σ L=>match e with | .normal=>K σ L|_=>False
theorem TF.seq {X:Cx} {fn:Func} {Rr:Ending→World→Prop} {x y:Code} {σ:Env} {L:Lst} (h:T X x (noQ fun σ L=>TF X fn Rr y σ L) σ L):TF X fn Rr (.seq x y) σ L :=
  ⟨fun a w ha hw=>wp_seq (wp_mono (h.run a w ha hw) fun e a w ⟨σ,L,h2,h3,h4⟩=>by
    cases e with
    | normal=>exact h4.run a w h2 h3
    | _=>exact h4.elim)⟩
/-- The loop's record as the rounds find it. -/
structure RecOk (n:Nat) (σ:Env) (p:Nat) (assign body:Code) (rec:Loop):Prop where
  mod:Mod n { tmps:=rec.tmps,defers:=[] } σ
  params:rec.params = #[p]
  assign:rec.assign=assign
  body:rec.body=body
  state:rec.state = .ready
  pending:rec.pending=none
/-- Where the loop begins: what the iterator is handed (La),what its call leaves (J),and the rest of the function. -/
structure RG (X:Cx) (gf:Nat) (k p:Nat) (assign body rest:Code) (Rp:Value→Lst→Prop) (g:Operand) (σ:Env) (L:Lst):Prop where
  ex:∃ (lb:List Value) (La Lr:Lst) (J:Lst→Prop),Keep L (La++Lr)∧ev σ g=some (.func (.func gf) #[] lb.toArray) ∧
    (∀ l rec w,RecOk X.n σ p assign body rec→(∃ L2,Hp X.w0 X.S (((l,.loop rec)::La)++L2) w)→CallM X.P gf (.func (.yield l) #[] #[]::lb) ((l,.loop rec)::La) w fun v L'=>∃ Lb,J Lb∧L'=(l,.loop rec)::Lb) ∧
    (∀ D Lb,J Lb→TD X [{ target:=.collected D,args:=#[] }] rest (fun e σ' L'=>e = .ret∧∃ v L3,look σ' k=some v∧Keep L' ((D,.deferred (some []))::L3)∧Rp v L3) σ ((D,.deferred (some []))::(Lb++Lr)))
theorem TF.range {X:Cx} {fn:Func} {Rp:Value→Lst→Prop} {x rest assign body:Code} {id p k gf:Nat} {g:Operand} {σ:Env} {L:Lst} (hfn:fn.results = #[.tmp k]) (he:X.tb.fns.contains gf=true)
    (h:T X x (noQ fun σ L=>RG X gf k p assign body rest Rp g σ L) σ L) :
    TF X fn (fun e w'=>∃ v L',e = .returned v∧Rp v L' ∧ Hp X.w0 X.S L' w') (.seq (.seq x (.block id (.rangeFunc g #[p] assign body))) rest) σ L:=by
  refine ⟨fun a w ha hw=>wp_seq (wp_seq (wp_mono (h.run a w ha hw) ?_))⟩
  rintro e a w ⟨σ1,L1,m1,h1,q⟩
  cases e with
  | normal =>
    obtain ⟨lb,La,Lr,J,hk,hg,hc,hr⟩:=q.ex
    refine wp_block (wpIn_wide.1 (wpIn_rangeFunc (F:=Fence.wide) (n:=0) fun fnn _=>?_))
    obtain ⟨rec,hrec⟩:∃ rec:Loop,rec={ state:=.ready,pending:=none,fn:=fnn,tmps:=a.tmps,params:=#[p],assign,body,defers:=w.heap.size }:=⟨_,rfl⟩
    have hp1:=h1.keep hk
    have hp2:=hp1.alloc (.deferred (some []))
    have hp3:=hp2.alloc (.loop rec)
    rw [World.size_alloc] at hp3
    have hok:RecOk X.n σ1 p assign body rec:=by
      subst hrec
      exact ⟨⟨m1.size,rfl,m1.ok⟩,rfl,rfl,rfl,rfl,rfl⟩
    have hperm:(((w.heap.size+1,Obj.loop rec)::La)++((w.heap.size,Obj.deferred (some []))::Lr)).Perm ((w.heap.size+1,Obj.loop rec)::(w.heap.size,Obj.deferred (some []))::(La++Lr)):=by
      rw [List.cons_append]
      exact (List.perm_middle).cons _
    have hp4:=hp3.perm hperm
    generalize hW:(w.alloc (.deferred (some []))).alloc (.loop rec)=W1 at *
    refine ⟨w.heap.size+1,[{ target:=.collected w.heap.size,args:=#[] }],W1,{ target:=.fn (.func gf) lb.toArray,args:=#[.func (.yield (w.heap.size+1)) #[] #[]] },W1,gf,
      (.func (.yield (w.heap.size+1)) #[] #[]::lb).toArray,W1,?_,?_,fun _ _=>trivial,?_,fun e=>(by cases e),?_⟩
    · rw [← hW,hrec];exact run_enterLoop_outer _ _ _ _ _
    · simp only [resolve,m1.ev hg]
      simp [go_sem]
    · have h9:=X.tb.ent he (.func (.yield (w.heap.size+1)) #[] #[]::lb).toArray W1
      simp only [invoke]
      simpa using h9
    · have hin:Hp W1 (blks ((w.heap.size+1,Obj.loop rec)::La)) ((w.heap.size+1,Obj.loop rec)::La) W1:=⟨.refl _ _,fun b o hm=>hp4.get b o (List.mem_append_left _ hm),(List.nodup_append.1 (by have:=hp4.nod;rwa [List.map_append] at this)).1,fun b o hm=>.inr (List.mem_map.2 ⟨(b,o),hm,rfl⟩)⟩
      refine callsIn_wide.2 (Calls.mono ((hc (w.heap.size+1) rec W1 hok ⟨_,hp4⟩).run hin) ?_)
      rintro e w3 ⟨v,L',rfl,⟨Lb,hJ,rfl⟩,h3⟩
      have hp5:=hp4.callM h3
      have hl5:=hp5.get (w.heap.size+1) _ List.mem_cons_self
      have hlt5:w.heap.size+1 < w3.heap.size:=(Array.getElem?_eq_some_iff.1 hl5).1
      refine ⟨none,w3.putObj (w.heap.size+1) (.loop { rec with state:=.exhausted }),by rw [run_endLoop hl5 (by rw [hok.state];simp),hok.pending],?_⟩
      have hp6:Hp X.w0 X.S ((w.heap.size+1,Obj.loop { rec with state:=.exhausted })::(Lb++((w.heap.size,Obj.deferred (some []))::Lr))) (w3.putObj (w.heap.size+1) (.loop { rec with state:=.exhausted })):=hp5.upd .head (Chg.setObj w3 _ (by simp)) (World.putObj_heap_same hlt5)
      have hp7:=(hp6.sub (List.sublist_cons_self _ _)).perm (List.perm_middle.symm)
      have hrun:=(hr w.heap.size Lb hJ).run a _ m1 hp7
      have hsh:shift [{ target:=.collected w.heap.size,args:=#[] }] a={ a with defers:=[{ target:=.collected w.heap.size,args:=#[] }]++a.defers }:=by
        unfold shift;rw [m1.defers];rfl
      rw [hsh] at hrun
      refine wp_mono hrun ?_
      rintro e a9 w9 ⟨a10,rfl,σ9,L9,m9,h9,rfl,v9,L10,hv9,hk9,hR9⟩
      have h10:=h9.keep hk9
      have hD:=h10.get w.heap.size _ List.mem_cons_self
      have hltD:w.heap.size < w9.heap.size:=(Array.getElem?_eq_some_iff.1 hD).1
      have h11:Hp X.w0 X.S ((w.heap.size,Obj.deferred none)::L10) (w9.putObj w.heap.size (.deferred none)):=h10.upd .head (Chg.setObj w9 _ (by simp)) (World.putObj_heap_same hltD)
      have hde:(shift [{ target:=.collected w.heap.size,args:=#[] }] a10).defers=[{ target:=.collected w.heap.size,args:=#[] }]:=by
        unfold shift;simp [m9.defers]
      show LeavesInM Fence.wide 0 X.P fn _ _ _ .returning w9
      rw [hde]
      refine ⟨by simp,.inl ⟨w.heap.size,_,rfl,run_takeDeferred hD,v9,?_,v9,L10,rfl,hR9,h11.sub (List.sublist_cons_self _ _)⟩⟩
      rw [results_tmp hfn]
      have:=m9.ok k v9 hv9
      show Result.ok ((shift _ a10).tmps.getD k undef) _=_
      rw [show (shift [{ target:=Target.collected w.heap.size,args:=#[] }] a10).tmps=a10.tmps from rfl,this]
  | _=>exact q.elim
theorem number_mod {fn:Func} {n:Nat} {vs:List Value} (hn:fn.ntmps=n) (hvn:vs.length≤n):Mod n { tmps:=vs.toArray++Array.replicate (fn.ntmps - vs.toArray.size) undef,defers:=[] } (number 0 vs):=by
  refine ⟨by simp [hn];omega,rfl,fun t v hv=>?_⟩
  obtain ⟨_,h2⟩:=number_look hv
  rw [Nat.sub_zero] at h2
  obtain ⟨hl,he⟩:=List.getElem?_eq_some_iff.1 h2
  have h3:(vs.toArray++Array.replicate (fn.ntmps - vs.toArray.size) undef)[t]? = some v:=by
    rw [Array.getElem?_append,if_pos (by simpa using hl)];simpa using h2
  simp only [Array.getD]
  obtain ⟨h4,h5⟩:=Array.getElem?_eq_some_iff.1 h3
  rw [dif_pos h4];exact h5
theorem enterF {P:Program} (tb:Tb P) {f:FuncId} {fn:Func} {c:Code} {vs:List Value} {n:Nat} {R1:Value→Lst→Prop} {w:World} {L:Lst}
    (hf:P.funcs[f]? = some fn) (hb:fn.body=some c) (hn:fn.ntmps=n) (hvn:Nat.ble vs.length n=true)
    (h:TF ⟨P,tb,n,w,blks L⟩ fn (fun e w'=>∃ v L',e = .returned v∧R1 v L' ∧ Hp w (blks L) L' w') c (number 0 vs) L):CallM P f vs L w R1:=by
  refine ⟨fun hw=>callsIn_wide.1 (callsIn_of_wp_marks (F:=Fence.wide) (n:=0) hf hb trivial (wpIn_wide.2 (h.run _ w ?_ hw)))⟩
  exact number_mod hn (Nat.le_of_ble_eq_true hvn)
section
variable {X:Cx} {ro:Option Nat} {x y c:Code} {Q:Post} {σ:Env} {L:Lst} {id:Nat} {ops:Array Oper}
end
theorem CallM.wk {P:Program} {f:FuncId} {vs:List Value} {L:Lst} {w:World} {R R':Value→Lst→Prop} (h:CallM P f vs L w R) (hr:∀ v L,R v L→R' v L):CallM P f vs L w R' :=
  ⟨fun hw=>(h.run hw).mono fun e w' ⟨v,L',h1,h2,h3⟩=>⟨v,L',h1,hr _ _ h2,h3⟩⟩
end Go.Proofs.YtcfdgnajepilbaaGreat
set_option linter.unusedSimpArgs false
set_option linter.unusedVariables false
set_option linter.unusedSectionVars false
namespace Go.Proofs.YtcfdgnajepilbaaGreat
open Go.RowKit Go.Shelf Go.ChangeShapes Go.WideShapes Go.Deep
/-- A cell of this kind,within its range. -/
def cellW:TK→Value→Prop
  | .int k,.int k' n=>k'=k∧k.min≤n∧n≤k.max
  | .bool,.bool _=>True
  | .string,.string s=>s.size≤maxLen
  | _,_=>False
def allW:List TK→List Value→Prop
  | [],[]=>True
  | k::ks,v::vs=>cellW k v∧allW ks vs
  | _,_=>False
theorem allW_append:∀ {ks ls:List TK} {vs:List Value},allW ks (vs.take ks.length)→allW ls (vs.drop ks.length)→allW (ks++ls) vs
  | [],ls,vs,_,h=>by simpa using h
  | k::ks,ls,[],h,_=>by simp [allW] at h
  | k::ks,ls,v::vs,h,h2=>by
    simp only [List.length_cons,List.take_succ_cons,List.drop_succ_cons,allW] at h h2
    exact ⟨h.1,allW_append h.2 h2⟩

section
variable {H:Type} {enc:TypeId × Value→H} {P:Program} {w:World} {base:Nat} {spare:Nat→Bool} {held:Bool}
theorem cells_of (w:World) {t sz:Nat} (h:∀ w,(Go.sizeOf t).run P w = .ok sz w):P.cellsOf t=sz:=by
  have:=h w
  simp only [Go.sizeOf,typeInfo,Sem.run_bind,Sem.run_pure] at this
  unfold Program.cellsOf
  cases hi:P.info? t with
  | none=>simp [hi] at this
  | some i=>simp [hi] at this;simp [this]
theorem trodFs {g:Nat→Option (List TK)} {n:Nat} {cs:List Value} (hg:∀ t ks us x,g t=some ks→P.cellsOf t=ks.length→DataW.trod enc P w base spare held n t us=some x→allW ks us) :
    ∀ (fields:List Field) (fs:List (Nat × Nat × Nat)) (k:Nat) (ks:List TK),Flds P fields fs→flatFs g fs k=some ks→cs.length=k+ks.length→(∀ f∈fields,∃ x,DataW.trod enc P w base spare held n f.type ((cs.drop f.offset).take (P.cellsOf f.type))=some x)→allW ks (cs.drop k)
  | [],[],k,ks,_,h,hl,_=>by
    simp only [flatFs,Option.some.injEq] at h
    subst h
    rw [List.drop_eq_nil_of_le (by simp at hl;omega)]
    trivial
  | [],_::_,_,_,h,_,_,_=>h.elim
  | _::_,[],_,_,h,_,_,_=>h.elim
  | f :: fields,(t,off,sz)::fs,k,ks,hF,h,hl,hx=>by
    obtain ⟨e1,e2,e3,e4,e5⟩:=hF
    simp only [flatFs] at h
    split at h
    · cases h
    · rename_i hb
      have hb':=Nat.eq_of_beq_eq_true hb
      split at h
      · cases h
      · rename_i k1 hk1
        split at h
        · cases h
        · rename_i hl1
          have hl1':=Nat.eq_of_beq_eq_true hl1
          split at h
          · cases h
          · rename_i k2 hk2
            cases h
            obtain ⟨x,hx1⟩:=hx f List.mem_cons_self
            have hsz:=cells_of w e3
            rw [e1,e2,hsz,hb'] at hx1
            have h1:=hg t k1 _ x hk1 (by rw [hsz,hl1']) hx1
            have h2:=trodFs hg fields fs (k+sz) k2 e5 hk2 (by rw [hl,List.length_append,hl1'];omega) fun f' hf'=>hx f' (List.mem_cons_of_mem _ hf')
            refine allW_append (by rw [hl1'];exact h1) ?_
            rw [List.drop_drop,hl1'];exact h2
theorem allW_rep {k1:List TK}:∀ (m:Nat) (cs:List Value),cs.length=m * k1.length→(∀ i,i < m→allW k1 ((cs.drop (i * k1.length)).take k1.length))→allW (repK k1 m) cs
  | 0,cs,hl,_=>by
    have:cs=[]:=by cases cs;rfl;simp at hl
    subst this;trivial
  | m+1,cs,hl,h=>by
    have h0:=h 0 (by omega)
    simp only [Nat.zero_mul,List.drop_zero] at h0
    rw [Nat.add_mul] at hl
    refine allW_append h0 (allW_rep m _ (by rw [List.length_drop,hl];omega) fun i hi=>?_)
    have:=h (i+1) (by omega)
    rwa [List.drop_drop,show k1.length+i * k1.length=(i+1) * k1.length by rw [Nat.add_mul];omega]
theorem trod_flat (tb:Tb P):∀ (n t:Nat) (ks:List TK),flatE tb n t=some ks→P.cellsOf t=ks.length→∀ fuel cs x,DataW.trod enc P w base spare held fuel t cs=some x→allW ks cs
  | 0,_,_,h,_,_,_,_,_=>by cases h
  | n + 1, t, ks,h,hlen,fuel,cs,x,hx=>by
    simp only [flatE] at h
    split at h
    · cases h
    · rename_i r hr
      have hgd:=tb.get hr
      have his:=hgd.is
      split at h
      · rename_i k hk
        rw [hk] at his
        cases h
        obtain ⟨m,rfl,_,hwf⟩:=DataW.trod_int his hx
        simp only [Lit.wf,Bool.and_eq_true,decide_eq_true_eq] at hwf
        exact ⟨⟨rfl,hwf⟩,trivial⟩
      · rename_i hk
        rw [hk] at his
        cases h
        obtain ⟨b,rfl,_⟩:=DataW.trod_bool his hx
        exact ⟨trivial,trivial⟩
      · rename_i hk
        rw [hk] at his
        cases h
        obtain ⟨s,rfl,_,hs⟩:=DataW.trod_string his hx
        exact ⟨hs,trivial⟩
      · rename_i fs hk
        rw [hk] at his
        obtain ⟨fields,h1,h2⟩:=his
        obtain ⟨xs,m,rfl,_,hcl,hxl,hf⟩:=DataW.trod_struct h1 hx
        have:=trodFs (cs:=cs) (n:=m) (fun t ks us x hg hc ht=>trod_flat tb n t ks hg hc m us x ht) fields.toList fs 0 ks h2 h (by rw [hcl,hlen];omega) fun f hf'=>by
          obtain ⟨i,hi,he⟩:=List.getElem_of_mem hf'
          have h3:fields[i]? = some f:=by rw [← he];simp at hi;simp [hi]
          have h4:=hf i f h3
          simp at hi
          rw [List.getElem?_eq_getElem (by omega)] at h4
          exact ⟨_,h4⟩
        simpa using this
      · rename_i mm e hk
        rw [hk] at his
        split at h
        · cases h
        · rename_i re hre
          split at h
          · cases h
          · rename_i k1 hk1
            split at h
            · cases h
            · rename_i hl1
              have hl1':=Nat.eq_of_beq_eq_true hl1
              cases h
              obtain ⟨xs,m,rfl,_,hcl,hxl,hf⟩:=DataW.trod_array his hx
              have hce:P.cellsOf e=k1.length:=by rw [cells_of w (tb.get hre).size,hl1']
              refine allW_rep mm cs (by rw [hcl,hlen,repK_len]) fun i hi=>?_
              have h4:=hf i hi
              rw [hce,List.getElem?_eq_getElem (by omega)] at h4
              exact trod_flat tb n e k1 hk1 hce m _ _ h4
      · cases h

/-- A slice of plain rows that came in. -/
theorem open_rows {α:Type} [Inhabited α] (f:α→List Value) (tb:Tb P) {t e:TypeId} {r re:TRow} {ks:List TK} {v:Value} {d:DataW H} {p:List MemPlace} (ht:tb.row t=some r) (hk:r.k = .slice e) (he:tb.row e=some re) (hf:flatE tb 8 e=some ks) (hl:Nat.beq ks.length re.size=true) (hpos:Nat.ble 1 ks.length=true)
    (hlen:∀ a,(f a).length=ks.length) (dec:∀ cs,allW ks cs→∃ a,f a=cs)
    {rc:Reach} {b0:Nat} (hv:Value.okWide P w rc b0 t v) (h:DataW.Trod enc P w base spare held t v d p) :
    ∃ (a:Option Addr) (rs:List α) (cap:Nat),v = .slice a rs.length cap∧RdSl w a f rs∧rs.length≤cap∧cap≤maxLen∧(∀ x∈rs,allW ks (f x))∧(a=none→cap=0):=by
  have hu:P.underlying t=some (.slice e):=by have:=(tb.get ht).is;rw [hk] at this;exact this
  obtain ⟨a0,len0,cap0,rfl⟩:=okWide_slice hu hv
  obtain ⟨fuel,hfu⟩:=h
  have hce:P.cellsOf e=ks.length:=by rw [cells_of w (tb.get he).size,Nat.eq_of_beq_eq_true hl]
  rcases open_slice hu hfu with ⟨h0,_⟩|⟨a,len,cap,m,n,D,Pl,hcs,hb,hlc,hm,hmm,hx,hi⟩
  · have:a0=none∧len0=0∧cap0=0:=by simpa [Value.cells] using h0
    obtain ⟨rfl,rfl,rfl⟩:=this
    exact ⟨none,[],0,rfl,.inl rfl,by simp,by simp,by simp,fun _=>rfl⟩
  · have:a0=some a∧len0=len∧cap0=cap:=by simpa [Value.cells] using hcs
    obtain ⟨rfl,rfl,rfl⟩:=this
    have hle:len0≤m:=by rw [hmm];split<;>omega
    obtain ⟨R,hR⟩:=choose_lt (α:=α) (p:=fun i x=>w.cells? base (a.add (i * P.cellsOf e)) (P.cellsOf e)=some (f x)∧allW ks (f x)) (n:=len0) (fun i hi'=>by
      obtain ⟨cs',h1,h2⟩:=hi i (by omega)
      have h3:=trod_flat tb 8 e ks hf hce _ _ _ h2
      obtain ⟨x,hx⟩:=dec cs' h3
      exact ⟨x,by rw [hx];exact h1,by rw [hx];exact h3⟩)
    have hrl:((List.range len0).map R).length=len0:=by simp
    refine ⟨some a,(List.range len0).map R,cap0,by rw [hrl],?_,by rw [hrl];exact hlc,hm,?_,fun h=>by cases h⟩
    · by_cases hz:len0=0
      · left;simp [hz]
      · right
        have hpos':=Nat.le_of_ble_eq_true hpos
        have hspot:a.spot=none:=by
          obtain ⟨_,h2,h3⟩:=World.cells?_some (hR 0 (by omega)).1
          have h4:=h3 0 (by omega)
          rw [List.getElem?_eq_getElem (by omega)] at h4
          unfold World.cell? at h4
          cases a with|mk b o s =>
          cases s with
          | none=>rfl
          | some s => 
            simp only [Addr.add] at h4
            split at h4
            · simp at h4
            · cases h4
        cases a with|mk b o s =>
        simp only at hspot
        subst hspot
        refine ⟨b,o,rfl,fun k hk'=>?_⟩
        rw [fl_len hlen,hrl] at hk'
        have hdm:=Nat.div_add_mod k ks.length
        have hml:=Nat.mod_lt k (show 0 < ks.length by omega)
        have hil:k / ks.length < len0:=by rw [Nat.div_lt_iff_lt_mul (by omega)];exact hk'
        have hgi:((List.range len0).map R)[k / ks.length]? = some (R (k / ks.length)):=by simp [hil]
        have h5:=fl_get hlen hgi hml
        rw [show k / ks.length * ks.length+k % ks.length=k by rw [Nat.mul_comm];exact hdm] at h5
        rw [h5]
        obtain ⟨_,h2,h3⟩:=World.cells?_some (hR _ hil).1
        have h4:=h3 (k % ks.length) (by rw [hce];exact hml)
        rw [Addr.add_none,Addr.add_none,hce] at h4
        rw [← h4,show o+k / ks.length * ks.length+k % ks.length=o+k by rw [Nat.add_assoc,show k / ks.length * ks.length+k % ks.length=k by rw [Nat.mul_comm];exact hdm]]
    · intro x hx'
      obtain ⟨i,hi',rfl⟩:=List.mem_map.1 hx'
      exact (hR i (List.mem_range.1 hi')).2

/-- The arguments read behind the call as before: nothing that was there has changed. -/
theorem trodAll_stays {W W':World} (hl:laidOutB P=true) (hb:Below W.heap.size W W') {sp:Nat→Bool}:∀ {ts:List TypeId} {vs:List Value} {ds:List (DataW H)} {ps:List MemPlace},(∀ t∈ts,P.readableRec t=true∧t < P.types.size) →
    DataW.TrodAll enc P W 0 (fun _=>true) true ts vs ds ps→(∀ p∈ps,p.block < W.heap.size∧sp p.block=true)→DataW.TrodAll enc P W' 0 sp true ts vs ds ps
  | [],vs,ds,ps,_,h,_=>by
    obtain ⟨rfl,rfl,rfl⟩:=trodAll_nil h
    exact trodAll_mk0
  | t :: ts,vs,ds,ps,hr,h,hp=>by
    obtain ⟨v,vs',d,ds',p,q,rfl,rfl,rfl,h1,h2⟩:=trodAll_cons h
    have g:=hr t List.mem_cons_self
    exact ⟨p,q,WideElems.Trod_stays hl g.1 g.2 h1 (fun x hx=>hb.same (hp x (List.mem_append_left _ hx)).1) (fun x hx=>(hp x (List.mem_append_left _ hx)).2),
      trodAll_stays hl hb (fun t' ht'=>hr t' (List.mem_cons_of_mem _ ht')) h2 (fun x hx=>hp x (List.mem_append_right _ hx)),rfl⟩
/-- A statement's last step: it returned true,and nothing that was there has changed. -/
theorem law_post {f:Func} {s:ChangeSpec} {apart fresh handsOn again:Bool} {W W':World} {args:Array Value} {ds gs:List (DataW H)} {before:List MemPlace} {tt:TypeId}
    (hW:DataW.Whole enc P f.params.toList s.vars apart W args.toList ds gs before) (hv:s.vars=[]) (hfn:s.fn H ds={ results:=[.lit (.bool true)],args:=ds,vars:=[] })
    (hrt:f.resultTypes = #[tt]) (htt:P.underlying tt=some .bool) (hl:laidOutB P=true) (hread:∀ t∈f.params.toList,P.readableRec t=true∧t < P.types.size) (hb:Below W.heap.size W W') :
    s.post enc P f apart fresh handsOn again W args (.bool true) W':=by
  have hlt:∀ p∈before,p.block < W.heap.size:=fun p hp=>hW.lt p hp
  obtain ⟨p,q,hA,hV,rfl,hz,hn⟩:=hW
  have hV':=hV
  rw [hv] at hV'
  obtain ⟨rfl,rfl⟩:=trodVars_none hV'
  rw [List.append_nil] at hlt hz hn
  have key:∀ sp:Nat→Bool,(∀ x∈p,sp x.block=true)→DataW.TrodAll enc P W' 0 sp true f.params.toList args.toList ds p:=fun sp hs=>trodAll_stays hl hb hread hA fun x hx=>⟨hlt x hx,hs x hx⟩
  have hres:∀ (b:Nat) (sp:Nat→Bool) (hd:Bool),DataW.TrodAll enc P W' b sp hd f.resultTypes.toList ((Value.bool true).resultList f.resultTypes.size) [.lit (.bool true)] []:=fun b sp hd=>by
    rw [hrt];exact trodAll_mk1 (shut_bool htt true)
  refine ⟨ds,[],p,[],p,[],⟨p,[],hA,hV,by simp,hz,hn⟩,?_,?_,?_,World.keptBut_mono (fun x hx=>⟨hx,.inr (.inl hx)⟩) (hb.frame (· ∈ p)),fun _=>⟨?_,?_⟩⟩
  · rw [List.append_nil,hfn];exact hres _ _ _
  · rw [List.append_nil,hfn];exact key _ fun x hx=>by simpa using hlt x hx
  · rw [List.append_nil,hfn,hv];rfl
  · exact ok_one hrt rfl (okWide_bool_mk htt true)
  · refine ⟨.lit (.bool true)::ds,[],p,⟨p,[],?_,by rw [hv];rfl,by simp,?_,hn⟩,fun x hx _=>hx⟩
    · rw [hrt]
      exact ⟨[],p,shut_bool htt true,key _ fun _ _=>rfl,rfl⟩
    · intro b off hx
      rw [hb.frozen (hlt _ hx)]
      exact hz b off hx
end
end Go.Proofs.YtcfdgnajepilbaaGreat
set_option linter.unusedSimpArgs false
set_option linter.unusedVariables false
namespace Go.Proofs.YtcfdgnajepilbaaGreat
open Go.ChangeShapes Go.WideShapes Go.ChangeAt Go.RowKit
theorem open_flat {α:Type} {P:Program} {H:Type} {enc:TypeId × Value→H} {w:World} {base:Nat} {spare:Nat→Bool} {held:Bool} (f:α→List Value) (tb:Tb P) {t:TypeId} {r:TRow} {fs:List (Nat × Nat × Nat)} {ks:List TK} {v:Value} {d:DataW H} {p:List MemPlace} (ht:tb.row t=some r) (hk:r.k = .strct fs) (hf:flatE tb 8 t=some ks) (hl:Nat.beq ks.length r.size=true)
    (dec:∀ cs,allW ks cs→∃ a,f a=cs) {rc:Reach} {b0:Nat} (hv:Value.okWide P w rc b0 t v) (h:DataW.Trod enc P w base spare held t v d p):∃ a,v = .agg ⟨f a⟩∧allW ks (f a):=by
  have his:=(tb.get ht).is
  rw [hk] at his
  obtain ⟨fields,h1,_⟩:=his
  obtain ⟨cs,rfl,_⟩:=okWide_struct h1 hv
  obtain ⟨fuel,hfu⟩:=h
  have hce:P.cellsOf t=ks.length:=by rw [cells_of w (tb.get ht).size,Nat.eq_of_beq_eq_true hl]
  have h3:=trod_flat tb 8 t ks hf hce _ _ _ hfu
  obtain ⟨a,ha⟩:=dec _ h3
  refine ⟨a,?_,by rw [ha];exact h3⟩
  rw [ha]
  cases cs
  rfl

set_option linter.unusedSectionVars false
open Go.Shelf Go.Deep
section
variable {H:Type} {enc:TypeId × Value→H} {P:Program} {w:World} {base:Nat} {spare:Nat→Bool} {held:Bool}
end
section
variable {H:Type} {enc:TypeId × Value→H} {P:Program} {w:World} {base:Nat} {spare:Nat→Bool} {held:Bool}
end
end Go.Proofs.YtcfdgnajepilbaaGreat
set_option linter.unusedSimpArgs false
set_option linter.unusedVariables false
namespace Go.Proofs.YtcfdgnajepilbaaGreat
open Go.RowKit Go.Shelf
def andI (k:IntKind) (x y:Int):Int:=k.wrap (BitVec.ofInt k.bits x &&& BitVec.ofInt k.bits y).toNat
def orI (k:IntKind) (x y:Int):Int:=k.wrap (BitVec.ofInt k.bits x ||| BitVec.ofInt k.bits y).toNat
def xorI (k:IntKind) (x y:Int):Int:=k.wrap (BitVec.ofInt k.bits x ^^^ BitVec.ofInt k.bits y).toNat
section
variable {X:Cx} {σ:Env} {L:Lst} {d:Option Nat} {ty ty2 t:TypeId} {pos:String} {af:Array Edge} {g:Option (Nat × Bool)} {x y:Operand} {i j:Int} {k:IntKind}
theorem Ok1.andK (hx:ev σ x=some (.int k i)) (hy:ev σ y=some (.int k j)):Ok1 X ⟨d,.binOp .and t x y ty2,ty,pos,af,g⟩ σ L (.int k (andI k i j)):=.mk fun a w ha hw=>by
  simp [execOp,ha.ev hx,ha.ev hy,eqGuard,binOp,Op.intBits,andI]
theorem Ok1.orK (hx:ev σ x=some (.int k i)) (hy:ev σ y=some (.int k j)):Ok1 X ⟨d,.binOp .or t x y ty2,ty,pos,af,g⟩ σ L (.int k (orI k i j)):=.mk fun a w ha hw=>by
  simp [execOp,ha.ev hx,ha.ev hy,eqGuard,binOp,Op.intBits,orI]
theorem Ok1.xorK (hx:ev σ x=some (.int k i)) (hy:ev σ y=some (.int k j)):Ok1 X ⟨d,.binOp .xor t x y ty2,ty,pos,af,g⟩ σ L (.int k (xorI k i j)):=.mk fun a w ha hw=>by
  simp [execOp,ha.ev hx,ha.ev hy,eqGuard,binOp,Op.intBits,xorI]
theorem Ok1.cplK (hx:ev σ x=some (.int k i)) (hs:k.signed=false):Ok1 X ⟨d,.unOp .xor t x,ty,pos,af,g⟩ σ L (.int k (xorI k k.max i)):=.mk fun a w ha hw=>by
  simp [execOp,ha.ev hx,Op.unary,Op.intBits,xorI,hs]
theorem Ok1.shl {k2:IntKind} {m:Int} (hx:ev σ x=some (.int k i)) (hy:ev σ y=some (.int k2 j)) (h:0≤j) (h2:j.toNat≤k.bits) (hm:pw j.toNat=m):Ok1 X ⟨d,.binOp .shl t x y ty2,ty,pos,af,g⟩ σ L (.int k (k.wrap (i * m))):=.mk fun a w ha hw=>by
  have:¬ j < 0:=by omega
  rw [← hm,pw_eq]
  simp [execOp,ha.ev hx,ha.ev hy,eqGuard,binOp,Op.shift,this,Nat.min_eq_left h2]
theorem Ok1.add32 (hx:ev σ x=some (.int .u32 i)) (hy:ev σ y=some (.int .u32 j)):Ok1 X ⟨d,.binOp .add t x y ty2,ty,pos,af,g⟩ σ L (.int .u32 (IntKind.u32.wrap (i+j))):=Ok1.add hx hy
theorem wrap_u64 {i:Int} (h1:0≤i) (h2:i≤18446744073709551615):IntKind.u64.wrap i=i:=IntWalk.u64_in i ⟨h1,h2⟩
theorem Ok1.mulU (hx:ev σ x=some (.int .u64 i)) (hy:ev σ y=some (.int .u64 j)) (h1:0≤i * j) (h2:i * j≤18446744073709551615):Ok1 X ⟨d,.binOp .mul t x y ty2,ty,pos,af,g⟩ σ L (.int .u64 (i * j)):=by
  have:=Ok1.mul (X:=X) (σ:=σ) (L:=L) (d:=d) (ty:=ty) (pos:=pos) (af:=af) (g:=g) (t:=t) (ty2:=ty2) hx hy
  rwa [wrap_u64 h1 h2] at this
theorem Ok1.andE {m:Int} (hx:ev σ x=some (.int k i)) (hy:ev σ y=some (.int k j)) (hm:andI k i j=m):Ok1 X ⟨d,.binOp .and t x y ty2,ty,pos,af,g⟩ σ L (.int k m):=hm ▸ Ok1.andK hx hy
theorem Ok1.subU (hx:ev σ x=some (.int .u64 i)) (hy:ev σ y=some (.int .u64 j)) (h1:0≤i - j) (h2:i - j≤18446744073709551615):Ok1 X ⟨d,.binOp .sub t x y ty2,ty,pos,af,g⟩ σ L (.int .u64 (i - j)):=by
  have:=Ok1.sub (X:=X) (σ:=σ) (L:=L) (d:=d) (ty:=ty) (pos:=pos) (af:=af) (g:=g) (t:=t) (ty2:=ty2) hx hy
  rwa [wrap_u64 h1 h2] at this
end
def wr (i:Int):Int:=IntKind.u32.wrap i
theorem wr_mod (i:Int):wr i=i % 4294967296:=by simp [wr,IntKind.wrap,IntKind.bits,IntKind.signed]
theorem wr_in {i:Int} (h1:0≤i) (h2:i≤4294967295):wr i=i:=by rw [wr_mod];omega
theorem wr_bv (v:BitVec 32):IntKind.u32.wrap (v.toNat:Int)=v.toNat:=by
  have:=v.isLt
  exact wr_in (i:=(v.toNat:Int)) (by omega) (by omega)
theorem orI_nat (a b:Int):orI .u32 a b=(BitVec.ofInt 32 a ||| BitVec.ofInt 32 b).toNat:=wr_bv (BitVec.ofInt 32 a ||| BitVec.ofInt 32 b)
def rotr (x p q:Int):Int:=orI .u32 (wr (x * q)) (x / p)
def turned (x p1 q1 p2 q2 p3 q3:Int):Int:=xorI .u32 (xorI .u32 (rotr x p1 q1) (rotr x p2 q2)) (rotr x p3 q3)
def chI (a b c:Int):Int:=xorI .u32 (andI .u32 a b) (andI .u32 (xorI .u32 4294967295 a) c)
def majI (a b c:Int):Int:=xorI .u32 (xorI .u32 (andI .u32 a b) (andI .u32 a c)) (andI .u32 b c)
/-- Four bytes,the highest first. -/
def wordI (a b c d:Int):Int:=a * 16777216+b * 65536+c * 256+d
theorem or_nat (a b:Nat) (i:Nat) (h:b < 2 ^ i) (h2:2 ^ i * a+b < 4294967296):(BitVec.ofNat 32 (2 ^ i * a) ||| BitVec.ofNat 32 b)=BitVec.ofNat 32 (2 ^ i * a+b):=by
  apply BitVec.eq_of_toNat_eq
  have h3:2 ^ i * a < 4294967296:=by omega
  have h4:b < 4294967296:=by
    have:0≤2 ^ i * a:=Nat.zero_le _
    omega
  rw [BitVec.toNat_or,BitVec.toNat_ofNat,BitVec.toNat_ofNat,BitVec.toNat_ofNat,Nat.mod_eq_of_lt h3,Nat.mod_eq_of_lt h4,Nat.mod_eq_of_lt h2,Nat.two_pow_add_eq_or_of_lt h]
theorem orI_add {x y:Int} (a b i:Nat) (hx:x=(2 ^ i * a:Nat)) (hy:y=b) (h:b < 2 ^ i) (h2:2 ^ i * a+b < 4294967296):orI .u32 x y=x+y:=by
  subst hx;subst hy
  rw [orI_nat,BitVec.ofInt_natCast,BitVec.ofInt_natCast,or_nat a b i h h2,BitVec.toNat_ofNat,Nat.mod_eq_of_lt h2]
  omega
theorem word_or {a b c d:Int} (ha:0≤a∧a≤255) (hb:0≤b∧b≤255) (hc:0≤c∧c≤255) (hd:0≤d∧d≤255):orI .u32 (orI .u32 (orI .u32 (wr (a * 16777216)) (wr (b * 65536))) (wr (c * 256))) d=wordI a b c d:=by
  rw [wr_in (i:=a * 16777216) (by omega) (by omega),wr_in (i:=b * 65536) (by omega) (by omega),wr_in (i:=c * 256) (by omega) (by omega)]
  have h1:orI .u32 (a * 16777216) (b * 65536)=a * 16777216+b * 65536:=orI_add (a.toNat) (b.toNat * 65536) 24 (by omega) (by omega) (by omega) (by omega)
  have h2:orI .u32 (a * 16777216+b * 65536) (c * 256)=a * 16777216+b * 65536+c * 256:=orI_add (a.toNat * 256+b.toNat) (c.toNat * 256) 16 (by omega) (by omega) (by omega) (by omega)
  have h3:orI .u32 (a * 16777216+b * 65536+c * 256) d=a * 16777216+b * 65536+c * 256+d:=orI_add (a.toNat * 65536+b.toNat * 256+c.toNat) d.toNat 8 (by omega) (by omega) (by omega) (by omega)
  rw [h1,h2,h3]
  rfl
structure H8 where
  a:Int
  b:Int
  c:Int
  d:Int
  e:Int
  f:Int
  g:Int
  h:Int
def H8.l (s:H8):List Int:=[s.a,s.b,s.c,s.d,s.e,s.f,s.g,s.h]
def u32s (l:List Int):List Value:=l.map (.int .u32)
def u8s (l:List Int):List Value:=l.map (.int .u8)
def H8.v (s:H8):List Value:=u32s s.l
def oneI (s:H8) (k w:Int):Int:=wr (wr (wr (wr (s.h+turned s.e 64 67108864 2048 2097152 33554432 128)+chI s.e s.f s.g)+k)+w)
def twoI (s:H8):Int:=wr (turned s.a 4 1073741824 8192 524288 4194304 1024+majI s.a s.b s.c)
def stepI (s:H8) (k w:Int):H8:=⟨wr (oneI s k w+twoI s),s.a,s.b,s.c,wr (s.d+oneI s k w),s.e,s.f,s.g⟩
def addH (s t:H8):H8:=⟨wr (s.a+t.a),wr (s.b+t.b),wr (s.c+t.c),wr (s.d+t.d),wr (s.e+t.e),wr (s.f+t.f),wr (s.g+t.g),wr (s.h+t.h)⟩
/-- The words of a block's bytes b. -/
def nextI (b l:List Int):Int :=
  if l.length < 16 then wordI (b.getD (4 * l.length) 0) (b.getD (4 * l.length+1) 0) (b.getD (4 * l.length+2) 0) (b.getD (4 * l.length+3) 0)
  else wr (wr (wr (l.getD (l.length - 16) 0+xorI .u32 (xorI .u32 (rotr (l.getD (l.length - 15) 0) 128 33554432) (rotr (l.getD (l.length - 15) 0) 262144 16384)) (l.getD (l.length - 15) 0 / 8))+l.getD (l.length - 7) 0)
    + xorI .u32 (xorI .u32 (rotr (l.getD (l.length - 2) 0) 131072 32768) (rotr (l.getD (l.length - 2) 0) 524288 8192)) (l.getD (l.length - 2) 0 / 1024))
def schedI (b:List Int):Nat→List Int
  | 0=>[]
  | i+1=>schedI b i++[nextI b (schedI b i)]
theorem sched_len (b:List Int) (i:Nat):(schedI b i).length=i:=by
  induction i with
  | zero=>rfl
  | succ i ih=>simp [schedI,ih]
def roundsI (K W:List Int) (s:H8):Nat→H8
  | 0=>s
  | i+1=>stepI (roundsI K W s i) (K.getD i 0) (W.getD i 0)
def mixI (K b:List Int) (s:H8):H8:=addH s (roundsI K (schedI b 64) s 64)
/-- All whole blocks. -/
def allI (K:List Int):Nat→List Int→H8→H8
  | 0,_,s=>s
  | n+1,b,s=>allI K n (b.drop 64) (mixI K (b.take 64) s)
def h0I:H8:=⟨1779033703,3144134277,1013904242,2773480762,1359893119,2600822924,528734635,1541459225⟩
def kI:List Int:=[1116352408,1899447441,3049323471,3921009573,961987163,1508970993,2453635748,2870763221,3624381080,310598401,607225278,1426881987,1925078388,2162078206,2614888103,3248222580,3835390401,4022224774,264347078,604807628,770255983,1249150122,1555081692,1996064986,2554220882,2821834349,2952996808,3210313671,3336571891,3584528711,113926993,338241895,666307205,773529912,1294757372,1396182291,1695183700,1986661051,2177026350,2456956037,2730485921,2820302411,3259730800,3345764771,3516065817,3600352804,4094571909,275423344,430227734,506948616,659060556,883997877,958139571,1322822218,1537002063,1747873779,1955562222,2024104815,2227730452,2361852424,2428436474,2756734187,3204031479,3329325298]
def lenI (n:Int):List Int:=[n / 72057594037927936 % 256,n / 281474976710656 % 256,n / 1099511627776 % 256,n / 4294967296 % 256,n / 16777216 % 256,n / 65536 % 256,n / 256 % 256,n % 256]
/-- What stands behind n bytes: a sign,zeros,the length. -/
def padI (n:Nat):List Int:=128::(List.replicate ((119 - n % 64) % 64) 0++lenI (8 * n))
def outI (s:H8):List Int:=s.l.flatMap fun x=>[x / 16777216 % 256,x / 65536 % 256,x / 256 % 256,x % 256]
def shaI (b:List Int):List Int:=outI (allI kI ((b++padI b.length).length / 64) (b++padI b.length) h0I)
theorem out_len (s:H8):(outI s).length=32:=by simp [outI,H8.l]
theorem sha_len (b:List Int):(shaI b).length=32:=out_len _
theorem kI_len:kI.length=64:=rfl

theorem allI_add (K:List Int) (j:Nat):∀ (i:Nat) (b:List Int) (s:H8),allI K (i+j) b s=allI K j (b.drop (64 * i)) (allI K i b s)
  | 0,b,s=>by simp [allI]
  | i+1,b,s=>by
    rw [show i+1+j=(i+j)+1 by omega,allI,allI_add K j i,allI,List.drop_drop,show 64+64 * i=64 * (i+1) by omega]
theorem allI_app (K:List Int):∀ (i:Nat) (b c:List Int) (s:H8),64 * i≤b.length→allI K i (b++c) s=allI K i b s
  | 0,_,_,_,_=>rfl
  | i+1,b,c,s,h=>by
    rw [allI,allI,List.drop_append_of_le_length (by omega),List.take_append_of_le_length (by omega)]
    exact allI_app K i _ c _ (by rw [List.length_drop];omega)
/-- The words and what is left,once bytes b have come. -/
def wordsI (b:List Int):H8:=allI kI (b.length / 64) b h0I
def leftI (b:List Int):List Int:=b.drop (64 * (b.length / 64))
theorem left_len (b:List Int):(leftI b).length=b.length % 64:=by unfold leftI;rw [List.length_drop];omega
theorem feed (b x:List Int):allI kI ((leftI b++x).length / 64) (leftI b++x) (wordsI b)=wordsI (b++x)∧(leftI b++x).drop (64 * ((leftI b++x).length / 64))=leftI (b++x):=by
  have hl:=left_len b
  have hd:leftI b++x=(b++x).drop (64 * (b.length / 64)):=by
    unfold leftI;rw [List.drop_append_of_le_length (by omega)]
  have hn:(b++x).length / 64=b.length / 64+(leftI b++x).length / 64:=by
    rw [List.length_append,List.length_append,hl];omega
  constructor
  · unfold wordsI
    rw [hn,allI_add,← hd,allI_app kI _ b x _ (by omega)]
  · conv=>rhs;unfold leftI
    rw [hn,Nat.mul_add,← List.drop_drop,← hd]
theorem sha_words (b:List Int):shaI b=outI (wordsI (b++padI b.length)):=rfl
def rowsTab:List (Option TRow):=[
  none,
  some { k:=.fn,size:=1,bytes:=8,zero:=.nilFunc },
  some { k:=.int .i64,size:=1,bytes:=8,zero:=.int .i64 0 },
  some { k:=.int .i64,size:=1,bytes:=8,zero:=.int .i64 0 },
  some { k:=.bool,size:=1,bytes:=1,zero:=.bool false },
  some { k:=.int .u8,size:=1,bytes:=1,zero:=.int .u8 0 },
  some { k:=.int .u8,size:=1,bytes:=1,zero:=.int .u8 0 },
  none,
  none,
  some { k:=.string,size:=1,bytes:=16,zero:=.string ByteArray.empty },
  some { k:=.string,size:=1,bytes:=16,zero:=.string ByteArray.empty },
  some { k:=.string,size:=1,bytes:=16,zero:=.string ByteArray.empty },
  some { k:=.int .u64,size:=1,bytes:=8,zero:=.int .u64 0 },
  none,
  none,
  some { k:=.ptr 570,size:=1,bytes:=8,zero:=.pointer none },
  some { k:=.ptr 573,size:=1,bytes:=8,zero:=.pointer none },
  some { k:=.ptr 581,size:=1,bytes:=8,zero:=.pointer none },
  none,
  none,
  none,
  some { k:=.int .i32,size:=1,bytes:=4,zero:=.int .i32 0 },
  some { k:=.slice 5,size:=1,bytes:=24,zero:=.slice none 0 0 },
  some { k:=.strct [(3,0,1),(3,1,1),(3,2,1),(3,3,1)],size:=4,bytes:=32,zero:=.agg #[.int .i64 0,.int .i64 0,.int .i64 0,.int .i64 0] },
  some { k:=.strct [(3,0,1),(3,1,1),(3,2,1),(3,3,1)],size:=4,bytes:=32,zero:=.agg #[.int .i64 0,.int .i64 0,.int .i64 0,.int .i64 0] },
  some { k:=.slice 3,size:=1,bytes:=24,zero:=.slice none 0 0 },
  some { k:=.int .u64,size:=1,bytes:=8,zero:=.int .u64 0 },
  some { k:=.ptr 111,size:=1,bytes:=8,zero:=.pointer none },
  none,
  some { k:=.ptr 41,size:=1,bytes:=8,zero:=.pointer none },
  none,
  some { k:=.strct [(3,0,1),(3,1,1),(3,2,1),(3,3,1)],size:=4,bytes:=32,zero:=.agg #[.int .i64 0,.int .i64 0,.int .i64 0,.int .i64 0] },
  none,
  some { k:=.arr 32 5,size:=32,bytes:=32,zero:=.agg #[.int .u8 0,.int .u8 0,.int .u8 0,.int .u8 0,.int .u8 0,.int .u8 0,.int .u8 0,.int .u8 0,.int .u8 0,.int .u8 0,.int .u8 0,.int .u8 0,.int .u8 0,.int .u8 0,.int .u8 0,.int .u8 0,.int .u8 0,.int .u8 0,.int .u8 0,.int .u8 0,.int .u8 0,.int .u8 0,.int .u8 0,.int .u8 0,.int .u8 0,.int .u8 0,.int .u8 0,.int .u8 0,.int .u8 0,.int .u8 0,.int .u8 0,.int .u8 0] },
  some { k:=.slice 584,size:=1,bytes:=24,zero:=.slice none 0 0 },
  some { k:=.slice 134,size:=1,bytes:=24,zero:=.slice none 0 0 },
  some { k:=.arr 4 35,size:=4,bytes:=96,zero:=.agg #[.slice none 0 0,.slice none 0 0,.slice none 0 0,.slice none 0 0] },
  some { k:=.arr 4 25,size:=4,bytes:=96,zero:=.agg #[.slice none 0 0,.slice none 0 0,.slice none 0 0,.slice none 0 0] },
  some { k:=.strct [(37,0,4)],size:=4,bytes:=96,zero:=.agg #[.slice none 0 0,.slice none 0 0,.slice none 0 0,.slice none 0 0] },
  some { k:=.strct [(37,0,4)],size:=4,bytes:=96,zero:=.agg #[.slice none 0 0,.slice none 0 0,.slice none 0 0,.slice none 0 0] },
  some { k:=.strct [(24,0,4),(33,4,32),(3,36,1),(3,37,1),(34,38,1),(36,39,4),(39,43,4),(3,47,1)],size:=48,bytes:=304,zero:=.agg #[.int .i64 0,.int .i64 0,.int .i64 0,.int .i64 0,.int .u8 0,.int .u8 0,.int .u8 0,.int .u8 0,.int .u8 0,.int .u8 0,.int .u8 0,.int .u8 0,.int .u8 0,.int .u8 0,.int .u8 0,.int .u8 0,.int .u8 0,.int .u8 0,.int .u8 0,.int .u8 0,.int .u8 0,.int .u8 0,.int .u8 0,.int .u8 0,.int .u8 0,.int .u8 0,.int .u8 0,.int .u8 0,.int .u8 0,.int .u8 0,.int .u8 0,.int .u8 0,.int .u8 0,.int .u8 0,.int .u8 0,.int .u8 0,.int .i64 0,.int .i64 0,.slice none 0 0,.slice none 0 0,.slice none 0 0,.slice none 0 0,.slice none 0 0,.slice none 0 0,.slice none 0 0,.slice none 0 0,.slice none 0 0,.int .i64 0] },
  some { k:=.strct [(24,0,4),(33,4,32),(3,36,1),(3,37,1),(34,38,1),(36,39,4),(39,43,4),(3,47,1)],size:=48,bytes:=304,zero:=.agg #[.int .i64 0,.int .i64 0,.int .i64 0,.int .i64 0,.int .u8 0,.int .u8 0,.int .u8 0,.int .u8 0,.int .u8 0,.int .u8 0,.int .u8 0,.int .u8 0,.int .u8 0,.int .u8 0,.int .u8 0,.int .u8 0,.int .u8 0,.int .u8 0,.int .u8 0,.int .u8 0,.int .u8 0,.int .u8 0,.int .u8 0,.int .u8 0,.int .u8 0,.int .u8 0,.int .u8 0,.int .u8 0,.int .u8 0,.int .u8 0,.int .u8 0,.int .u8 0,.int .u8 0,.int .u8 0,.int .u8 0,.int .u8 0,.int .i64 0,.int .i64 0,.slice none 0 0,.slice none 0 0,.slice none 0 0,.slice none 0 0,.slice none 0 0,.slice none 0 0,.slice none 0 0,.slice none 0 0,.slice none 0 0,.int .i64 0] },
  none,
  some { k:=.slice 53,size:=1,bytes:=24,zero:=.slice none 0 0 },
  none,
  some { k:=.strct [(3,0,1),(3,1,1)],size:=2,bytes:=16,zero:=.agg #[.int .i64 0,.int .i64 0] },
  some { k:=.strct [(3,0,1),(3,1,1)],size:=2,bytes:=16,zero:=.agg #[.int .i64 0,.int .i64 0] },
  some { k:=.strct [(3,0,1),(31,1,4),(3,5,1),(46,6,2),(22,8,1),(33,9,32)],size:=41,bytes:=120,zero:=.agg #[.int .i64 0,.int .i64 0,.int .i64 0,.int .i64 0,.int .i64 0,.int .i64 0,.int .i64 0,.int .i64 0,.slice none 0 0,.int .u8 0,.int .u8 0,.int .u8 0,.int .u8 0,.int .u8 0,.int .u8 0,.int .u8 0,.int .u8 0,.int .u8 0,.int .u8 0,.int .u8 0,.int .u8 0,.int .u8 0,.int .u8 0,.int .u8 0,.int .u8 0,.int .u8 0,.int .u8 0,.int .u8 0,.int .u8 0,.int .u8 0,.int .u8 0,.int .u8 0,.int .u8 0,.int .u8 0,.int .u8 0,.int .u8 0,.int .u8 0,.int .u8 0,.int .u8 0,.int .u8 0,.int .u8 0] },
  some { k:=.strct [(3,0,1),(31,1,4),(3,5,1),(46,6,2),(22,8,1),(33,9,32)],size:=41,bytes:=120,zero:=.agg #[.int .i64 0,.int .i64 0,.int .i64 0,.int .i64 0,.int .i64 0,.int .i64 0,.int .i64 0,.int .i64 0,.slice none 0 0,.int .u8 0,.int .u8 0,.int .u8 0,.int .u8 0,.int .u8 0,.int .u8 0,.int .u8 0,.int .u8 0,.int .u8 0,.int .u8 0,.int .u8 0,.int .u8 0,.int .u8 0,.int .u8 0,.int .u8 0,.int .u8 0,.int .u8 0,.int .u8 0,.int .u8 0,.int .u8 0,.int .u8 0,.int .u8 0,.int .u8 0,.int .u8 0,.int .u8 0,.int .u8 0,.int .u8 0,.int .u8 0,.int .u8 0,.int .u8 0,.int .u8 0,.int .u8 0] },
  some { k:=.int .i64,size:=1,bytes:=8,zero:=.int .i64 0 },
  none,
  none,
  some { k:=.strct [(3,0,1),(22,1,1)],size:=2,bytes:=32,zero:=.agg #[.int .i64 0,.slice none 0 0] },
  some { k:=.strct [(3,0,1),(22,1,1)],size:=2,bytes:=32,zero:=.agg #[.int .i64 0,.slice none 0 0] },
  none,
  some { k:=.strct [(3,0,1),(22,1,1)],size:=2,bytes:=32,zero:=.agg #[.int .i64 0,.slice none 0 0] },
  some { k:=.slice 55,size:=1,bytes:=24,zero:=.slice none 0 0 },
  none,
  none,
  none,
  none,
  none,
  none,
  some { k:=.slice 255,size:=1,bytes:=24,zero:=.slice none 0 0 },
  none,
  some { k:=.slice 274,size:=1,bytes:=24,zero:=.slice none 0 0 },
  none,
  none,
  none,
  none,
  none,
  none,
  some { k:=.strct [(31,0,4),(33,4,32)],size:=36,bytes:=64,zero:=.agg #[.int .i64 0,.int .i64 0,.int .i64 0,.int .i64 0,.int .u8 0,.int .u8 0,.int .u8 0,.int .u8 0,.int .u8 0,.int .u8 0,.int .u8 0,.int .u8 0,.int .u8 0,.int .u8 0,.int .u8 0,.int .u8 0,.int .u8 0,.int .u8 0,.int .u8 0,.int .u8 0,.int .u8 0,.int .u8 0,.int .u8 0,.int .u8 0,.int .u8 0,.int .u8 0,.int .u8 0,.int .u8 0,.int .u8 0,.int .u8 0,.int .u8 0,.int .u8 0,.int .u8 0,.int .u8 0,.int .u8 0,.int .u8 0] },
  some { k:=.strct [(31,0,4),(33,4,32)],size:=36,bytes:=64,zero:=.agg #[.int .i64 0,.int .i64 0,.int .i64 0,.int .i64 0,.int .u8 0,.int .u8 0,.int .u8 0,.int .u8 0,.int .u8 0,.int .u8 0,.int .u8 0,.int .u8 0,.int .u8 0,.int .u8 0,.int .u8 0,.int .u8 0,.int .u8 0,.int .u8 0,.int .u8 0,.int .u8 0,.int .u8 0,.int .u8 0,.int .u8 0,.int .u8 0,.int .u8 0,.int .u8 0,.int .u8 0,.int .u8 0,.int .u8 0,.int .u8 0,.int .u8 0,.int .u8 0,.int .u8 0,.int .u8 0,.int .u8 0,.int .u8 0] },
  none,
  none,
  some { k:=.slice 148,size:=1,bytes:=24,zero:=.slice none 0 0 },
  none,
  some { k:=.ptr 320,size:=1,bytes:=8,zero:=.pointer none },
  none,
  some { k:=.fn,size:=1,bytes:=8,zero:=.nilFunc },
  some { k:=.ptr 405,size:=1,bytes:=8,zero:=.pointer none },
  none,
  none,
  none,
  some { k:=.ptr 177,size:=1,bytes:=8,zero:=.pointer none },
  none,
  some { k:=.ptr 173,size:=1,bytes:=8,zero:=.pointer none },
  some { k:=.strct [(43,0,1)],size:=1,bytes:=24,zero:=.agg #[.slice none 0 0] },
  some { k:=.strct [(43,0,1)],size:=1,bytes:=24,zero:=.agg #[.slice none 0 0] },
  some { k:=.ptr 184,size:=1,bytes:=8,zero:=.pointer none },
  some { k:=.ptr 293,size:=1,bytes:=8,zero:=.pointer none },
  some { k:=.ptr 265,size:=1,bytes:=8,zero:=.pointer none },
  some { k:=.map 31 438,size:=1,bytes:=8,zero:=.map none },
  some { k:=.strct [(93,0,1)],size:=1,bytes:=8,zero:=.agg #[.map none] },
  some { k:=.strct [(93,0,1)],size:=1,bytes:=8,zero:=.agg #[.map none] },
  some { k:=.slice 3,size:=1,bytes:=24,zero:=.slice none 0 0 },
  some { k:=.strct [(96,0,1),(3,1,1)],size:=2,bytes:=32,zero:=.agg #[.slice none 0 0,.int .i64 0] },
  some { k:=.strct [(96,0,1),(3,1,1)],size:=2,bytes:=32,zero:=.agg #[.slice none 0 0,.int .i64 0] },
  some { k:=.map 3 351,size:=1,bytes:=8,zero:=.map none },
  some { k:=.strct [(99,0,1)],size:=1,bytes:=8,zero:=.agg #[.map none] },
  some { k:=.strct [(99,0,1)],size:=1,bytes:=8,zero:=.agg #[.map none] },
  some { k:=.ptr 290,size:=1,bytes:=8,zero:=.pointer none },
  some { k:=.ptr 296,size:=1,bytes:=8,zero:=.pointer none },
  some { k:=.strct [(65,0,1),(3,1,1)],size:=2,bytes:=32,zero:=.agg #[.slice none 0 0,.int .i64 0] },
  some { k:=.strct [(65,0,1),(3,1,1)],size:=2,bytes:=32,zero:=.agg #[.slice none 0 0,.int .i64 0] },
  some { k:=.ptr 298,size:=1,bytes:=8,zero:=.pointer none },
  some { k:=.map 3 22,size:=1,bytes:=8,zero:=.map none },
  some { k:=.map 31 3,size:=1,bytes:=8,zero:=.map none },
  some { k:=.arr 3 3,size:=3,bytes:=24,zero:=.agg #[.int .i64 0,.int .i64 0,.int .i64 0] },
  some { k:=.strct [(87,0,1),(89,1,1),(90,2,1),(91,3,1),(92,4,1),(95,5,1),(98,6,2),(101,8,1),(102,9,1),(103,10,1),(105,11,2),(106,13,1),(107,14,1),(108,15,1),(3,16,1),(3,17,1),(3,18,1),(109,19,3),(3,22,1),(4,23,1),(3,24,1)],size:=25,bytes:=248,zero:=.agg #[.pointer none,.slice none 0 0,.pointer none,.pointer none,.pointer none,.map none,.slice none 0 0,.int .i64 0,.map none,.pointer none,.pointer none,.slice none 0 0,.int .i64 0,.pointer none,.map none,.map none,.int .i64 0,.int .i64 0,.int .i64 0,.int .i64 0,.int .i64 0,.int .i64 0,.int .i64 0,.bool false,.int .i64 0] },
  some { k:=.strct [(87,0,1),(89,1,1),(90,2,1),(91,3,1),(92,4,1),(95,5,1),(98,6,2),(101,8,1),(102,9,1),(103,10,1),(105,11,2),(106,13,1),(107,14,1),(108,15,1),(3,16,1),(3,17,1),(3,18,1),(109,19,3),(3,22,1),(4,23,1),(3,24,1)],size:=25,bytes:=248,zero:=.agg #[.pointer none,.slice none 0 0,.pointer none,.pointer none,.pointer none,.map none,.slice none 0 0,.int .i64 0,.map none,.pointer none,.pointer none,.slice none 0 0,.int .i64 0,.pointer none,.map none,.map none,.int .i64 0,.int .i64 0,.int .i64 0,.int .i64 0,.int .i64 0,.int .i64 0,.int .i64 0,.bool false,.int .i64 0] },
  none,
  none,
  none,
  none,
  none,
  none,
  none,
  some { k:=.slice 31,size:=1,bytes:=24,zero:=.slice none 0 0 },
  some { k:=.ptr 200,size:=1,bytes:=8,zero:=.pointer none },
  none,
  none,
  none,
  none,
  some { k:=.ptr 232,size:=1,bytes:=8,zero:=.pointer none },
  none,
  some { k:=.strct [(125,0,1)],size:=1,bytes:=8,zero:=.agg #[.pointer none] },
  some { k:=.strct [(125,0,1)],size:=1,bytes:=8,zero:=.agg #[.pointer none] },
  none,
  some { k:=.fn,size:=1,bytes:=8,zero:=.nilFunc },
  none,
  none,
  none,
  some { k:=.strct [(3,0,1),(3,1,1)],size:=2,bytes:=16,zero:=.agg #[.int .i64 0,.int .i64 0] },
  some { k:=.strct [(3,0,1),(24,1,4),(3,5,1),(134,6,2),(22,8,1),(33,9,32)],size:=41,bytes:=120,zero:=.agg #[.int .i64 0,.int .i64 0,.int .i64 0,.int .i64 0,.int .i64 0,.int .i64 0,.int .i64 0,.int .i64 0,.slice none 0 0,.int .u8 0,.int .u8 0,.int .u8 0,.int .u8 0,.int .u8 0,.int .u8 0,.int .u8 0,.int .u8 0,.int .u8 0,.int .u8 0,.int .u8 0,.int .u8 0,.int .u8 0,.int .u8 0,.int .u8 0,.int .u8 0,.int .u8 0,.int .u8 0,.int .u8 0,.int .u8 0,.int .u8 0,.int .u8 0,.int .u8 0,.int .u8 0,.int .u8 0,.int .u8 0,.int .u8 0,.int .u8 0,.int .u8 0,.int .u8 0,.int .u8 0,.int .u8 0] },
  none,
  none,
  none,
  none,
  none,
  some { k:=.ptr 248,size:=1,bytes:=8,zero:=.pointer none },
  none,
  none,
  none,
  none,
  none,
  some { k:=.strct [(31,0,4),(4,4,1),(3,5,1),(3,6,1),(3,7,1)],size:=8,bytes:=64,zero:=.agg #[.int .i64 0,.int .i64 0,.int .i64 0,.int .i64 0,.bool false,.int .i64 0,.int .i64 0,.int .i64 0] },
  some { k:=.strct [(31,0,4),(4,4,1),(3,5,1),(3,6,1),(3,7,1)],size:=8,bytes:=64,zero:=.agg #[.int .i64 0,.int .i64 0,.int .i64 0,.int .i64 0,.bool false,.int .i64 0,.int .i64 0,.int .i64 0] },
  none,
  none,
  none,
  none,
  none,
  none,
  none,
  none,
  none,
  none,
  none,
  none,
  none,
  none,
  none,
  none,
  none,
  none,
  none,
  some { k:=.ptr 400,size:=1,bytes:=8,zero:=.pointer none },
  some { k:=.strct [(46,0,2),(26,2,1)],size:=3,bytes:=24,zero:=.agg #[.int .i64 0,.int .i64 0,.int .u64 0] },
  some { k:=.strct [(46,0,2),(26,2,1)],size:=3,bytes:=24,zero:=.agg #[.int .i64 0,.int .i64 0,.int .u64 0] },
  some { k:=.arr 4 170,size:=12,bytes:=96,zero:=.agg #[.int .i64 0,.int .i64 0,.int .u64 0,.int .i64 0,.int .i64 0,.int .u64 0,.int .i64 0,.int .i64 0,.int .u64 0,.int .i64 0,.int .i64 0,.int .u64 0] },
  some { k:=.strct [(168,0,1),(85,1,1),(120,2,1),(78,3,1),(171,4,12)],size:=16,bytes:=128,zero:=.agg #[.pointer none,.pointer none,.pointer none,.pointer none,.int .i64 0,.int .i64 0,.int .u64 0,.int .i64 0,.int .i64 0,.int .u64 0,.int .i64 0,.int .i64 0,.int .u64 0,.int .i64 0,.int .i64 0,.int .u64 0] },
  some { k:=.strct [(168,0,1),(85,1,1),(120,2,1),(78,3,1),(171,4,12)],size:=16,bytes:=128,zero:=.agg #[.pointer none,.pointer none,.pointer none,.pointer none,.int .i64 0,.int .i64 0,.int .u64 0,.int .i64 0,.int .i64 0,.int .u64 0,.int .i64 0,.int .i64 0,.int .u64 0,.int .i64 0,.int .i64 0,.int .u64 0] },
  some { k:=.map 31 141,size:=1,bytes:=8,zero:=.map none },
  some { k:=.map 3 141,size:=1,bytes:=8,zero:=.map none },
  some { k:=.strct [(73,0,36),(174,36,1),(175,37,1)],size:=38,bytes:=80,zero:=.agg #[.int .i64 0,.int .i64 0,.int .i64 0,.int .i64 0,.int .u8 0,.int .u8 0,.int .u8 0,.int .u8 0,.int .u8 0,.int .u8 0,.int .u8 0,.int .u8 0,.int .u8 0,.int .u8 0,.int .u8 0,.int .u8 0,.int .u8 0,.int .u8 0,.int .u8 0,.int .u8 0,.int .u8 0,.int .u8 0,.int .u8 0,.int .u8 0,.int .u8 0,.int .u8 0,.int .u8 0,.int .u8 0,.int .u8 0,.int .u8 0,.int .u8 0,.int .u8 0,.int .u8 0,.int .u8 0,.int .u8 0,.int .u8 0,.map none,.map none] },
  some { k:=.strct [(73,0,36),(174,36,1),(175,37,1)],size:=38,bytes:=80,zero:=.agg #[.int .i64 0,.int .i64 0,.int .i64 0,.int .i64 0,.int .u8 0,.int .u8 0,.int .u8 0,.int .u8 0,.int .u8 0,.int .u8 0,.int .u8 0,.int .u8 0,.int .u8 0,.int .u8 0,.int .u8 0,.int .u8 0,.int .u8 0,.int .u8 0,.int .u8 0,.int .u8 0,.int .u8 0,.int .u8 0,.int .u8 0,.int .u8 0,.int .u8 0,.int .u8 0,.int .u8 0,.int .u8 0,.int .u8 0,.int .u8 0,.int .u8 0,.int .u8 0,.int .u8 0,.int .u8 0,.int .u8 0,.int .u8 0,.map none,.map none] },
  none,
  none,
  none,
  none,
  none,
  some { k:=.strct [(87,0,1),(3,1,1),(3,2,1),(3,3,1),(3,4,1),(119,5,1)],size:=6,bytes:=64,zero:=.agg #[.pointer none,.int .i64 0,.int .i64 0,.int .i64 0,.int .i64 0,.slice none 0 0] },
  some { k:=.strct [(87,0,1),(3,1,1),(3,2,1),(3,3,1),(3,4,1),(119,5,1)],size:=6,bytes:=64,zero:=.agg #[.pointer none,.int .i64 0,.int .i64 0,.int .i64 0,.int .i64 0,.slice none 0 0] },
  none,
  none,
  some { k:=.ptr 89,size:=1,bytes:=8,zero:=.pointer none },
  none,
  none,
  some { k:=.arr 8 5,size:=8,bytes:=8,zero:=.agg #[.int .u8 0,.int .u8 0,.int .u8 0,.int .u8 0,.int .u8 0,.int .u8 0,.int .u8 0,.int .u8 0] },
  none,
  none,
  none,
  some { k:=.ptr 196,size:=1,bytes:=8,zero:=.pointer none },
  some { k:=.strct [(170,0,3),(141,3,1),(3,4,1)],size:=5,bytes:=40,zero:=.agg #[.int .i64 0,.int .i64 0,.int .u64 0,.pointer none,.int .i64 0] },
  some { k:=.strct [(170,0,3),(141,3,1),(3,4,1)],size:=5,bytes:=40,zero:=.agg #[.int .i64 0,.int .i64 0,.int .u64 0,.pointer none,.int .i64 0] },
  some { k:=.fn,size:=1,bytes:=8,zero:=.nilFunc },
  some { k:=.map 31 194,size:=1,bytes:=8,zero:=.map none },
  some { k:=.strct [(198,0,1)],size:=1,bytes:=8,zero:=.agg #[.map none] },
  some { k:=.strct [(198,0,1)],size:=1,bytes:=8,zero:=.agg #[.map none] },
  none,
  none,
  none,
  none,
  none,
  none,
  none,
  none,
  none,
  none,
  none,
  none,
  some { k:=.fn,size:=1,bytes:=8,zero:=.nilFunc },
  none,
  none,
  some { k:=.arr 4 3,size:=4,bytes:=32,zero:=.agg #[.int .i64 0,.int .i64 0,.int .i64 0,.int .i64 0] },
  some { k:=.arr 4 3,size:=4,bytes:=32,zero:=.agg #[.int .i64 0,.int .i64 0,.int .i64 0,.int .i64 0] },
  some { k:=.strct [(217,0,4),(190,4,8)],size:=12,bytes:=40,zero:=.agg #[.int .i64 0,.int .i64 0,.int .i64 0,.int .i64 0,.int .u8 0,.int .u8 0,.int .u8 0,.int .u8 0,.int .u8 0,.int .u8 0,.int .u8 0,.int .u8 0] },
  some { k:=.strct [(217,0,4),(190,4,8)],size:=12,bytes:=40,zero:=.agg #[.int .i64 0,.int .i64 0,.int .i64 0,.int .i64 0,.int .u8 0,.int .u8 0,.int .u8 0,.int .u8 0,.int .u8 0,.int .u8 0,.int .u8 0,.int .u8 0] },
  some { k:=.slice 357,size:=1,bytes:=24,zero:=.slice none 0 0 },
  some { k:=.strct [(219,0,12),(220,12,1),(119,13,1)],size:=14,bytes:=88,zero:=.agg #[.int .i64 0,.int .i64 0,.int .i64 0,.int .i64 0,.int .u8 0,.int .u8 0,.int .u8 0,.int .u8 0,.int .u8 0,.int .u8 0,.int .u8 0,.int .u8 0,.slice none 0 0,.slice none 0 0] },
  some { k:=.strct [(219,0,12),(220,12,1),(119,13,1)],size:=14,bytes:=88,zero:=.agg #[.int .i64 0,.int .i64 0,.int .i64 0,.int .i64 0,.int .u8 0,.int .u8 0,.int .u8 0,.int .u8 0,.int .u8 0,.int .u8 0,.int .u8 0,.int .u8 0,.slice none 0 0,.slice none 0 0] },
  none,
  some { k:=.slice 227,size:=1,bytes:=24,zero:=.slice none 0 0 },
  none,
  some { k:=.strct [(3,0,1),(3,1,1),(3,2,1),(22,3,1)],size:=4,bytes:=48,zero:=.agg #[.int .i64 0,.int .i64 0,.int .i64 0,.slice none 0 0] },
  some { k:=.strct [(3,0,1),(3,1,1),(3,2,1),(22,3,1)],size:=4,bytes:=48,zero:=.agg #[.int .i64 0,.int .i64 0,.int .i64 0,.slice none 0 0] },
  none,
  some { k:=.strct [(22,0,1),(49,1,1)],size:=2,bytes:=32,zero:=.agg #[.slice none 0 0,.int .i64 0] },
  some { k:=.strct [(22,0,1),(49,1,1)],size:=2,bytes:=32,zero:=.agg #[.slice none 0 0,.int .i64 0] },
  some { k:=.strct [(230,0,2)],size:=2,bytes:=32,zero:=.agg #[.slice none 0 0,.int .i64 0] },
  some { k:=.strct [(230,0,2)],size:=2,bytes:=32,zero:=.agg #[.slice none 0 0,.int .i64 0] },
  none,
  some { k:=.strct [(3,0,1),(3,1,1),(22,2,1)],size:=3,bytes:=40,zero:=.agg #[.int .i64 0,.int .i64 0,.slice none 0 0] },
  some { k:=.strct [(3,0,1),(3,1,1),(22,2,1)],size:=3,bytes:=40,zero:=.agg #[.int .i64 0,.int .i64 0,.slice none 0 0] },
  none,
  none,
  none,
  none,
  none,
  none,
  none,
  none,
  none,
  none,
  some { k:=.slice 5,size:=1,bytes:=24,zero:=.slice none 0 0 },
  some { k:=.strct [(246,0,1)],size:=1,bytes:=24,zero:=.agg #[.slice none 0 0] },
  some { k:=.strct [(246,0,1)],size:=1,bytes:=24,zero:=.agg #[.slice none 0 0] },
  none,
  none,
  none,
  none,
  none,
  some { k:=.strct [(3,0,1),(3,1,1),(3,2,1),(22,3,1)],size:=4,bytes:=48,zero:=.agg #[.int .i64 0,.int .i64 0,.int .i64 0,.slice none 0 0] },
  some { k:=.strct [(3,0,1),(3,1,1),(3,2,1),(22,3,1)],size:=4,bytes:=48,zero:=.agg #[.int .i64 0,.int .i64 0,.int .i64 0,.slice none 0 0] },
  none,
  some { k:=.strct [(227,0,4),(22,4,1),(4,5,1)],size:=6,bytes:=80,zero:=.agg #[.int .i64 0,.int .i64 0,.int .i64 0,.slice none 0 0,.slice none 0 0,.bool false] },
  some { k:=.strct [(227,0,4),(22,4,1),(4,5,1)],size:=6,bytes:=80,zero:=.agg #[.int .i64 0,.int .i64 0,.int .i64 0,.slice none 0 0,.slice none 0 0,.bool false] },
  none,
  some { k:=.fn,size:=1,bytes:=8,zero:=.nilFunc },
  some { k:=.fn,size:=1,bytes:=8,zero:=.nilFunc },
  none,
  some { k:=.map 3 148,size:=1,bytes:=8,zero:=.map none },
  some { k:=.strct [(31,0,4),(263,4,1)],size:=5,bytes:=40,zero:=.agg #[.int .i64 0,.int .i64 0,.int .i64 0,.int .i64 0,.map none] },
  some { k:=.strct [(31,0,4),(263,4,1)],size:=5,bytes:=40,zero:=.agg #[.int .i64 0,.int .i64 0,.int .i64 0,.int .i64 0,.map none] },
  none,
  none,
  some { k:=.int .u64,size:=1,bytes:=8,zero:=.int .u64 0 },
  some { k:=.slice 258,size:=1,bytes:=24,zero:=.slice none 0 0 },
  none,
  some { k:=.ptr 105,size:=1,bytes:=8,zero:=.pointer none },
  none,
  some { k:=.strct [(3,0,1),(3,1,1),(3,2,1),(3,3,1)],size:=4,bytes:=32,zero:=.agg #[.int .i64 0,.int .i64 0,.int .i64 0,.int .i64 0] },
  some { k:=.strct [(3,0,1),(3,1,1),(3,2,1),(3,3,1)],size:=4,bytes:=32,zero:=.agg #[.int .i64 0,.int .i64 0,.int .i64 0,.int .i64 0] },
  none,
  some { k:=.fn,size:=1,bytes:=8,zero:=.nilFunc },
  none,
  none,
  some { k:=.fn,size:=1,bytes:=8,zero:=.nilFunc },
  none,
  none,
  none,
  none,
  none,
  none,
  some { k:=.ptr 403,size:=1,bytes:=8,zero:=.pointer none },
  none,
  none,
  some { k:=.strct [(286,0,1),(31,1,4),(119,5,1)],size:=6,bytes:=64,zero:=.agg #[.pointer none,.int .i64 0,.int .i64 0,.int .i64 0,.int .i64 0,.slice none 0 0] },
  some { k:=.strct [(286,0,1),(31,1,4),(119,5,1)],size:=6,bytes:=64,zero:=.agg #[.pointer none,.int .i64 0,.int .i64 0,.int .i64 0,.int .i64 0,.slice none 0 0] },
  some { k:=.slice 337,size:=1,bytes:=24,zero:=.slice none 0 0 },
  some { k:=.strct [(81,0,1),(291,1,1),(3,2,1),(4,3,1)],size:=4,bytes:=48,zero:=.agg #[.pointer none,.slice none 0 0,.int .i64 0,.bool false] },
  some { k:=.strct [(81,0,1),(291,1,1),(3,2,1),(4,3,1)],size:=4,bytes:=48,zero:=.agg #[.pointer none,.slice none 0 0,.int .i64 0,.bool false] },
  some { k:=.map 325 258,size:=1,bytes:=8,zero:=.map none },
  some { k:=.strct [(294,0,1)],size:=1,bytes:=8,zero:=.agg #[.map none] },
  some { k:=.strct [(294,0,1)],size:=1,bytes:=8,zero:=.agg #[.map none] },
  some { k:=.strct [(26,0,1)],size:=1,bytes:=8,zero:=.agg #[.int .u64 0] },
  some { k:=.strct [(26,0,1)],size:=1,bytes:=8,zero:=.agg #[.int .u64 0] },
  some { k:=.fn,size:=1,bytes:=8,zero:=.nilFunc },
  some { k:=.arr 4 299,size:=4,bytes:=32,zero:=.agg #[.nilFunc,.nilFunc,.nilFunc,.nilFunc] },
  none,
  none,
  none,
  none,
  none,
  none,
  none,
  none,
  none,
  none,
  none,
  none,
  none,
  none,
  some { k:=.fn,size:=1,bytes:=8,zero:=.nilFunc },
  some { k:=.map 3 315,size:=1,bytes:=8,zero:=.map none },
  none,
  some { k:=.arr 16 3,size:=16,bytes:=128,zero:=.agg #[.int .i64 0,.int .i64 0,.int .i64 0,.int .i64 0,.int .i64 0,.int .i64 0,.int .i64 0,.int .i64 0,.int .i64 0,.int .i64 0,.int .i64 0,.int .i64 0,.int .i64 0,.int .i64 0,.int .i64 0,.int .i64 0] },
  some { k:=.strct [(3,0,1),(318,1,16)],size:=17,bytes:=136,zero:=.agg #[.int .i64 0,.int .i64 0,.int .i64 0,.int .i64 0,.int .i64 0,.int .i64 0,.int .i64 0,.int .i64 0,.int .i64 0,.int .i64 0,.int .i64 0,.int .i64 0,.int .i64 0,.int .i64 0,.int .i64 0,.int .i64 0,.int .i64 0] },
  some { k:=.strct [(3,0,1),(318,1,16)],size:=17,bytes:=136,zero:=.agg #[.int .i64 0,.int .i64 0,.int .i64 0,.int .i64 0,.int .i64 0,.int .i64 0,.int .i64 0,.int .i64 0,.int .i64 0,.int .i64 0,.int .i64 0,.int .i64 0,.int .i64 0,.int .i64 0,.int .i64 0,.int .i64 0,.int .i64 0] },
  none,
  none,
  some { k:=.fn,size:=1,bytes:=8,zero:=.nilFunc },
  none,
  some { k:=.arr 2 3,size:=2,bytes:=16,zero:=.agg #[.int .i64 0,.int .i64 0] },
  some { k:=.ptr 95,size:=1,bytes:=8,zero:=.pointer none },
  some { k:=.ptr 101,size:=1,bytes:=8,zero:=.pointer none },
  none,
  none,
  none,
  none,
  none,
  none,
  none,
  none,
  some { k:=.strct [(3,0,1),(3,1,1),(190,2,8)],size:=10,bytes:=24,zero:=.agg #[.int .i64 0,.int .i64 0,.int .u8 0,.int .u8 0,.int .u8 0,.int .u8 0,.int .u8 0,.int .u8 0,.int .u8 0,.int .u8 0] },
  some { k:=.strct [(3,0,1),(3,1,1),(190,2,8)],size:=10,bytes:=24,zero:=.agg #[.int .i64 0,.int .i64 0,.int .u8 0,.int .u8 0,.int .u8 0,.int .u8 0,.int .u8 0,.int .u8 0,.int .u8 0,.int .u8 0] },
  some { k:=.fn,size:=1,bytes:=8,zero:=.nilFunc },
  none,
  none,
  none,
  none,
  none,
  some { k:=.fn,size:=1,bytes:=8,zero:=.nilFunc },
  some { k:=.strct [(22,0,1),(49,1,1)],size:=2,bytes:=32,zero:=.agg #[.slice none 0 0,.int .i64 0] },
  some { k:=.ptr 345,size:=1,bytes:=8,zero:=.pointer none },
  none,
  none,
  none,
  some { k:=.strct [(3,0,1),(4,1,1)],size:=2,bytes:=16,zero:=.agg #[.int .i64 0,.bool false] },
  some { k:=.strct [(3,0,1),(4,1,1)],size:=2,bytes:=16,zero:=.agg #[.int .i64 0,.bool false] },
  some { k:=.fn,size:=1,bytes:=8,zero:=.nilFunc },
  none,
  some { k:=.slice 49,size:=1,bytes:=24,zero:=.slice none 0 0 },
  none,
  some { k:=.strct [(3,0,1),(31,1,4),(3,5,1)],size:=6,bytes:=48,zero:=.agg #[.int .i64 0,.int .i64 0,.int .i64 0,.int .i64 0,.int .i64 0,.int .i64 0] },
  some { k:=.strct [(3,0,1),(31,1,4),(3,5,1)],size:=6,bytes:=48,zero:=.agg #[.int .i64 0,.int .i64 0,.int .i64 0,.int .i64 0,.int .i64 0,.int .i64 0] },
  some { k:=.ptr 98,size:=1,bytes:=8,zero:=.pointer none },
  none,
  none,
  none,
  none,
  none,
  none,
  none,
  none,
  some { k:=.ptr 230,size:=1,bytes:=8,zero:=.pointer none },
  none,
  some { k:=.strct [(3,0,1),(3,1,1),(3,2,1)],size:=3,bytes:=24,zero:=.agg #[.int .i64 0,.int .i64 0,.int .i64 0] },
  some { k:=.strct [(3,0,1),(3,1,1),(3,2,1)],size:=3,bytes:=24,zero:=.agg #[.int .i64 0,.int .i64 0,.int .i64 0] },
  some { k:=.arr 4 370,size:=12,bytes:=96,zero:=.agg #[.int .i64 0,.int .i64 0,.int .i64 0,.int .i64 0,.int .i64 0,.int .i64 0,.int .i64 0,.int .i64 0,.int .i64 0,.int .i64 0,.int .i64 0,.int .i64 0] },
  none,
  none,
  none,
  none,
  none,
  some { k:=.slice 22,size:=1,bytes:=24,zero:=.slice none 0 0 },
  none,
  none,
  none,
  none,
  none,
  some { k:=.int .i64,size:=1,bytes:=8,zero:=.int .i64 0 },
  none,
  none,
  none,
  none,
  none,
  none,
  some { k:=.int .u32,size:=1,bytes:=4,zero:=.int .u32 0 },
  none,
  none,
  some { k:=.fn,size:=1,bytes:=8,zero:=.nilFunc },
  none,
  none,
  none,
  none,
  none,
  some { k:=.strct [(46,0,2)],size:=2,bytes:=16,zero:=.agg #[.int .i64 0,.int .i64 0] },
  some { k:=.strct [(46,0,2)],size:=2,bytes:=16,zero:=.agg #[.int .i64 0,.int .i64 0] },
  some { k:=.map 3 560,size:=1,bytes:=8,zero:=.map none },
  some { k:=.strct [(3,0,1),(401,1,1)],size:=2,bytes:=16,zero:=.agg #[.int .i64 0,.map none] },
  some { k:=.strct [(3,0,1),(401,1,1)],size:=2,bytes:=16,zero:=.agg #[.int .i64 0,.map none] },
  some { k:=.strct [(37,0,4)],size:=4,bytes:=96,zero:=.agg #[.slice none 0 0,.slice none 0 0,.slice none 0 0,.slice none 0 0] },
  some { k:=.strct [(37,0,4)],size:=4,bytes:=96,zero:=.agg #[.slice none 0 0,.slice none 0 0,.slice none 0 0,.slice none 0 0] },
  none,
  none,
  none,
  some { k:=.fn,size:=1,bytes:=8,zero:=.nilFunc },
  some { k:=.map 3 409,size:=1,bytes:=8,zero:=.map none },
  none,
  none,
  none,
  none,
  none,
  none,
  none,
  none,
  some { k:=.strct [(217,0,4),(37,4,4)],size:=8,bytes:=128,zero:=.agg #[.int .i64 0,.int .i64 0,.int .i64 0,.int .i64 0,.slice none 0 0,.slice none 0 0,.slice none 0 0,.slice none 0 0] },
  some { k:=.strct [(217,0,4),(37,4,4)],size:=8,bytes:=128,zero:=.agg #[.int .i64 0,.int .i64 0,.int .i64 0,.int .i64 0,.slice none 0 0,.slice none 0 0,.slice none 0 0,.slice none 0 0] },
  none,
  none,
  none,
  none,
  none,
  some { k:=.fn,size:=1,bytes:=8,zero:=.nilFunc },
  some { k:=.fn,size:=1,bytes:=8,zero:=.nilFunc },
  none,
  none,
  none,
  none,
  none,
  none,
  none,
  none,
  none,
  some { k:=.strct [(357,0,6),(3,6,1)],size:=7,bytes:=56,zero:=.agg #[.int .i64 0,.int .i64 0,.int .i64 0,.int .i64 0,.int .i64 0,.int .i64 0,.int .i64 0] },
  some { k:=.strct [(357,0,6),(3,6,1)],size:=7,bytes:=56,zero:=.agg #[.int .i64 0,.int .i64 0,.int .i64 0,.int .i64 0,.int .i64 0,.int .i64 0,.int .i64 0] },
  some { k:=.ptr 96,size:=1,bytes:=8,zero:=.pointer none },
  none,
  none,
  none,
  none,
  none,
  none,
  some { k:=.arr 8 390,size:=8,bytes:=32,zero:=.agg #[.int .u32 0,.int .u32 0,.int .u32 0,.int .u32 0,.int .u32 0,.int .u32 0,.int .u32 0,.int .u32 0] },
  some { k:=.strct [(446,0,8)],size:=8,bytes:=32,zero:=.agg #[.int .u32 0,.int .u32 0,.int .u32 0,.int .u32 0,.int .u32 0,.int .u32 0,.int .u32 0,.int .u32 0] },
  some { k:=.strct [(446,0,8)],size:=8,bytes:=32,zero:=.agg #[.int .u32 0,.int .u32 0,.int .u32 0,.int .u32 0,.int .u32 0,.int .u32 0,.int .u32 0,.int .u32 0] },
  some { k:=.strct [(448,0,8),(4,8,1),(22,9,1),(3,10,1)],size:=11,bytes:=72,zero:=.agg #[.int .u32 0,.int .u32 0,.int .u32 0,.int .u32 0,.int .u32 0,.int .u32 0,.int .u32 0,.int .u32 0,.bool false,.slice none 0 0,.int .i64 0] },
  some { k:=.strct [(448,0,8),(4,8,1),(22,9,1),(3,10,1)],size:=11,bytes:=72,zero:=.agg #[.int .u32 0,.int .u32 0,.int .u32 0,.int .u32 0,.int .u32 0,.int .u32 0,.int .u32 0,.int .u32 0,.bool false,.slice none 0 0,.int .i64 0] },
  some { k:=.ptr 450,size:=1,bytes:=8,zero:=.pointer none },
  none,
  none,
  some { k:=.fn,size:=1,bytes:=8,zero:=.nilFunc },
  none,
  none,
  none,
  none,
  some { k:=.int .u64,size:=1,bytes:=8,zero:=.int .u64 0 },
  none,
  none,
  some { k:=.ptr 3,size:=1,bytes:=8,zero:=.pointer none },
  none,
  none,
  none,
  none,
  none,
  none,
  none,
  none,
  some { k:=.fn,size:=1,bytes:=8,zero:=.nilFunc },
  some { k:=.fn,size:=1,bytes:=8,zero:=.nilFunc },
  none,
  none,
  none,
  none,
  none,
  none,
  none,
  none,
  none,
  none,
  none,
  none,
  none,
  none,
  none,
  none,
  none,
  none,
  none,
  none,
  none,
  none,
  none,
  some { k:=.slice 235,size:=1,bytes:=24,zero:=.slice none 0 0 },
  none,
  none,
  none,
  none,
  none,
  none,
  some { k:=.fn,size:=1,bytes:=8,zero:=.nilFunc },
  none,
  none,
  some { k:=.ptr 459,size:=1,bytes:=8,zero:=.pointer none },
  none,
  none,
  none,
  none,
  none,
  none,
  none,
  some { k:=.ptr 170,size:=1,bytes:=8,zero:=.pointer none },
  none,
  none,
  none,
  none,
  none,
  none,
  none,
  none,
  none,
  none,
  none,
  none,
  none,
  none,
  none,
  none,
  none,
  some { k:=.slice 25,size:=1,bytes:=24,zero:=.slice none 0 0 },
  none,
  some { k:=.slice 438,size:=1,bytes:=24,zero:=.slice none 0 0 },
  none,
  some { k:=.ptr 448,size:=1,bytes:=8,zero:=.pointer none },
  none,
  none,
  none,
  none,
  none,
  none,
  none,
  none,
  none,
  none,
  some { k:=.arr 64 390,size:=64,bytes:=256,zero:=.agg #[.int .u32 0,.int .u32 0,.int .u32 0,.int .u32 0,.int .u32 0,.int .u32 0,.int .u32 0,.int .u32 0,.int .u32 0,.int .u32 0,.int .u32 0,.int .u32 0,.int .u32 0,.int .u32 0,.int .u32 0,.int .u32 0,.int .u32 0,.int .u32 0,.int .u32 0,.int .u32 0,.int .u32 0,.int .u32 0,.int .u32 0,.int .u32 0,.int .u32 0,.int .u32 0,.int .u32 0,.int .u32 0,.int .u32 0,.int .u32 0,.int .u32 0,.int .u32 0,.int .u32 0,.int .u32 0,.int .u32 0,.int .u32 0,.int .u32 0,.int .u32 0,.int .u32 0,.int .u32 0,.int .u32 0,.int .u32 0,.int .u32 0,.int .u32 0,.int .u32 0,.int .u32 0,.int .u32 0,.int .u32 0,.int .u32 0,.int .u32 0,.int .u32 0,.int .u32 0,.int .u32 0,.int .u32 0,.int .u32 0,.int .u32 0,.int .u32 0,.int .u32 0,.int .u32 0,.int .u32 0,.int .u32 0,.int .u32 0,.int .u32 0,.int .u32 0] },
  none,
  none,
  none,
  some { k:=.fn,size:=1,bytes:=8,zero:=.nilFunc },
  none,
  none,
  none,
  none,
  none,
  none,
  none,
  some { k:=.strct [(3,0,1),(3,1,1)],size:=2,bytes:=16,zero:=.agg #[.int .i64 0,.int .i64 0] },
  some { k:=.strct [(3,0,1),(3,1,1)],size:=2,bytes:=16,zero:=.agg #[.int .i64 0,.int .i64 0] },
  none,
  none,
  none,
  none,
  none,
  none,
  none,
  none,
  none,
  none,
  none,
  none,
  none,
  some { k:=.int .u8,size:=1,bytes:=1,zero:=.int .u8 0 },
  some { k:=.int .u8,size:=1,bytes:=1,zero:=.int .u8 0 },
  some { k:=.fn,size:=1,bytes:=8,zero:=.nilFunc },
  some { k:=.ptr 5,size:=1,bytes:=8,zero:=.pointer none },
  some { k:=.int .i32,size:=1,bytes:=4,zero:=.int .i32 0 },
  some { k:=.int .i32,size:=1,bytes:=4,zero:=.int .i32 0 },
  none,
  none,
  none,
  some { k:=.strct [(24,0,4),(4,4,1),(3,5,1),(22,6,1),(35,7,1)],size:=8,bytes:=96,zero:=.agg #[.int .i64 0,.int .i64 0,.int .i64 0,.int .i64 0,.bool false,.int .i64 0,.slice none 0 0,.slice none 0 0] },
  some { k:=.strct [(24,0,4),(4,4,1),(3,5,1),(22,6,1),(35,7,1)],size:=8,bytes:=96,zero:=.agg #[.int .i64 0,.int .i64 0,.int .i64 0,.int .i64 0,.bool false,.int .i64 0,.slice none 0 0,.slice none 0 0] },
  none,
  none,
  none,
  none]
set_option maxRecDepth 100000 in
theorem rowsGood:TGoods Tryz.prog 0 rowsTab :=
  ⟨⟨⟨_,_,_,Tryz.underlying1⟩,Tryz.sizeOf1,Tryz.zeroValue1,trivial,by kernel_rfl⟩,
   ⟨Tryz.underlying2,Tryz.sizeOf2,Tryz.zeroValue2,trivial,by kernel_rfl⟩,
   ⟨Tryz.underlying3,Tryz.sizeOf3,Tryz.zeroValue3,trivial,by kernel_rfl⟩,
   ⟨Tryz.underlying4,Tryz.sizeOf4,Tryz.zeroValue4,trivial,by kernel_rfl⟩,
   ⟨Tryz.underlying5,Tryz.sizeOf5,Tryz.zeroValue5,trivial,by kernel_rfl⟩,
   ⟨Tryz.underlying6,Tryz.sizeOf6,Tryz.zeroValue6,trivial,by kernel_rfl⟩,
   ⟨Tryz.underlying9,Tryz.sizeOf9,Tryz.zeroValue9,trivial,by kernel_rfl⟩,
   ⟨Tryz.underlying10,Tryz.sizeOf10,Tryz.zeroValue10,trivial,by kernel_rfl⟩,
   ⟨Tryz.underlying11,Tryz.sizeOf11,Tryz.zeroValue11,trivial,by kernel_rfl⟩,
   ⟨Tryz.underlying12,Tryz.sizeOf12,Tryz.zeroValue12,trivial,by kernel_rfl⟩,
   ⟨Tryz.underlying15,Tryz.sizeOf15,Tryz.zeroValue15,trivial,by kernel_rfl⟩,
   ⟨Tryz.underlying16,Tryz.sizeOf16,Tryz.zeroValue16,trivial,by kernel_rfl⟩,
   ⟨Tryz.underlying17,Tryz.sizeOf17,Tryz.zeroValue17,trivial,by kernel_rfl⟩,
   ⟨Tryz.underlying21,Tryz.sizeOf21,Tryz.zeroValue21,trivial,by kernel_rfl⟩,
   ⟨Tryz.underlying22,Tryz.sizeOf22,Tryz.zeroValue22,trivial,by kernel_rfl⟩,
   ⟨⟨_,Tryz.underlying23,rfl,rfl,Tryz.sizeOf3,rfl,rfl,rfl,Tryz.sizeOf3,rfl,rfl,rfl,Tryz.sizeOf3,rfl,rfl,rfl,Tryz.sizeOf3,rfl,trivial⟩,Tryz.sizeOf23,Tryz.zeroValue23,(by show Tryz.prog.stoodInHeld 23=false;kernel_rfl),by kernel_rfl⟩,
   ⟨⟨_,Tryz.underlying24,rfl,rfl,Tryz.sizeOf3,rfl,rfl,rfl,Tryz.sizeOf3,rfl,rfl,rfl,Tryz.sizeOf3,rfl,rfl,rfl,Tryz.sizeOf3,rfl,trivial⟩,Tryz.sizeOf24,Tryz.zeroValue24,(by show Tryz.prog.stoodInHeld 24=false;kernel_rfl),by kernel_rfl⟩,
   ⟨Tryz.underlying25,Tryz.sizeOf25,Tryz.zeroValue25,trivial,by kernel_rfl⟩,
   ⟨Tryz.underlying26,Tryz.sizeOf26,Tryz.zeroValue26,trivial,by kernel_rfl⟩,
   ⟨Tryz.underlying27,Tryz.sizeOf27,Tryz.zeroValue27,trivial,by kernel_rfl⟩,
   ⟨Tryz.underlying29,Tryz.sizeOf29,Tryz.zeroValue29,trivial,by kernel_rfl⟩,
   ⟨⟨_,Tryz.underlying31,rfl,rfl,Tryz.sizeOf3,rfl,rfl,rfl,Tryz.sizeOf3,rfl,rfl,rfl,Tryz.sizeOf3,rfl,rfl,rfl,Tryz.sizeOf3,rfl,trivial⟩,Tryz.sizeOf31,Tryz.zeroValue31,(by show Tryz.prog.stoodInHeld 31=false;kernel_rfl),by kernel_rfl⟩,
   ⟨Tryz.underlying33,Tryz.sizeOf33,Tryz.zeroValue33,trivial,by kernel_rfl⟩,
   ⟨Tryz.underlying34,Tryz.sizeOf34,Tryz.zeroValue34,trivial,by kernel_rfl⟩,
   ⟨Tryz.underlying35,Tryz.sizeOf35,Tryz.zeroValue35,trivial,by kernel_rfl⟩,
   ⟨Tryz.underlying36,Tryz.sizeOf36,Tryz.zeroValue36,trivial,by kernel_rfl⟩,
   ⟨Tryz.underlying37,Tryz.sizeOf37,Tryz.zeroValue37,trivial,by kernel_rfl⟩,
   ⟨⟨_,Tryz.underlying38,rfl,rfl,Tryz.sizeOf37,rfl,trivial⟩,Tryz.sizeOf38,Tryz.zeroValue38,(by show Tryz.prog.stoodInHeld 38=false;kernel_rfl),by kernel_rfl⟩,
   ⟨⟨_,Tryz.underlying39,rfl,rfl,Tryz.sizeOf37,rfl,trivial⟩,Tryz.sizeOf39,Tryz.zeroValue39,(by show Tryz.prog.stoodInHeld 39=false;kernel_rfl),by kernel_rfl⟩,
   ⟨⟨_,Tryz.underlying40,rfl,rfl,Tryz.sizeOf24,rfl,rfl,rfl,Tryz.sizeOf33,rfl,rfl,rfl,Tryz.sizeOf3,rfl,rfl,rfl,Tryz.sizeOf3,rfl,rfl,rfl,Tryz.sizeOf34,rfl,rfl,rfl,Tryz.sizeOf36,rfl,rfl,rfl,Tryz.sizeOf39,rfl,rfl,rfl,Tryz.sizeOf3,rfl,trivial⟩,Tryz.sizeOf40,Tryz.zeroValue40,(by show Tryz.prog.stoodInHeld 40=false;kernel_rfl),by kernel_rfl⟩,
   ⟨⟨_,Tryz.underlying41,rfl,rfl,Tryz.sizeOf24,rfl,rfl,rfl,Tryz.sizeOf33,rfl,rfl,rfl,Tryz.sizeOf3,rfl,rfl,rfl,Tryz.sizeOf3,rfl,rfl,rfl,Tryz.sizeOf34,rfl,rfl,rfl,Tryz.sizeOf36,rfl,rfl,rfl,Tryz.sizeOf39,rfl,rfl,rfl,Tryz.sizeOf3,rfl,trivial⟩,Tryz.sizeOf41,Tryz.zeroValue41,(by show Tryz.prog.stoodInHeld 41=false;kernel_rfl),by kernel_rfl⟩,
   ⟨Tryz.underlying43,Tryz.sizeOf43,Tryz.zeroValue43,trivial,by kernel_rfl⟩,
   ⟨⟨_,Tryz.underlying45,rfl,rfl,Tryz.sizeOf3,rfl,rfl,rfl,Tryz.sizeOf3,rfl,trivial⟩,Tryz.sizeOf45,Tryz.zeroValue45,(by show Tryz.prog.stoodInHeld 45=false;kernel_rfl),by kernel_rfl⟩,
   ⟨⟨_,Tryz.underlying46,rfl,rfl,Tryz.sizeOf3,rfl,rfl,rfl,Tryz.sizeOf3,rfl,trivial⟩,Tryz.sizeOf46,Tryz.zeroValue46,(by show Tryz.prog.stoodInHeld 46=false;kernel_rfl),by kernel_rfl⟩,
   ⟨⟨_,Tryz.underlying47,rfl,rfl,Tryz.sizeOf3,rfl,rfl,rfl,Tryz.sizeOf31,rfl,rfl,rfl,Tryz.sizeOf3,rfl,rfl,rfl,Tryz.sizeOf46,rfl,rfl,rfl,Tryz.sizeOf22,rfl,rfl,rfl,Tryz.sizeOf33,rfl,trivial⟩,Tryz.sizeOf47,Tryz.zeroValue47,(by show Tryz.prog.stoodInHeld 47=false;kernel_rfl),by kernel_rfl⟩,
   ⟨⟨_,Tryz.underlying48,rfl,rfl,Tryz.sizeOf3,rfl,rfl,rfl,Tryz.sizeOf31,rfl,rfl,rfl,Tryz.sizeOf3,rfl,rfl,rfl,Tryz.sizeOf46,rfl,rfl,rfl,Tryz.sizeOf22,rfl,rfl,rfl,Tryz.sizeOf33,rfl,trivial⟩,Tryz.sizeOf48,Tryz.zeroValue48,(by show Tryz.prog.stoodInHeld 48=false;kernel_rfl),by kernel_rfl⟩,
   ⟨Tryz.underlying49,Tryz.sizeOf49,Tryz.zeroValue49,trivial,by kernel_rfl⟩,
   ⟨⟨_,Tryz.underlying52,rfl,rfl,Tryz.sizeOf3,rfl,rfl,rfl,Tryz.sizeOf22,rfl,trivial⟩,Tryz.sizeOf52,Tryz.zeroValue52,(by show Tryz.prog.stoodInHeld 52=false;kernel_rfl),by kernel_rfl⟩,
   ⟨⟨_,Tryz.underlying53,rfl,rfl,Tryz.sizeOf3,rfl,rfl,rfl,Tryz.sizeOf22,rfl,trivial⟩,Tryz.sizeOf53,Tryz.zeroValue53,(by show Tryz.prog.stoodInHeld 53=false;kernel_rfl),by kernel_rfl⟩,
   ⟨⟨_,Tryz.underlying55,rfl,rfl,Tryz.sizeOf3,rfl,rfl,rfl,Tryz.sizeOf22,rfl,trivial⟩,Tryz.sizeOf55,Tryz.zeroValue55,(by show Tryz.prog.stoodInHeld 55=false;kernel_rfl),by kernel_rfl⟩,
   ⟨Tryz.underlying56,Tryz.sizeOf56,Tryz.zeroValue56,trivial,by kernel_rfl⟩,
   ⟨Tryz.underlying63,Tryz.sizeOf63,Tryz.zeroValue63,trivial,by kernel_rfl⟩,
   ⟨Tryz.underlying65,Tryz.sizeOf65,Tryz.zeroValue65,trivial,by kernel_rfl⟩,
   ⟨⟨_,Tryz.underlying72,rfl,rfl,Tryz.sizeOf31,rfl,rfl,rfl,Tryz.sizeOf33,rfl,trivial⟩,Tryz.sizeOf72,Tryz.zeroValue72,(by show Tryz.prog.stoodInHeld 72=false;kernel_rfl),by kernel_rfl⟩,
   ⟨⟨_,Tryz.underlying73,rfl,rfl,Tryz.sizeOf31,rfl,rfl,rfl,Tryz.sizeOf33,rfl,trivial⟩,Tryz.sizeOf73,Tryz.zeroValue73,(by show Tryz.prog.stoodInHeld 73=false;kernel_rfl),by kernel_rfl⟩,
   ⟨Tryz.underlying76,Tryz.sizeOf76,Tryz.zeroValue76,trivial,by kernel_rfl⟩,
   ⟨Tryz.underlying78,Tryz.sizeOf78,Tryz.zeroValue78,trivial,by kernel_rfl⟩,
   ⟨⟨_,_,_,Tryz.underlying80⟩,Tryz.sizeOf80,Tryz.zeroValue80,trivial,by kernel_rfl⟩,
   ⟨Tryz.underlying81,Tryz.sizeOf81,Tryz.zeroValue81,trivial,by kernel_rfl⟩,
   ⟨Tryz.underlying85,Tryz.sizeOf85,Tryz.zeroValue85,trivial,by kernel_rfl⟩,
   ⟨Tryz.underlying87,Tryz.sizeOf87,Tryz.zeroValue87,trivial,by kernel_rfl⟩,
   ⟨⟨_,Tryz.underlying88,rfl,rfl,Tryz.sizeOf43,rfl,trivial⟩,Tryz.sizeOf88,Tryz.zeroValue88,(by show Tryz.prog.stoodInHeld 88=false;kernel_rfl),by kernel_rfl⟩,
   ⟨⟨_,Tryz.underlying89,rfl,rfl,Tryz.sizeOf43,rfl,trivial⟩,Tryz.sizeOf89,Tryz.zeroValue89,(by show Tryz.prog.stoodInHeld 89=false;kernel_rfl),by kernel_rfl⟩,
   ⟨Tryz.underlying90,Tryz.sizeOf90,Tryz.zeroValue90,trivial,by kernel_rfl⟩,
   ⟨Tryz.underlying91,Tryz.sizeOf91,Tryz.zeroValue91,trivial,by kernel_rfl⟩,
   ⟨Tryz.underlying92,Tryz.sizeOf92,Tryz.zeroValue92,trivial,by kernel_rfl⟩,
   ⟨Tryz.underlying93,Tryz.sizeOf93,Tryz.zeroValue93,trivial,by kernel_rfl⟩,
   ⟨⟨_,Tryz.underlying94,rfl,rfl,Tryz.sizeOf93,rfl,trivial⟩,Tryz.sizeOf94,Tryz.zeroValue94,(by show Tryz.prog.stoodInHeld 94=false;kernel_rfl),by kernel_rfl⟩,
   ⟨⟨_,Tryz.underlying95,rfl,rfl,Tryz.sizeOf93,rfl,trivial⟩,Tryz.sizeOf95,Tryz.zeroValue95,(by show Tryz.prog.stoodInHeld 95=false;kernel_rfl),by kernel_rfl⟩,
   ⟨Tryz.underlying96,Tryz.sizeOf96,Tryz.zeroValue96,trivial,by kernel_rfl⟩,
   ⟨⟨_,Tryz.underlying97,rfl,rfl,Tryz.sizeOf96,rfl,rfl,rfl,Tryz.sizeOf3,rfl,trivial⟩,Tryz.sizeOf97,Tryz.zeroValue97,(by show Tryz.prog.stoodInHeld 97=false;kernel_rfl),by kernel_rfl⟩,
   ⟨⟨_,Tryz.underlying98,rfl,rfl,Tryz.sizeOf96,rfl,rfl,rfl,Tryz.sizeOf3,rfl,trivial⟩,Tryz.sizeOf98,Tryz.zeroValue98,(by show Tryz.prog.stoodInHeld 98=false;kernel_rfl),by kernel_rfl⟩,
   ⟨Tryz.underlying99,Tryz.sizeOf99,Tryz.zeroValue99,trivial,by kernel_rfl⟩,
   ⟨⟨_,Tryz.underlying100,rfl,rfl,Tryz.sizeOf99,rfl,trivial⟩,Tryz.sizeOf100,Tryz.zeroValue100,(by show Tryz.prog.stoodInHeld 100=false;kernel_rfl),by kernel_rfl⟩,
   ⟨⟨_,Tryz.underlying101,rfl,rfl,Tryz.sizeOf99,rfl,trivial⟩,Tryz.sizeOf101,Tryz.zeroValue101,(by show Tryz.prog.stoodInHeld 101=false;kernel_rfl),by kernel_rfl⟩,
   ⟨Tryz.underlying102,Tryz.sizeOf102,Tryz.zeroValue102,trivial,by kernel_rfl⟩,
   ⟨Tryz.underlying103,Tryz.sizeOf103,Tryz.zeroValue103,trivial,by kernel_rfl⟩,
   ⟨⟨_,Tryz.underlying104,rfl,rfl,Tryz.sizeOf65,rfl,rfl,rfl,Tryz.sizeOf3,rfl,trivial⟩,Tryz.sizeOf104,Tryz.zeroValue104,(by show Tryz.prog.stoodInHeld 104=false;kernel_rfl),by kernel_rfl⟩,
   ⟨⟨_,Tryz.underlying105,rfl,rfl,Tryz.sizeOf65,rfl,rfl,rfl,Tryz.sizeOf3,rfl,trivial⟩,Tryz.sizeOf105,Tryz.zeroValue105,(by show Tryz.prog.stoodInHeld 105=false;kernel_rfl),by kernel_rfl⟩,
   ⟨Tryz.underlying106,Tryz.sizeOf106,Tryz.zeroValue106,trivial,by kernel_rfl⟩,
   ⟨Tryz.underlying107,Tryz.sizeOf107,Tryz.zeroValue107,trivial,by kernel_rfl⟩,
   ⟨Tryz.underlying108,Tryz.sizeOf108,Tryz.zeroValue108,trivial,by kernel_rfl⟩,
   ⟨Tryz.underlying109,Tryz.sizeOf109,Tryz.zeroValue109,trivial,by kernel_rfl⟩,
   ⟨⟨_,Tryz.underlying110,rfl,rfl,Tryz.sizeOf87,rfl,rfl,rfl,Tryz.sizeOf89,rfl,rfl,rfl,Tryz.sizeOf90,rfl,rfl,rfl,Tryz.sizeOf91,rfl,rfl,rfl,Tryz.sizeOf92,rfl,rfl,rfl,Tryz.sizeOf95,rfl,rfl,rfl,Tryz.sizeOf98,rfl,rfl,rfl,Tryz.sizeOf101,rfl,rfl,rfl,Tryz.sizeOf102,rfl,rfl,rfl,Tryz.sizeOf103,rfl,rfl,rfl,Tryz.sizeOf105,rfl,rfl,rfl,Tryz.sizeOf106,rfl,rfl,rfl,Tryz.sizeOf107,rfl,rfl,rfl,Tryz.sizeOf108,rfl,rfl,rfl,Tryz.sizeOf3,rfl,rfl,rfl,Tryz.sizeOf3,rfl,rfl,rfl,Tryz.sizeOf3,rfl,rfl,rfl,Tryz.sizeOf109,rfl,rfl,rfl,Tryz.sizeOf3,rfl,rfl,rfl,Tryz.sizeOf4,rfl,rfl,rfl,Tryz.sizeOf3,rfl,trivial⟩,Tryz.sizeOf110,Tryz.zeroValue110,(by show Tryz.prog.stoodInHeld 110=false;kernel_rfl),by kernel_rfl⟩,
   ⟨⟨_,Tryz.underlying111,rfl,rfl,Tryz.sizeOf87,rfl,rfl,rfl,Tryz.sizeOf89,rfl,rfl,rfl,Tryz.sizeOf90,rfl,rfl,rfl,Tryz.sizeOf91,rfl,rfl,rfl,Tryz.sizeOf92,rfl,rfl,rfl,Tryz.sizeOf95,rfl,rfl,rfl,Tryz.sizeOf98,rfl,rfl,rfl,Tryz.sizeOf101,rfl,rfl,rfl,Tryz.sizeOf102,rfl,rfl,rfl,Tryz.sizeOf103,rfl,rfl,rfl,Tryz.sizeOf105,rfl,rfl,rfl,Tryz.sizeOf106,rfl,rfl,rfl,Tryz.sizeOf107,rfl,rfl,rfl,Tryz.sizeOf108,rfl,rfl,rfl,Tryz.sizeOf3,rfl,rfl,rfl,Tryz.sizeOf3,rfl,rfl,rfl,Tryz.sizeOf3,rfl,rfl,rfl,Tryz.sizeOf109,rfl,rfl,rfl,Tryz.sizeOf3,rfl,rfl,rfl,Tryz.sizeOf4,rfl,rfl,rfl,Tryz.sizeOf3,rfl,trivial⟩,Tryz.sizeOf111,Tryz.zeroValue111,(by show Tryz.prog.stoodInHeld 111=false;kernel_rfl),by kernel_rfl⟩,
   ⟨Tryz.underlying119,Tryz.sizeOf119,Tryz.zeroValue119,trivial,by kernel_rfl⟩,
   ⟨Tryz.underlying120,Tryz.sizeOf120,Tryz.zeroValue120,trivial,by kernel_rfl⟩,
   ⟨Tryz.underlying125,Tryz.sizeOf125,Tryz.zeroValue125,trivial,by kernel_rfl⟩,
   ⟨⟨_,Tryz.underlying127,rfl,rfl,Tryz.sizeOf125,rfl,trivial⟩,Tryz.sizeOf127,Tryz.zeroValue127,(by show Tryz.prog.stoodInHeld 127=false;kernel_rfl),by kernel_rfl⟩,
   ⟨⟨_,Tryz.underlying128,rfl,rfl,Tryz.sizeOf125,rfl,trivial⟩,Tryz.sizeOf128,Tryz.zeroValue128,(by show Tryz.prog.stoodInHeld 128=false;kernel_rfl),by kernel_rfl⟩,
   ⟨⟨_,_,_,Tryz.underlying130⟩,Tryz.sizeOf130,Tryz.zeroValue130,trivial,by kernel_rfl⟩,
   ⟨⟨_,Tryz.underlying134,rfl,rfl,Tryz.sizeOf3,rfl,rfl,rfl,Tryz.sizeOf3,rfl,trivial⟩,Tryz.sizeOf134,Tryz.zeroValue134,(by show Tryz.prog.stoodInHeld 134=false;kernel_rfl),by kernel_rfl⟩,
   ⟨⟨_,Tryz.underlying135,rfl,rfl,Tryz.sizeOf3,rfl,rfl,rfl,Tryz.sizeOf24,rfl,rfl,rfl,Tryz.sizeOf3,rfl,rfl,rfl,Tryz.sizeOf134,rfl,rfl,rfl,Tryz.sizeOf22,rfl,rfl,rfl,Tryz.sizeOf33,rfl,trivial⟩,Tryz.sizeOf135,Tryz.zeroValue135,(by show Tryz.prog.stoodInHeld 135=false;kernel_rfl),by kernel_rfl⟩,
   ⟨Tryz.underlying141,Tryz.sizeOf141,Tryz.zeroValue141,trivial,by kernel_rfl⟩,
   ⟨⟨_,Tryz.underlying147,rfl,rfl,Tryz.sizeOf31,rfl,rfl,rfl,Tryz.sizeOf4,rfl,rfl,rfl,Tryz.sizeOf3,rfl,rfl,rfl,Tryz.sizeOf3,rfl,rfl,rfl,Tryz.sizeOf3,rfl,trivial⟩,Tryz.sizeOf147,Tryz.zeroValue147,(by show Tryz.prog.stoodInHeld 147=false;kernel_rfl),by kernel_rfl⟩,
   ⟨⟨_,Tryz.underlying148,rfl,rfl,Tryz.sizeOf31,rfl,rfl,rfl,Tryz.sizeOf4,rfl,rfl,rfl,Tryz.sizeOf3,rfl,rfl,rfl,Tryz.sizeOf3,rfl,rfl,rfl,Tryz.sizeOf3,rfl,trivial⟩,Tryz.sizeOf148,Tryz.zeroValue148,(by show Tryz.prog.stoodInHeld 148=false;kernel_rfl),by kernel_rfl⟩,
   ⟨Tryz.underlying168,Tryz.sizeOf168,Tryz.zeroValue168,trivial,by kernel_rfl⟩,
   ⟨⟨_,Tryz.underlying169,rfl,rfl,Tryz.sizeOf46,rfl,rfl,rfl,Tryz.sizeOf26,rfl,trivial⟩,Tryz.sizeOf169,Tryz.zeroValue169,(by show Tryz.prog.stoodInHeld 169=false;kernel_rfl),by kernel_rfl⟩,
   ⟨⟨_,Tryz.underlying170,rfl,rfl,Tryz.sizeOf46,rfl,rfl,rfl,Tryz.sizeOf26,rfl,trivial⟩,Tryz.sizeOf170,Tryz.zeroValue170,(by show Tryz.prog.stoodInHeld 170=false;kernel_rfl),by kernel_rfl⟩,
   ⟨Tryz.underlying171,Tryz.sizeOf171,Tryz.zeroValue171,trivial,by kernel_rfl⟩,
   ⟨⟨_,Tryz.underlying172,rfl,rfl,Tryz.sizeOf168,rfl,rfl,rfl,Tryz.sizeOf85,rfl,rfl,rfl,Tryz.sizeOf120,rfl,rfl,rfl,Tryz.sizeOf78,rfl,rfl,rfl,Tryz.sizeOf171,rfl,trivial⟩,Tryz.sizeOf172,Tryz.zeroValue172,(by show Tryz.prog.stoodInHeld 172=false;kernel_rfl),by kernel_rfl⟩,
   ⟨⟨_,Tryz.underlying173,rfl,rfl,Tryz.sizeOf168,rfl,rfl,rfl,Tryz.sizeOf85,rfl,rfl,rfl,Tryz.sizeOf120,rfl,rfl,rfl,Tryz.sizeOf78,rfl,rfl,rfl,Tryz.sizeOf171,rfl,trivial⟩,Tryz.sizeOf173,Tryz.zeroValue173,(by show Tryz.prog.stoodInHeld 173=false;kernel_rfl),by kernel_rfl⟩,
   ⟨Tryz.underlying174,Tryz.sizeOf174,Tryz.zeroValue174,trivial,by kernel_rfl⟩,
   ⟨Tryz.underlying175,Tryz.sizeOf175,Tryz.zeroValue175,trivial,by kernel_rfl⟩,
   ⟨⟨_,Tryz.underlying176,rfl,rfl,Tryz.sizeOf73,rfl,rfl,rfl,Tryz.sizeOf174,rfl,rfl,rfl,Tryz.sizeOf175,rfl,trivial⟩,Tryz.sizeOf176,Tryz.zeroValue176,(by show Tryz.prog.stoodInHeld 176=false;kernel_rfl),by kernel_rfl⟩,
   ⟨⟨_,Tryz.underlying177,rfl,rfl,Tryz.sizeOf73,rfl,rfl,rfl,Tryz.sizeOf174,rfl,rfl,rfl,Tryz.sizeOf175,rfl,trivial⟩,Tryz.sizeOf177,Tryz.zeroValue177,(by show Tryz.prog.stoodInHeld 177=false;kernel_rfl),by kernel_rfl⟩,
   ⟨⟨_,Tryz.underlying183,rfl,rfl,Tryz.sizeOf87,rfl,rfl,rfl,Tryz.sizeOf3,rfl,rfl,rfl,Tryz.sizeOf3,rfl,rfl,rfl,Tryz.sizeOf3,rfl,rfl,rfl,Tryz.sizeOf3,rfl,rfl,rfl,Tryz.sizeOf119,rfl,trivial⟩,Tryz.sizeOf183,Tryz.zeroValue183,(by show Tryz.prog.stoodInHeld 183=false;kernel_rfl),by kernel_rfl⟩,
   ⟨⟨_,Tryz.underlying184,rfl,rfl,Tryz.sizeOf87,rfl,rfl,rfl,Tryz.sizeOf3,rfl,rfl,rfl,Tryz.sizeOf3,rfl,rfl,rfl,Tryz.sizeOf3,rfl,rfl,rfl,Tryz.sizeOf3,rfl,rfl,rfl,Tryz.sizeOf119,rfl,trivial⟩,Tryz.sizeOf184,Tryz.zeroValue184,(by show Tryz.prog.stoodInHeld 184=false;kernel_rfl),by kernel_rfl⟩,
   ⟨Tryz.underlying187,Tryz.sizeOf187,Tryz.zeroValue187,trivial,by kernel_rfl⟩,
   ⟨Tryz.underlying190,Tryz.sizeOf190,Tryz.zeroValue190,trivial,by kernel_rfl⟩,
   ⟨Tryz.underlying194,Tryz.sizeOf194,Tryz.zeroValue194,trivial,by kernel_rfl⟩,
   ⟨⟨_,Tryz.underlying195,rfl,rfl,Tryz.sizeOf170,rfl,rfl,rfl,Tryz.sizeOf141,rfl,rfl,rfl,Tryz.sizeOf3,rfl,trivial⟩,Tryz.sizeOf195,Tryz.zeroValue195,(by show Tryz.prog.stoodInHeld 195=false;kernel_rfl),by kernel_rfl⟩,
   ⟨⟨_,Tryz.underlying196,rfl,rfl,Tryz.sizeOf170,rfl,rfl,rfl,Tryz.sizeOf141,rfl,rfl,rfl,Tryz.sizeOf3,rfl,trivial⟩,Tryz.sizeOf196,Tryz.zeroValue196,(by show Tryz.prog.stoodInHeld 196=false;kernel_rfl),by kernel_rfl⟩,
   ⟨⟨_,_,_,Tryz.underlying197⟩,Tryz.sizeOf197,Tryz.zeroValue197,trivial,by kernel_rfl⟩,
   ⟨Tryz.underlying198,Tryz.sizeOf198,Tryz.zeroValue198,trivial,by kernel_rfl⟩,
   ⟨⟨_,Tryz.underlying199,rfl,rfl,Tryz.sizeOf198,rfl,trivial⟩,Tryz.sizeOf199,Tryz.zeroValue199,(by show Tryz.prog.stoodInHeld 199=false;kernel_rfl),by kernel_rfl⟩,
   ⟨⟨_,Tryz.underlying200,rfl,rfl,Tryz.sizeOf198,rfl,trivial⟩,Tryz.sizeOf200,Tryz.zeroValue200,(by show Tryz.prog.stoodInHeld 200=false;kernel_rfl),by kernel_rfl⟩,
   ⟨⟨_,_,_,Tryz.underlying213⟩,Tryz.sizeOf213,Tryz.zeroValue213,trivial,by kernel_rfl⟩,
   ⟨Tryz.underlying216,Tryz.sizeOf216,Tryz.zeroValue216,trivial,by kernel_rfl⟩,
   ⟨Tryz.underlying217,Tryz.sizeOf217,Tryz.zeroValue217,trivial,by kernel_rfl⟩,
   ⟨⟨_,Tryz.underlying218,rfl,rfl,Tryz.sizeOf217,rfl,rfl,rfl,Tryz.sizeOf190,rfl,trivial⟩,Tryz.sizeOf218,Tryz.zeroValue218,(by show Tryz.prog.stoodInHeld 218=false;kernel_rfl),by kernel_rfl⟩,
   ⟨⟨_,Tryz.underlying219,rfl,rfl,Tryz.sizeOf217,rfl,rfl,rfl,Tryz.sizeOf190,rfl,trivial⟩,Tryz.sizeOf219,Tryz.zeroValue219,(by show Tryz.prog.stoodInHeld 219=false;kernel_rfl),by kernel_rfl⟩,
   ⟨Tryz.underlying220,Tryz.sizeOf220,Tryz.zeroValue220,trivial,by kernel_rfl⟩,
   ⟨⟨_,Tryz.underlying221,rfl,rfl,Tryz.sizeOf219,rfl,rfl,rfl,Tryz.sizeOf220,rfl,rfl,rfl,Tryz.sizeOf119,rfl,trivial⟩,Tryz.sizeOf221,Tryz.zeroValue221,(by show Tryz.prog.stoodInHeld 221=false;kernel_rfl),by kernel_rfl⟩,
   ⟨⟨_,Tryz.underlying222,rfl,rfl,Tryz.sizeOf219,rfl,rfl,rfl,Tryz.sizeOf220,rfl,rfl,rfl,Tryz.sizeOf119,rfl,trivial⟩,Tryz.sizeOf222,Tryz.zeroValue222,(by show Tryz.prog.stoodInHeld 222=false;kernel_rfl),by kernel_rfl⟩,
   ⟨Tryz.underlying224,Tryz.sizeOf224,Tryz.zeroValue224,trivial,by kernel_rfl⟩,
   ⟨⟨_,Tryz.underlying226,rfl,rfl,Tryz.sizeOf3,rfl,rfl,rfl,Tryz.sizeOf3,rfl,rfl,rfl,Tryz.sizeOf3,rfl,rfl,rfl,Tryz.sizeOf22,rfl,trivial⟩,Tryz.sizeOf226,Tryz.zeroValue226,(by show Tryz.prog.stoodInHeld 226=false;kernel_rfl),by kernel_rfl⟩,
   ⟨⟨_,Tryz.underlying227,rfl,rfl,Tryz.sizeOf3,rfl,rfl,rfl,Tryz.sizeOf3,rfl,rfl,rfl,Tryz.sizeOf3,rfl,rfl,rfl,Tryz.sizeOf22,rfl,trivial⟩,Tryz.sizeOf227,Tryz.zeroValue227,(by show Tryz.prog.stoodInHeld 227=false;kernel_rfl),by kernel_rfl⟩,
   ⟨⟨_,Tryz.underlying229,rfl,rfl,Tryz.sizeOf22,rfl,rfl,rfl,Tryz.sizeOf49,rfl,trivial⟩,Tryz.sizeOf229,Tryz.zeroValue229,(by show Tryz.prog.stoodInHeld 229=false;kernel_rfl),by kernel_rfl⟩,
   ⟨⟨_,Tryz.underlying230,rfl,rfl,Tryz.sizeOf22,rfl,rfl,rfl,Tryz.sizeOf49,rfl,trivial⟩,Tryz.sizeOf230,Tryz.zeroValue230,(by show Tryz.prog.stoodInHeld 230=false;kernel_rfl),by kernel_rfl⟩,
   ⟨⟨_,Tryz.underlying231,rfl,rfl,Tryz.sizeOf230,rfl,trivial⟩,Tryz.sizeOf231,Tryz.zeroValue231,(by show Tryz.prog.stoodInHeld 231=false;kernel_rfl),by kernel_rfl⟩,
   ⟨⟨_,Tryz.underlying232,rfl,rfl,Tryz.sizeOf230,rfl,trivial⟩,Tryz.sizeOf232,Tryz.zeroValue232,(by show Tryz.prog.stoodInHeld 232=false;kernel_rfl),by kernel_rfl⟩,
   ⟨⟨_,Tryz.underlying234,rfl,rfl,Tryz.sizeOf3,rfl,rfl,rfl,Tryz.sizeOf3,rfl,rfl,rfl,Tryz.sizeOf22,rfl,trivial⟩,Tryz.sizeOf234,Tryz.zeroValue234,(by show Tryz.prog.stoodInHeld 234=false;kernel_rfl),by kernel_rfl⟩,
   ⟨⟨_,Tryz.underlying235,rfl,rfl,Tryz.sizeOf3,rfl,rfl,rfl,Tryz.sizeOf3,rfl,rfl,rfl,Tryz.sizeOf22,rfl,trivial⟩,Tryz.sizeOf235,Tryz.zeroValue235,(by show Tryz.prog.stoodInHeld 235=false;kernel_rfl),by kernel_rfl⟩,
   ⟨Tryz.underlying246,Tryz.sizeOf246,Tryz.zeroValue246,trivial,by kernel_rfl⟩,
   ⟨⟨_,Tryz.underlying247,rfl,rfl,Tryz.sizeOf246,rfl,trivial⟩,Tryz.sizeOf247,Tryz.zeroValue247,(by show Tryz.prog.stoodInHeld 247=false;kernel_rfl),by kernel_rfl⟩,
   ⟨⟨_,Tryz.underlying248,rfl,rfl,Tryz.sizeOf246,rfl,trivial⟩,Tryz.sizeOf248,Tryz.zeroValue248,(by show Tryz.prog.stoodInHeld 248=false;kernel_rfl),by kernel_rfl⟩,
   ⟨⟨_,Tryz.underlying254,rfl,rfl,Tryz.sizeOf3,rfl,rfl,rfl,Tryz.sizeOf3,rfl,rfl,rfl,Tryz.sizeOf3,rfl,rfl,rfl,Tryz.sizeOf22,rfl,trivial⟩,Tryz.sizeOf254,Tryz.zeroValue254,(by show Tryz.prog.stoodInHeld 254=false;kernel_rfl),by kernel_rfl⟩,
   ⟨⟨_,Tryz.underlying255,rfl,rfl,Tryz.sizeOf3,rfl,rfl,rfl,Tryz.sizeOf3,rfl,rfl,rfl,Tryz.sizeOf3,rfl,rfl,rfl,Tryz.sizeOf22,rfl,trivial⟩,Tryz.sizeOf255,Tryz.zeroValue255,(by show Tryz.prog.stoodInHeld 255=false;kernel_rfl),by kernel_rfl⟩,
   ⟨⟨_,Tryz.underlying257,rfl,rfl,Tryz.sizeOf227,rfl,rfl,rfl,Tryz.sizeOf22,rfl,rfl,rfl,Tryz.sizeOf4,rfl,trivial⟩,Tryz.sizeOf257,Tryz.zeroValue257,(by show Tryz.prog.stoodInHeld 257=false;kernel_rfl),by kernel_rfl⟩,
   ⟨⟨_,Tryz.underlying258,rfl,rfl,Tryz.sizeOf227,rfl,rfl,rfl,Tryz.sizeOf22,rfl,rfl,rfl,Tryz.sizeOf4,rfl,trivial⟩,Tryz.sizeOf258,Tryz.zeroValue258,(by show Tryz.prog.stoodInHeld 258=false;kernel_rfl),by kernel_rfl⟩,
   ⟨⟨_,_,_,Tryz.underlying260⟩,Tryz.sizeOf260,Tryz.zeroValue260,trivial,by kernel_rfl⟩,
   ⟨⟨_,_,_,Tryz.underlying261⟩,Tryz.sizeOf261,Tryz.zeroValue261,trivial,by kernel_rfl⟩,
   ⟨Tryz.underlying263,Tryz.sizeOf263,Tryz.zeroValue263,trivial,by kernel_rfl⟩,
   ⟨⟨_,Tryz.underlying264,rfl,rfl,Tryz.sizeOf31,rfl,rfl,rfl,Tryz.sizeOf263,rfl,trivial⟩,Tryz.sizeOf264,Tryz.zeroValue264,(by show Tryz.prog.stoodInHeld 264=false;kernel_rfl),by kernel_rfl⟩,
   ⟨⟨_,Tryz.underlying265,rfl,rfl,Tryz.sizeOf31,rfl,rfl,rfl,Tryz.sizeOf263,rfl,trivial⟩,Tryz.sizeOf265,Tryz.zeroValue265,(by show Tryz.prog.stoodInHeld 265=false;kernel_rfl),by kernel_rfl⟩,
   ⟨Tryz.underlying268,Tryz.sizeOf268,Tryz.zeroValue268,trivial,by kernel_rfl⟩,
   ⟨Tryz.underlying269,Tryz.sizeOf269,Tryz.zeroValue269,trivial,by kernel_rfl⟩,
   ⟨Tryz.underlying271,Tryz.sizeOf271,Tryz.zeroValue271,trivial,by kernel_rfl⟩,
   ⟨⟨_,Tryz.underlying273,rfl,rfl,Tryz.sizeOf3,rfl,rfl,rfl,Tryz.sizeOf3,rfl,rfl,rfl,Tryz.sizeOf3,rfl,rfl,rfl,Tryz.sizeOf3,rfl,trivial⟩,Tryz.sizeOf273,Tryz.zeroValue273,(by show Tryz.prog.stoodInHeld 273=false;kernel_rfl),by kernel_rfl⟩,
   ⟨⟨_,Tryz.underlying274,rfl,rfl,Tryz.sizeOf3,rfl,rfl,rfl,Tryz.sizeOf3,rfl,rfl,rfl,Tryz.sizeOf3,rfl,rfl,rfl,Tryz.sizeOf3,rfl,trivial⟩,Tryz.sizeOf274,Tryz.zeroValue274,(by show Tryz.prog.stoodInHeld 274=false;kernel_rfl),by kernel_rfl⟩,
   ⟨⟨_,_,_,Tryz.underlying276⟩,Tryz.sizeOf276,Tryz.zeroValue276,trivial,by kernel_rfl⟩,
   ⟨⟨_,_,_,Tryz.underlying279⟩,Tryz.sizeOf279,Tryz.zeroValue279,trivial,by kernel_rfl⟩,
   ⟨Tryz.underlying286,Tryz.sizeOf286,Tryz.zeroValue286,trivial,by kernel_rfl⟩,
   ⟨⟨_,Tryz.underlying289,rfl,rfl,Tryz.sizeOf286,rfl,rfl,rfl,Tryz.sizeOf31,rfl,rfl,rfl,Tryz.sizeOf119,rfl,trivial⟩,Tryz.sizeOf289,Tryz.zeroValue289,(by show Tryz.prog.stoodInHeld 289=false;kernel_rfl),by kernel_rfl⟩,
   ⟨⟨_,Tryz.underlying290,rfl,rfl,Tryz.sizeOf286,rfl,rfl,rfl,Tryz.sizeOf31,rfl,rfl,rfl,Tryz.sizeOf119,rfl,trivial⟩,Tryz.sizeOf290,Tryz.zeroValue290,(by show Tryz.prog.stoodInHeld 290=false;kernel_rfl),by kernel_rfl⟩,
   ⟨Tryz.underlying291,Tryz.sizeOf291,Tryz.zeroValue291,trivial,by kernel_rfl⟩,
   ⟨⟨_,Tryz.underlying292,rfl,rfl,Tryz.sizeOf81,rfl,rfl,rfl,Tryz.sizeOf291,rfl,rfl,rfl,Tryz.sizeOf3,rfl,rfl,rfl,Tryz.sizeOf4,rfl,trivial⟩,Tryz.sizeOf292,Tryz.zeroValue292,(by show Tryz.prog.stoodInHeld 292=false;kernel_rfl),by kernel_rfl⟩,
   ⟨⟨_,Tryz.underlying293,rfl,rfl,Tryz.sizeOf81,rfl,rfl,rfl,Tryz.sizeOf291,rfl,rfl,rfl,Tryz.sizeOf3,rfl,rfl,rfl,Tryz.sizeOf4,rfl,trivial⟩,Tryz.sizeOf293,Tryz.zeroValue293,(by show Tryz.prog.stoodInHeld 293=false;kernel_rfl),by kernel_rfl⟩,
   ⟨Tryz.underlying294,Tryz.sizeOf294,Tryz.zeroValue294,trivial,by kernel_rfl⟩,
   ⟨⟨_,Tryz.underlying295,rfl,rfl,Tryz.sizeOf294,rfl,trivial⟩,Tryz.sizeOf295,Tryz.zeroValue295,(by show Tryz.prog.stoodInHeld 295=false;kernel_rfl),by kernel_rfl⟩,
   ⟨⟨_,Tryz.underlying296,rfl,rfl,Tryz.sizeOf294,rfl,trivial⟩,Tryz.sizeOf296,Tryz.zeroValue296,(by show Tryz.prog.stoodInHeld 296=false;kernel_rfl),by kernel_rfl⟩,
   ⟨⟨_,Tryz.underlying297,rfl,rfl,Tryz.sizeOf26,rfl,trivial⟩,Tryz.sizeOf297,Tryz.zeroValue297,(by show Tryz.prog.stoodInHeld 297=false;kernel_rfl),by kernel_rfl⟩,
   ⟨⟨_,Tryz.underlying298,rfl,rfl,Tryz.sizeOf26,rfl,trivial⟩,Tryz.sizeOf298,Tryz.zeroValue298,(by show Tryz.prog.stoodInHeld 298=false;kernel_rfl),by kernel_rfl⟩,
   ⟨⟨_,_,_,Tryz.underlying299⟩,Tryz.sizeOf299,Tryz.zeroValue299,trivial,by kernel_rfl⟩,
   ⟨Tryz.underlying300,Tryz.sizeOf300,Tryz.zeroValue300,trivial,by kernel_rfl⟩,
   ⟨⟨_,_,_,Tryz.underlying315⟩,Tryz.sizeOf315,Tryz.zeroValue315,trivial,by kernel_rfl⟩,
   ⟨Tryz.underlying316,Tryz.sizeOf316,Tryz.zeroValue316,trivial,by kernel_rfl⟩,
   ⟨Tryz.underlying318,Tryz.sizeOf318,Tryz.zeroValue318,trivial,by kernel_rfl⟩,
   ⟨⟨_,Tryz.underlying319,rfl,rfl,Tryz.sizeOf3,rfl,rfl,rfl,Tryz.sizeOf318,rfl,trivial⟩,Tryz.sizeOf319,Tryz.zeroValue319,(by show Tryz.prog.stoodInHeld 319=false;kernel_rfl),by kernel_rfl⟩,
   ⟨⟨_,Tryz.underlying320,rfl,rfl,Tryz.sizeOf3,rfl,rfl,rfl,Tryz.sizeOf318,rfl,trivial⟩,Tryz.sizeOf320,Tryz.zeroValue320,(by show Tryz.prog.stoodInHeld 320=false;kernel_rfl),by kernel_rfl⟩,
   ⟨⟨_,_,_,Tryz.underlying323⟩,Tryz.sizeOf323,Tryz.zeroValue323,trivial,by kernel_rfl⟩,
   ⟨Tryz.underlying325,Tryz.sizeOf325,Tryz.zeroValue325,trivial,by kernel_rfl⟩,
   ⟨Tryz.underlying326,Tryz.sizeOf326,Tryz.zeroValue326,trivial,by kernel_rfl⟩,
   ⟨Tryz.underlying327,Tryz.sizeOf327,Tryz.zeroValue327,trivial,by kernel_rfl⟩,
   ⟨⟨_,Tryz.underlying336,rfl,rfl,Tryz.sizeOf3,rfl,rfl,rfl,Tryz.sizeOf3,rfl,rfl,rfl,Tryz.sizeOf190,rfl,trivial⟩,Tryz.sizeOf336,Tryz.zeroValue336,(by show Tryz.prog.stoodInHeld 336=false;kernel_rfl),by kernel_rfl⟩,
   ⟨⟨_,Tryz.underlying337,rfl,rfl,Tryz.sizeOf3,rfl,rfl,rfl,Tryz.sizeOf3,rfl,rfl,rfl,Tryz.sizeOf190,rfl,trivial⟩,Tryz.sizeOf337,Tryz.zeroValue337,(by show Tryz.prog.stoodInHeld 337=false;kernel_rfl),by kernel_rfl⟩,
   ⟨⟨_,_,_,Tryz.underlying338⟩,Tryz.sizeOf338,Tryz.zeroValue338,trivial,by kernel_rfl⟩,
   ⟨⟨_,_,_,Tryz.underlying344⟩,Tryz.sizeOf344,Tryz.zeroValue344,trivial,by kernel_rfl⟩,
   ⟨⟨_,Tryz.underlying345,rfl,rfl,Tryz.sizeOf22,rfl,rfl,rfl,Tryz.sizeOf49,rfl,trivial⟩,Tryz.sizeOf345,Tryz.zeroValue345,(by show Tryz.prog.stoodInHeld 345=false;kernel_rfl),by kernel_rfl⟩,
   ⟨Tryz.underlying346,Tryz.sizeOf346,Tryz.zeroValue346,trivial,by kernel_rfl⟩,
   ⟨⟨_,Tryz.underlying350,rfl,rfl,Tryz.sizeOf3,rfl,rfl,rfl,Tryz.sizeOf4,rfl,trivial⟩,Tryz.sizeOf350,Tryz.zeroValue350,(by show Tryz.prog.stoodInHeld 350=false;kernel_rfl),by kernel_rfl⟩,
   ⟨⟨_,Tryz.underlying351,rfl,rfl,Tryz.sizeOf3,rfl,rfl,rfl,Tryz.sizeOf4,rfl,trivial⟩,Tryz.sizeOf351,Tryz.zeroValue351,(by show Tryz.prog.stoodInHeld 351=false;kernel_rfl),by kernel_rfl⟩,
   ⟨⟨_,_,_,Tryz.underlying352⟩,Tryz.sizeOf352,Tryz.zeroValue352,trivial,by kernel_rfl⟩,
   ⟨Tryz.underlying354,Tryz.sizeOf354,Tryz.zeroValue354,trivial,by kernel_rfl⟩,
   ⟨⟨_,Tryz.underlying356,rfl,rfl,Tryz.sizeOf3,rfl,rfl,rfl,Tryz.sizeOf31,rfl,rfl,rfl,Tryz.sizeOf3,rfl,trivial⟩,Tryz.sizeOf356,Tryz.zeroValue356,(by show Tryz.prog.stoodInHeld 356=false;kernel_rfl),by kernel_rfl⟩,
   ⟨⟨_,Tryz.underlying357,rfl,rfl,Tryz.sizeOf3,rfl,rfl,rfl,Tryz.sizeOf31,rfl,rfl,rfl,Tryz.sizeOf3,rfl,trivial⟩,Tryz.sizeOf357,Tryz.zeroValue357,(by show Tryz.prog.stoodInHeld 357=false;kernel_rfl),by kernel_rfl⟩,
   ⟨Tryz.underlying358,Tryz.sizeOf358,Tryz.zeroValue358,trivial,by kernel_rfl⟩,
   ⟨Tryz.underlying367,Tryz.sizeOf367,Tryz.zeroValue367,trivial,by kernel_rfl⟩,
   ⟨⟨_,Tryz.underlying369,rfl,rfl,Tryz.sizeOf3,rfl,rfl,rfl,Tryz.sizeOf3,rfl,rfl,rfl,Tryz.sizeOf3,rfl,trivial⟩,Tryz.sizeOf369,Tryz.zeroValue369,(by show Tryz.prog.stoodInHeld 369=false;kernel_rfl),by kernel_rfl⟩,
   ⟨⟨_,Tryz.underlying370,rfl,rfl,Tryz.sizeOf3,rfl,rfl,rfl,Tryz.sizeOf3,rfl,rfl,rfl,Tryz.sizeOf3,rfl,trivial⟩,Tryz.sizeOf370,Tryz.zeroValue370,(by show Tryz.prog.stoodInHeld 370=false;kernel_rfl),by kernel_rfl⟩,
   ⟨Tryz.underlying371,Tryz.sizeOf371,Tryz.zeroValue371,trivial,by kernel_rfl⟩,
   ⟨Tryz.underlying377,Tryz.sizeOf377,Tryz.zeroValue377,trivial,by kernel_rfl⟩,
   ⟨Tryz.underlying383,Tryz.sizeOf383,Tryz.zeroValue383,trivial,by kernel_rfl⟩,
   ⟨Tryz.underlying390,Tryz.sizeOf390,Tryz.zeroValue390,trivial,by kernel_rfl⟩,
   ⟨⟨_,_,_,Tryz.underlying393⟩,Tryz.sizeOf393,Tryz.zeroValue393,trivial,by kernel_rfl⟩,
   ⟨⟨_,Tryz.underlying399,rfl,rfl,Tryz.sizeOf46,rfl,trivial⟩,Tryz.sizeOf399,Tryz.zeroValue399,(by show Tryz.prog.stoodInHeld 399=false;kernel_rfl),by kernel_rfl⟩,
   ⟨⟨_,Tryz.underlying400,rfl,rfl,Tryz.sizeOf46,rfl,trivial⟩,Tryz.sizeOf400,Tryz.zeroValue400,(by show Tryz.prog.stoodInHeld 400=false;kernel_rfl),by kernel_rfl⟩,
   ⟨Tryz.underlying401,Tryz.sizeOf401,Tryz.zeroValue401,trivial,by kernel_rfl⟩,
   ⟨⟨_,Tryz.underlying402,rfl,rfl,Tryz.sizeOf3,rfl,rfl,rfl,Tryz.sizeOf401,rfl,trivial⟩,Tryz.sizeOf402,Tryz.zeroValue402,(by show Tryz.prog.stoodInHeld 402=false;kernel_rfl),by kernel_rfl⟩,
   ⟨⟨_,Tryz.underlying403,rfl,rfl,Tryz.sizeOf3,rfl,rfl,rfl,Tryz.sizeOf401,rfl,trivial⟩,Tryz.sizeOf403,Tryz.zeroValue403,(by show Tryz.prog.stoodInHeld 403=false;kernel_rfl),by kernel_rfl⟩,
   ⟨⟨_,Tryz.underlying404,rfl,rfl,Tryz.sizeOf37,rfl,trivial⟩,Tryz.sizeOf404,Tryz.zeroValue404,(by show Tryz.prog.stoodInHeld 404=false;kernel_rfl),by kernel_rfl⟩,
   ⟨⟨_,Tryz.underlying405,rfl,rfl,Tryz.sizeOf37,rfl,trivial⟩,Tryz.sizeOf405,Tryz.zeroValue405,(by show Tryz.prog.stoodInHeld 405=false;kernel_rfl),by kernel_rfl⟩,
   ⟨⟨_,_,_,Tryz.underlying409⟩,Tryz.sizeOf409,Tryz.zeroValue409,trivial,by kernel_rfl⟩,
   ⟨Tryz.underlying410,Tryz.sizeOf410,Tryz.zeroValue410,trivial,by kernel_rfl⟩,
   ⟨⟨_,Tryz.underlying419,rfl,rfl,Tryz.sizeOf217,rfl,rfl,rfl,Tryz.sizeOf37,rfl,trivial⟩,Tryz.sizeOf419,Tryz.zeroValue419,(by show Tryz.prog.stoodInHeld 419=false;kernel_rfl),by kernel_rfl⟩,
   ⟨⟨_,Tryz.underlying420,rfl,rfl,Tryz.sizeOf217,rfl,rfl,rfl,Tryz.sizeOf37,rfl,trivial⟩,Tryz.sizeOf420,Tryz.zeroValue420,(by show Tryz.prog.stoodInHeld 420=false;kernel_rfl),by kernel_rfl⟩,
   ⟨⟨_,_,_,Tryz.underlying426⟩,Tryz.sizeOf426,Tryz.zeroValue426,trivial,by kernel_rfl⟩,
   ⟨⟨_,_,_,Tryz.underlying427⟩,Tryz.sizeOf427,Tryz.zeroValue427,trivial,by kernel_rfl⟩,
   ⟨⟨_,Tryz.underlying437,rfl,rfl,Tryz.sizeOf357,rfl,rfl,rfl,Tryz.sizeOf3,rfl,trivial⟩,Tryz.sizeOf437,Tryz.zeroValue437,(by show Tryz.prog.stoodInHeld 437=false;kernel_rfl),by kernel_rfl⟩,
   ⟨⟨_,Tryz.underlying438,rfl,rfl,Tryz.sizeOf357,rfl,rfl,rfl,Tryz.sizeOf3,rfl,trivial⟩,Tryz.sizeOf438,Tryz.zeroValue438,(by show Tryz.prog.stoodInHeld 438=false;kernel_rfl),by kernel_rfl⟩,
   ⟨Tryz.underlying439,Tryz.sizeOf439,Tryz.zeroValue439,trivial,by kernel_rfl⟩,
   ⟨Tryz.underlying446,Tryz.sizeOf446,Tryz.zeroValue446,trivial,by kernel_rfl⟩,
   ⟨⟨_,Tryz.underlying447,rfl,rfl,Tryz.sizeOf446,rfl,trivial⟩,Tryz.sizeOf447,Tryz.zeroValue447,(by show Tryz.prog.stoodInHeld 447=false;kernel_rfl),by kernel_rfl⟩,
   ⟨⟨_,Tryz.underlying448,rfl,rfl,Tryz.sizeOf446,rfl,trivial⟩,Tryz.sizeOf448,Tryz.zeroValue448,(by show Tryz.prog.stoodInHeld 448=false;kernel_rfl),by kernel_rfl⟩,
   ⟨⟨_,Tryz.underlying449,rfl,rfl,Tryz.sizeOf448,rfl,rfl,rfl,Tryz.sizeOf4,rfl,rfl,rfl,Tryz.sizeOf22,rfl,rfl,rfl,Tryz.sizeOf3,rfl,trivial⟩,Tryz.sizeOf449,Tryz.zeroValue449,(by show Tryz.prog.stoodInHeld 449=false;kernel_rfl),by kernel_rfl⟩,
   ⟨⟨_,Tryz.underlying450,rfl,rfl,Tryz.sizeOf448,rfl,rfl,rfl,Tryz.sizeOf4,rfl,rfl,rfl,Tryz.sizeOf22,rfl,rfl,rfl,Tryz.sizeOf3,rfl,trivial⟩,Tryz.sizeOf450,Tryz.zeroValue450,(by show Tryz.prog.stoodInHeld 450=false;kernel_rfl),by kernel_rfl⟩,
   ⟨Tryz.underlying451,Tryz.sizeOf451,Tryz.zeroValue451,trivial,by kernel_rfl⟩,
   ⟨⟨_,_,_,Tryz.underlying454⟩,Tryz.sizeOf454,Tryz.zeroValue454,trivial,by kernel_rfl⟩,
   ⟨Tryz.underlying459,Tryz.sizeOf459,Tryz.zeroValue459,trivial,by kernel_rfl⟩,
   ⟨Tryz.underlying462,Tryz.sizeOf462,Tryz.zeroValue462,trivial,by kernel_rfl⟩,
   ⟨⟨_,_,_,Tryz.underlying471⟩,Tryz.sizeOf471,Tryz.zeroValue471,trivial,by kernel_rfl⟩,
   ⟨⟨_,_,_,Tryz.underlying472⟩,Tryz.sizeOf472,Tryz.zeroValue472,trivial,by kernel_rfl⟩,
   ⟨Tryz.underlying496,Tryz.sizeOf496,Tryz.zeroValue496,trivial,by kernel_rfl⟩,
   ⟨⟨_,_,_,Tryz.underlying503⟩,Tryz.sizeOf503,Tryz.zeroValue503,trivial,by kernel_rfl⟩,
   ⟨Tryz.underlying506,Tryz.sizeOf506,Tryz.zeroValue506,trivial,by kernel_rfl⟩,
   ⟨Tryz.underlying514,Tryz.sizeOf514,Tryz.zeroValue514,trivial,by kernel_rfl⟩,
   ⟨Tryz.underlying532,Tryz.sizeOf532,Tryz.zeroValue532,trivial,by kernel_rfl⟩,
   ⟨Tryz.underlying534,Tryz.sizeOf534,Tryz.zeroValue534,trivial,by kernel_rfl⟩,
   ⟨Tryz.underlying536,Tryz.sizeOf536,Tryz.zeroValue536,trivial,by kernel_rfl⟩,
   ⟨Tryz.underlying547,Tryz.sizeOf547,Tryz.zeroValue547,trivial,by kernel_rfl⟩,
   ⟨⟨_,_,_,Tryz.underlying551⟩,Tryz.sizeOf551,Tryz.zeroValue551,trivial,by kernel_rfl⟩,
   ⟨⟨_,Tryz.underlying559,rfl,rfl,Tryz.sizeOf3,rfl,rfl,rfl,Tryz.sizeOf3,rfl,trivial⟩,Tryz.sizeOf559,Tryz.zeroValue559,(by show Tryz.prog.stoodInHeld 559=false;kernel_rfl),by kernel_rfl⟩,
   ⟨⟨_,Tryz.underlying560,rfl,rfl,Tryz.sizeOf3,rfl,rfl,rfl,Tryz.sizeOf3,rfl,trivial⟩,Tryz.sizeOf560,Tryz.zeroValue560,(by show Tryz.prog.stoodInHeld 560=false;kernel_rfl),by kernel_rfl⟩,
   ⟨Tryz.underlying574,Tryz.sizeOf574,Tryz.zeroValue574,trivial,by kernel_rfl⟩,
   ⟨Tryz.underlying575,Tryz.sizeOf575,Tryz.zeroValue575,trivial,by kernel_rfl⟩,
   ⟨⟨_,_,_,Tryz.underlying576⟩,Tryz.sizeOf576,Tryz.zeroValue576,trivial,by kernel_rfl⟩,
   ⟨Tryz.underlying577,Tryz.sizeOf577,Tryz.zeroValue577,trivial,by kernel_rfl⟩,
   ⟨Tryz.underlying578,Tryz.sizeOf578,Tryz.zeroValue578,trivial,by kernel_rfl⟩,
   ⟨Tryz.underlying579,Tryz.sizeOf579,Tryz.zeroValue579,trivial,by kernel_rfl⟩,
   ⟨⟨_,Tryz.underlying583,rfl,rfl,Tryz.sizeOf24,rfl,rfl,rfl,Tryz.sizeOf4,rfl,rfl,rfl,Tryz.sizeOf3,rfl,rfl,rfl,Tryz.sizeOf22,rfl,rfl,rfl,Tryz.sizeOf35,rfl,trivial⟩,Tryz.sizeOf583,Tryz.zeroValue583,(by show Tryz.prog.stoodInHeld 583=false;kernel_rfl),by kernel_rfl⟩,
   ⟨⟨_,Tryz.underlying584,rfl,rfl,Tryz.sizeOf24,rfl,rfl,rfl,Tryz.sizeOf4,rfl,rfl,rfl,Tryz.sizeOf3,rfl,rfl,rfl,Tryz.sizeOf22,rfl,rfl,rfl,Tryz.sizeOf35,rfl,trivial⟩,Tryz.sizeOf584,Tryz.zeroValue584,(by show Tryz.prog.stoodInHeld 584=false;kernel_rfl),by kernel_rfl⟩,
   trivial⟩
set_option maxRecDepth 100000 in
theorem fnsGood:FGoods Tryz.prog [5,8,9,10,11,14,15,17,18,19,20,21,22,23,24,25,26,27,28,29,31,32,33,34,35,36,37,38,39,40,41,42,43,44,45,46,47,48,49,50,51,52,53,54,55,56,57,58,59,60,63,64,65,66,67,68,69,70,71,72,73,74,75,76,77,78,79,80,81,82,83,84,85,86,87,88,89,90,91,92,93,94,95,96,97,98,99,100,101,102,103,104,105,106,107,108,109,110,111,112,113,114,115,116,117,118,119,120,121,122,123,124,125,126,127,128,129,130,131,132,133,134,135,136,137,138,139,142,143,144,145,146,147,148,149,150,151,152,153,154,155,156,157,158,159,160,161,162,163,164,165,166,167,168,169,170,171,172,173,174,175,176,177,178,179,180,181,182,183,184,185,186,187,188,189,190,191,192,193,194,195,196,197,198,199,200,201,202,203,204,205,206,207,208,209,210,211,212,213,214,215,216,217,218,219,220,221,222,223,224,225,226,227,228,229,230,231,232,233,234,235,236,237,240,241,242,243,244,245,246,247,248,249,250,251,252,253,254,255,256,257,258,259,260,261,262,263,264,265,266,267,268,269,270,271,272,273,274,275,276,277,278,279,280,281,282,283,284,285,286,287,288,289,290,291,292,293,294,295,296,297,298,299,300,301,302,303,304,305,306,307,308,309,310,311,312,313,314,315,317,318,319,320,321,322,323,324,325,326,327,328,329,330,331,332,333,334,335,336,337,338,339,340,341,342,343,344,345,346,347,348,349,350,351,352,353,354,355,356,357,358,359,360,361,362,363,364,365,366,367,368,369,370,371,372,373,374,375,376,377,378,379,380,381,382,383,384,385,386,387,388,389,390,391,392,393,394,395,396,397,398,399,400,401,402,403,404,406,407,408,409,410,411,412,413,414,415,416,417,418,419,420,421,422,423,424,425,426,427,428,429,430,431,432,433,434,435,436,437,438,439,440,441,442,443,444,445,446,447,448] :=
  ⟨enters_of Tryz.func5 (by kernel_rfl) rfl,
   enters_of Tryz.func8 (by kernel_rfl) rfl,
   enters_of Tryz.func9 (by kernel_rfl) rfl,
   enters_of Tryz.func10 (by kernel_rfl) rfl,
   enters_of Tryz.func11 (by kernel_rfl) rfl,
   enters_of Tryz.func14 (by kernel_rfl) rfl,
   enters_of Tryz.func15 (by kernel_rfl) rfl,
   enters_of Tryz.func17 (by kernel_rfl) rfl,
   enters_of Tryz.func18 (by kernel_rfl) rfl,
   enters_of Tryz.func19 (by kernel_rfl) rfl,
   enters_of Tryz.func20 (by kernel_rfl) rfl,
   enters_of Tryz.func21 (by kernel_rfl) rfl,
   enters_of Tryz.func22 (by kernel_rfl) rfl,
   enters_of Tryz.func23 (by kernel_rfl) rfl,
   enters_of Tryz.func24 (by kernel_rfl) rfl,
   enters_of Tryz.func25 (by kernel_rfl) rfl,
   enters_of Tryz.func26 (by kernel_rfl) rfl,
   enters_of Tryz.func27 (by kernel_rfl) rfl,
   enters_of Tryz.func28 (by kernel_rfl) rfl,
   enters_of Tryz.func29 (by kernel_rfl) rfl,
   enters_of Tryz.func31 (by kernel_rfl) rfl,
   enters_of Tryz.func32 (by kernel_rfl) rfl,
   enters_of Tryz.func33 (by kernel_rfl) rfl,
   enters_of Tryz.func34 (by kernel_rfl) rfl,
   enters_of Tryz.func35 (by kernel_rfl) rfl,
   enters_of Tryz.func36 (by kernel_rfl) rfl,
   enters_of Tryz.func37 (by kernel_rfl) rfl,
   enters_of Tryz.func38 (by kernel_rfl) rfl,
   enters_of Tryz.func39 (by kernel_rfl) rfl,
   enters_of Tryz.func40 (by kernel_rfl) rfl,
   enters_of Tryz.func41 (by kernel_rfl) rfl,
   enters_of Tryz.func42 (by kernel_rfl) rfl,
   enters_of Tryz.func43 (by kernel_rfl) rfl,
   enters_of Tryz.func44 (by kernel_rfl) rfl,
   enters_of Tryz.func45 (by kernel_rfl) rfl,
   enters_of Tryz.func46 (by kernel_rfl) rfl,
   enters_of Tryz.func47 (by kernel_rfl) rfl,
   enters_of Tryz.func48 (by kernel_rfl) rfl,
   enters_of Tryz.func49 (by kernel_rfl) rfl,
   enters_of Tryz.func50 (by kernel_rfl) rfl,
   enters_of Tryz.func51 (by kernel_rfl) rfl,
   enters_of Tryz.func52 (by kernel_rfl) rfl,
   enters_of Tryz.func53 (by kernel_rfl) rfl,
   enters_of Tryz.func54 (by kernel_rfl) rfl,
   enters_of Tryz.func55 (by kernel_rfl) rfl,
   enters_of Tryz.func56 (by kernel_rfl) rfl,
   enters_of Tryz.func57 (by kernel_rfl) rfl,
   enters_of Tryz.func58 (by kernel_rfl) rfl,
   enters_of Tryz.func59 (by kernel_rfl) rfl,
   enters_of Tryz.func60 (by kernel_rfl) rfl,
   enters_of Tryz.func63 (by kernel_rfl) rfl,
   enters_of Tryz.func64 (by kernel_rfl) rfl,
   enters_of Tryz.func65 (by kernel_rfl) rfl,
   enters_of Tryz.func66 (by kernel_rfl) rfl,
   enters_of Tryz.func67 (by kernel_rfl) rfl,
   enters_of Tryz.func68 (by kernel_rfl) rfl,
   enters_of Tryz.func69 (by kernel_rfl) rfl,
   enters_of Tryz.func70 (by kernel_rfl) rfl,
   enters_of Tryz.func71 (by kernel_rfl) rfl,
   enters_of Tryz.func72 (by kernel_rfl) rfl,
   enters_of Tryz.func73 (by kernel_rfl) rfl,
   enters_of Tryz.func74 (by kernel_rfl) rfl,
   enters_of Tryz.func75 (by kernel_rfl) rfl,
   enters_of Tryz.func76 (by kernel_rfl) rfl,
   enters_of Tryz.func77 (by kernel_rfl) rfl,
   enters_of Tryz.func78 (by kernel_rfl) rfl,
   enters_of Tryz.func79 (by kernel_rfl) rfl,
   enters_of Tryz.func80 (by kernel_rfl) rfl,
   enters_of Tryz.func81 (by kernel_rfl) rfl,
   enters_of Tryz.func82 (by kernel_rfl) rfl,
   enters_of Tryz.func83 (by kernel_rfl) rfl,
   enters_of Tryz.func84 (by kernel_rfl) rfl,
   enters_of Tryz.func85 (by kernel_rfl) rfl,
   enters_of Tryz.func86 (by kernel_rfl) rfl,
   enters_of Tryz.func87 (by kernel_rfl) rfl,
   enters_of Tryz.func88 (by kernel_rfl) rfl,
   enters_of Tryz.func89 (by kernel_rfl) rfl,
   enters_of Tryz.func90 (by kernel_rfl) rfl,
   enters_of Tryz.func91 (by kernel_rfl) rfl,
   enters_of Tryz.func92 (by kernel_rfl) rfl,
   enters_of Tryz.func93 (by kernel_rfl) rfl,
   enters_of Tryz.func94 (by kernel_rfl) rfl,
   enters_of Tryz.func95 (by kernel_rfl) rfl,
   enters_of Tryz.func96 (by kernel_rfl) rfl,
   enters_of Tryz.func97 (by kernel_rfl) rfl,
   enters_of Tryz.func98 (by kernel_rfl) rfl,
   enters_of Tryz.func99 (by kernel_rfl) rfl,
   enters_of Tryz.func100 (by kernel_rfl) rfl,
   enters_of Tryz.func101 (by kernel_rfl) rfl,
   enters_of Tryz.func102 (by kernel_rfl) rfl,
   enters_of Tryz.func103 (by kernel_rfl) rfl,
   enters_of Tryz.func104 (by kernel_rfl) rfl,
   enters_of Tryz.func105 (by kernel_rfl) rfl,
   enters_of Tryz.func106 (by kernel_rfl) rfl,
   enters_of Tryz.func107 (by kernel_rfl) rfl,
   enters_of Tryz.func108 (by kernel_rfl) rfl,
   enters_of Tryz.func109 (by kernel_rfl) rfl,
   enters_of Tryz.func110 (by kernel_rfl) rfl,
   enters_of Tryz.func111 (by kernel_rfl) rfl,
   enters_of Tryz.func112 (by kernel_rfl) rfl,
   enters_of Tryz.func113 (by kernel_rfl) rfl,
   enters_of Tryz.func114 (by kernel_rfl) rfl,
   enters_of Tryz.func115 (by kernel_rfl) rfl,
   enters_of Tryz.func116 (by kernel_rfl) rfl,
   enters_of Tryz.func117 (by kernel_rfl) rfl,
   enters_of Tryz.func118 (by kernel_rfl) rfl,
   enters_of Tryz.func119 (by kernel_rfl) rfl,
   enters_of Tryz.func120 (by kernel_rfl) rfl,
   enters_of Tryz.func121 (by kernel_rfl) rfl,
   enters_of Tryz.func122 (by kernel_rfl) rfl,
   enters_of Tryz.func123 (by kernel_rfl) rfl,
   enters_of Tryz.func124 (by kernel_rfl) rfl,
   enters_of Tryz.func125 (by kernel_rfl) rfl,
   enters_of Tryz.func126 (by kernel_rfl) rfl,
   enters_of Tryz.func127 (by kernel_rfl) rfl,
   enters_of Tryz.func128 (by kernel_rfl) rfl,
   enters_of Tryz.func129 (by kernel_rfl) rfl,
   enters_of Tryz.func130 (by kernel_rfl) rfl,
   enters_of Tryz.func131 (by kernel_rfl) rfl,
   enters_of Tryz.func132 (by kernel_rfl) rfl,
   enters_of Tryz.func133 (by kernel_rfl) rfl,
   enters_of Tryz.func134 (by kernel_rfl) rfl,
   enters_of Tryz.func135 (by kernel_rfl) rfl,
   enters_of Tryz.func136 (by kernel_rfl) rfl,
   enters_of Tryz.func137 (by kernel_rfl) rfl,
   enters_of Tryz.func138 (by kernel_rfl) rfl,
   enters_of Tryz.func139 (by kernel_rfl) rfl,
   enters_of Tryz.func142 (by kernel_rfl) rfl,
   enters_of Tryz.func143 (by kernel_rfl) rfl,
   enters_of Tryz.func144 (by kernel_rfl) rfl,
   enters_of Tryz.func145 (by kernel_rfl) rfl,
   enters_of Tryz.func146 (by kernel_rfl) rfl,
   enters_of Tryz.func147 (by kernel_rfl) rfl,
   enters_of Tryz.func148 (by kernel_rfl) rfl,
   enters_of Tryz.func149 (by kernel_rfl) rfl,
   enters_of Tryz.func150 (by kernel_rfl) rfl,
   enters_of Tryz.func151 (by kernel_rfl) rfl,
   enters_of Tryz.func152 (by kernel_rfl) rfl,
   enters_of Tryz.func153 (by kernel_rfl) rfl,
   enters_of Tryz.func154 (by kernel_rfl) rfl,
   enters_of Tryz.func155 (by kernel_rfl) rfl,
   enters_of Tryz.func156 (by kernel_rfl) rfl,
   enters_of Tryz.func157 (by kernel_rfl) rfl,
   enters_of Tryz.func158 (by kernel_rfl) rfl,
   enters_of Tryz.func159 (by kernel_rfl) rfl,
   enters_of Tryz.func160 (by kernel_rfl) rfl,
   enters_of Tryz.func161 (by kernel_rfl) rfl,
   enters_of Tryz.func162 (by kernel_rfl) rfl,
   enters_of Tryz.func163 (by kernel_rfl) rfl,
   enters_of Tryz.func164 (by kernel_rfl) rfl,
   enters_of Tryz.func165 (by kernel_rfl) rfl,
   enters_of Tryz.func166 (by kernel_rfl) rfl,
   enters_of Tryz.func167 (by kernel_rfl) rfl,
   enters_of Tryz.func168 (by kernel_rfl) rfl,
   enters_of Tryz.func169 (by kernel_rfl) rfl,
   enters_of Tryz.func170 (by kernel_rfl) rfl,
   enters_of Tryz.func171 (by kernel_rfl) rfl,
   enters_of Tryz.func172 (by kernel_rfl) rfl,
   enters_of Tryz.func173 (by kernel_rfl) rfl,
   enters_of Tryz.func174 (by kernel_rfl) rfl,
   enters_of Tryz.func175 (by kernel_rfl) rfl,
   enters_of Tryz.func176 (by kernel_rfl) rfl,
   enters_of Tryz.func177 (by kernel_rfl) rfl,
   enters_of Tryz.func178 (by kernel_rfl) rfl,
   enters_of Tryz.func179 (by kernel_rfl) rfl,
   enters_of Tryz.func180 (by kernel_rfl) rfl,
   enters_of Tryz.func181 (by kernel_rfl) rfl,
   enters_of Tryz.func182 (by kernel_rfl) rfl,
   enters_of Tryz.func183 (by kernel_rfl) rfl,
   enters_of Tryz.func184 (by kernel_rfl) rfl,
   enters_of Tryz.func185 (by kernel_rfl) rfl,
   enters_of Tryz.func186 (by kernel_rfl) rfl,
   enters_of Tryz.func187 (by kernel_rfl) rfl,
   enters_of Tryz.func188 (by kernel_rfl) rfl,
   enters_of Tryz.func189 (by kernel_rfl) rfl,
   enters_of Tryz.func190 (by kernel_rfl) rfl,
   enters_of Tryz.func191 (by kernel_rfl) rfl,
   enters_of Tryz.func192 (by kernel_rfl) rfl,
   enters_of Tryz.func193 (by kernel_rfl) rfl,
   enters_of Tryz.func194 (by kernel_rfl) rfl,
   enters_of Tryz.func195 (by kernel_rfl) rfl,
   enters_of Tryz.func196 (by kernel_rfl) rfl,
   enters_of Tryz.func197 (by kernel_rfl) rfl,
   enters_of Tryz.func198 (by kernel_rfl) rfl,
   enters_of Tryz.func199 (by kernel_rfl) rfl,
   enters_of Tryz.func200 (by kernel_rfl) rfl,
   enters_of Tryz.func201 (by kernel_rfl) rfl,
   enters_of Tryz.func202 (by kernel_rfl) rfl,
   enters_of Tryz.func203 (by kernel_rfl) rfl,
   enters_of Tryz.func204 (by kernel_rfl) rfl,
   enters_of Tryz.func205 (by kernel_rfl) rfl,
   enters_of Tryz.func206 (by kernel_rfl) rfl,
   enters_of Tryz.func207 (by kernel_rfl) rfl,
   enters_of Tryz.func208 (by kernel_rfl) rfl,
   enters_of Tryz.func209 (by kernel_rfl) rfl,
   enters_of Tryz.func210 (by kernel_rfl) rfl,
   enters_of Tryz.func211 (by kernel_rfl) rfl,
   enters_of Tryz.func212 (by kernel_rfl) rfl,
   enters_of Tryz.func213 (by kernel_rfl) rfl,
   enters_of Tryz.func214 (by kernel_rfl) rfl,
   enters_of Tryz.func215 (by kernel_rfl) rfl,
   enters_of Tryz.func216 (by kernel_rfl) rfl,
   enters_of Tryz.func217 (by kernel_rfl) rfl,
   enters_of Tryz.func218 (by kernel_rfl) rfl,
   enters_of Tryz.func219 (by kernel_rfl) rfl,
   enters_of Tryz.func220 (by kernel_rfl) rfl,
   enters_of Tryz.func221 (by kernel_rfl) rfl,
   enters_of Tryz.func222 (by kernel_rfl) rfl,
   enters_of Tryz.func223 (by kernel_rfl) rfl,
   enters_of Tryz.func224 (by kernel_rfl) rfl,
   enters_of Tryz.func225 (by kernel_rfl) rfl,
   enters_of Tryz.func226 (by kernel_rfl) rfl,
   enters_of Tryz.func227 (by kernel_rfl) rfl,
   enters_of Tryz.func228 (by kernel_rfl) rfl,
   enters_of Tryz.func229 (by kernel_rfl) rfl,
   enters_of Tryz.func230 (by kernel_rfl) rfl,
   enters_of Tryz.func231 (by kernel_rfl) rfl,
   enters_of Tryz.func232 (by kernel_rfl) rfl,
   enters_of Tryz.func233 (by kernel_rfl) rfl,
   enters_of Tryz.func234 (by kernel_rfl) rfl,
   enters_of Tryz.func235 (by kernel_rfl) rfl,
   enters_of Tryz.func236 (by kernel_rfl) rfl,
   enters_of Tryz.func237 (by kernel_rfl) rfl,
   enters_of Tryz.func240 (by kernel_rfl) rfl,
   enters_of Tryz.func241 (by kernel_rfl) rfl,
   enters_of Tryz.func242 (by kernel_rfl) rfl,
   enters_of Tryz.func243 (by kernel_rfl) rfl,
   enters_of Tryz.func244 (by kernel_rfl) rfl,
   enters_of Tryz.func245 (by kernel_rfl) rfl,
   enters_of Tryz.func246 (by kernel_rfl) rfl,
   enters_of Tryz.func247 (by kernel_rfl) rfl,
   enters_of Tryz.func248 (by kernel_rfl) rfl,
   enters_of Tryz.func249 (by kernel_rfl) rfl,
   enters_of Tryz.func250 (by kernel_rfl) rfl,
   enters_of Tryz.func251 (by kernel_rfl) rfl,
   enters_of Tryz.func252 (by kernel_rfl) rfl,
   enters_of Tryz.func253 (by kernel_rfl) rfl,
   enters_of Tryz.func254 (by kernel_rfl) rfl,
   enters_of Tryz.func255 (by kernel_rfl) rfl,
   enters_of Tryz.func256 (by kernel_rfl) rfl,
   enters_of Tryz.func257 (by kernel_rfl) rfl,
   enters_of Tryz.func258 (by kernel_rfl) rfl,
   enters_of Tryz.func259 (by kernel_rfl) rfl,
   enters_of Tryz.func260 (by kernel_rfl) rfl,
   enters_of Tryz.func261 (by kernel_rfl) rfl,
   enters_of Tryz.func262 (by kernel_rfl) rfl,
   enters_of Tryz.func263 (by kernel_rfl) rfl,
   enters_of Tryz.func264 (by kernel_rfl) rfl,
   enters_of Tryz.func265 (by kernel_rfl) rfl,
   enters_of Tryz.func266 (by kernel_rfl) rfl,
   enters_of Tryz.func267 (by kernel_rfl) rfl,
   enters_of Tryz.func268 (by kernel_rfl) rfl,
   enters_of Tryz.func269 (by kernel_rfl) rfl,
   enters_of Tryz.func270 (by kernel_rfl) rfl,
   enters_of Tryz.func271 (by kernel_rfl) rfl,
   enters_of Tryz.func272 (by kernel_rfl) rfl,
   enters_of Tryz.func273 (by kernel_rfl) rfl,
   enters_of Tryz.func274 (by kernel_rfl) rfl,
   enters_of Tryz.func275 (by kernel_rfl) rfl,
   enters_of Tryz.func276 (by kernel_rfl) rfl,
   enters_of Tryz.func277 (by kernel_rfl) rfl,
   enters_of Tryz.func278 (by kernel_rfl) rfl,
   enters_of Tryz.func279 (by kernel_rfl) rfl,
   enters_of Tryz.func280 (by kernel_rfl) rfl,
   enters_of Tryz.func281 (by kernel_rfl) rfl,
   enters_of Tryz.func282 (by kernel_rfl) rfl,
   enters_of Tryz.func283 (by kernel_rfl) rfl,
   enters_of Tryz.func284 (by kernel_rfl) rfl,
   enters_of Tryz.func285 (by kernel_rfl) rfl,
   enters_of Tryz.func286 (by kernel_rfl) rfl,
   enters_of Tryz.func287 (by kernel_rfl) rfl,
   enters_of Tryz.func288 (by kernel_rfl) rfl,
   enters_of Tryz.func289 (by kernel_rfl) rfl,
   enters_of Tryz.func290 (by kernel_rfl) rfl,
   enters_of Tryz.func291 (by kernel_rfl) rfl,
   enters_of Tryz.func292 (by kernel_rfl) rfl,
   enters_of Tryz.func293 (by kernel_rfl) rfl,
   enters_of Tryz.func294 (by kernel_rfl) rfl,
   enters_of Tryz.func295 (by kernel_rfl) rfl,
   enters_of Tryz.func296 (by kernel_rfl) rfl,
   enters_of Tryz.func297 (by kernel_rfl) rfl,
   enters_of Tryz.func298 (by kernel_rfl) rfl,
   enters_of Tryz.func299 (by kernel_rfl) rfl,
   enters_of Tryz.func300 (by kernel_rfl) rfl,
   enters_of Tryz.func301 (by kernel_rfl) rfl,
   enters_of Tryz.func302 (by kernel_rfl) rfl,
   enters_of Tryz.func303 (by kernel_rfl) rfl,
   enters_of Tryz.func304 (by kernel_rfl) rfl,
   enters_of Tryz.func305 (by kernel_rfl) rfl,
   enters_of Tryz.func306 (by kernel_rfl) rfl,
   enters_of Tryz.func307 (by kernel_rfl) rfl,
   enters_of Tryz.func308 (by kernel_rfl) rfl,
   enters_of Tryz.func309 (by kernel_rfl) rfl,
   enters_of Tryz.func310 (by kernel_rfl) rfl,
   enters_of Tryz.func311 (by kernel_rfl) rfl,
   enters_of Tryz.func312 (by kernel_rfl) rfl,
   enters_of Tryz.func313 (by kernel_rfl) rfl,
   enters_of Tryz.func314 (by kernel_rfl) rfl,
   enters_of Tryz.func315 (by kernel_rfl) rfl,
   enters_of Tryz.func317 (by kernel_rfl) rfl,
   enters_of Tryz.func318 (by kernel_rfl) rfl,
   enters_of Tryz.func319 (by kernel_rfl) rfl,
   enters_of Tryz.func320 (by kernel_rfl) rfl,
   enters_of Tryz.func321 (by kernel_rfl) rfl,
   enters_of Tryz.func322 (by kernel_rfl) rfl,
   enters_of Tryz.func323 (by kernel_rfl) rfl,
   enters_of Tryz.func324 (by kernel_rfl) rfl,
   enters_of Tryz.func325 (by kernel_rfl) rfl,
   enters_of Tryz.func326 (by kernel_rfl) rfl,
   enters_of Tryz.func327 (by kernel_rfl) rfl,
   enters_of Tryz.func328 (by kernel_rfl) rfl,
   enters_of Tryz.func329 (by kernel_rfl) rfl,
   enters_of Tryz.func330 (by kernel_rfl) rfl,
   enters_of Tryz.func331 (by kernel_rfl) rfl,
   enters_of Tryz.func332 (by kernel_rfl) rfl,
   enters_of Tryz.func333 (by kernel_rfl) rfl,
   enters_of Tryz.func334 (by kernel_rfl) rfl,
   enters_of Tryz.func335 (by kernel_rfl) rfl,
   enters_of Tryz.func336 (by kernel_rfl) rfl,
   enters_of Tryz.func337 (by kernel_rfl) rfl,
   enters_of Tryz.func338 (by kernel_rfl) rfl,
   enters_of Tryz.func339 (by kernel_rfl) rfl,
   enters_of Tryz.func340 (by kernel_rfl) rfl,
   enters_of Tryz.func341 (by kernel_rfl) rfl,
   enters_of Tryz.func342 (by kernel_rfl) rfl,
   enters_of Tryz.func343 (by kernel_rfl) rfl,
   enters_of Tryz.func344 (by kernel_rfl) rfl,
   enters_of Tryz.func345 (by kernel_rfl) rfl,
   enters_of Tryz.func346 (by kernel_rfl) rfl,
   enters_of Tryz.func347 (by kernel_rfl) rfl,
   enters_of Tryz.func348 (by kernel_rfl) rfl,
   enters_of Tryz.func349 (by kernel_rfl) rfl,
   enters_of Tryz.func350 (by kernel_rfl) rfl,
   enters_of Tryz.func351 (by kernel_rfl) rfl,
   enters_of Tryz.func352 (by kernel_rfl) rfl,
   enters_of Tryz.func353 (by kernel_rfl) rfl,
   enters_of Tryz.func354 (by kernel_rfl) rfl,
   enters_of Tryz.func355 (by kernel_rfl) rfl,
   enters_of Tryz.func356 (by kernel_rfl) rfl,
   enters_of Tryz.func357 (by kernel_rfl) rfl,
   enters_of Tryz.func358 (by kernel_rfl) rfl,
   enters_of Tryz.func359 (by kernel_rfl) rfl,
   enters_of Tryz.func360 (by kernel_rfl) rfl,
   enters_of Tryz.func361 (by kernel_rfl) rfl,
   enters_of Tryz.func362 (by kernel_rfl) rfl,
   enters_of Tryz.func363 (by kernel_rfl) rfl,
   enters_of Tryz.func364 (by kernel_rfl) rfl,
   enters_of Tryz.func365 (by kernel_rfl) rfl,
   enters_of Tryz.func366 (by kernel_rfl) rfl,
   enters_of Tryz.func367 (by kernel_rfl) rfl,
   enters_of Tryz.func368 (by kernel_rfl) rfl,
   enters_of Tryz.func369 (by kernel_rfl) rfl,
   enters_of Tryz.func370 (by kernel_rfl) rfl,
   enters_of Tryz.func371 (by kernel_rfl) rfl,
   enters_of Tryz.func372 (by kernel_rfl) rfl,
   enters_of Tryz.func373 (by kernel_rfl) rfl,
   enters_of Tryz.func374 (by kernel_rfl) rfl,
   enters_of Tryz.func375 (by kernel_rfl) rfl,
   enters_of Tryz.func376 (by kernel_rfl) rfl,
   enters_of Tryz.func377 (by kernel_rfl) rfl,
   enters_of Tryz.func378 (by kernel_rfl) rfl,
   enters_of Tryz.func379 (by kernel_rfl) rfl,
   enters_of Tryz.func380 (by kernel_rfl) rfl,
   enters_of Tryz.func381 (by kernel_rfl) rfl,
   enters_of Tryz.func382 (by kernel_rfl) rfl,
   enters_of Tryz.func383 (by kernel_rfl) rfl,
   enters_of Tryz.func384 (by kernel_rfl) rfl,
   enters_of Tryz.func385 (by kernel_rfl) rfl,
   enters_of Tryz.func386 (by kernel_rfl) rfl,
   enters_of Tryz.func387 (by kernel_rfl) rfl,
   enters_of Tryz.func388 (by kernel_rfl) rfl,
   enters_of Tryz.func389 (by kernel_rfl) rfl,
   enters_of Tryz.func390 (by kernel_rfl) rfl,
   enters_of Tryz.func391 (by kernel_rfl) rfl,
   enters_of Tryz.func392 (by kernel_rfl) rfl,
   enters_of Tryz.func393 (by kernel_rfl) rfl,
   enters_of Tryz.func394 (by kernel_rfl) rfl,
   enters_of Tryz.func395 (by kernel_rfl) rfl,
   enters_of Tryz.func396 (by kernel_rfl) rfl,
   enters_of Tryz.func397 (by kernel_rfl) rfl,
   enters_of Tryz.func398 (by kernel_rfl) rfl,
   enters_of Tryz.func399 (by kernel_rfl) rfl,
   enters_of Tryz.func400 (by kernel_rfl) rfl,
   enters_of Tryz.func401 (by kernel_rfl) rfl,
   enters_of Tryz.func402 (by kernel_rfl) rfl,
   enters_of Tryz.func403 (by kernel_rfl) rfl,
   enters_of Tryz.func404 (by kernel_rfl) rfl,
   enters_of Tryz.func406 (by kernel_rfl) rfl,
   enters_of Tryz.func407 (by kernel_rfl) rfl,
   enters_of Tryz.func408 (by kernel_rfl) rfl,
   enters_of Tryz.func409 (by kernel_rfl) rfl,
   enters_of Tryz.func410 (by kernel_rfl) rfl,
   enters_of Tryz.func411 (by kernel_rfl) rfl,
   enters_of Tryz.func412 (by kernel_rfl) rfl,
   enters_of Tryz.func413 (by kernel_rfl) rfl,
   enters_of Tryz.func414 (by kernel_rfl) rfl,
   enters_of Tryz.func415 (by kernel_rfl) rfl,
   enters_of Tryz.func416 (by kernel_rfl) rfl,
   enters_of Tryz.func417 (by kernel_rfl) rfl,
   enters_of Tryz.func418 (by kernel_rfl) rfl,
   enters_of Tryz.func419 (by kernel_rfl) rfl,
   enters_of Tryz.func420 (by kernel_rfl) rfl,
   enters_of Tryz.func421 (by kernel_rfl) rfl,
   enters_of Tryz.func422 (by kernel_rfl) rfl,
   enters_of Tryz.func423 (by kernel_rfl) rfl,
   enters_of Tryz.func424 (by kernel_rfl) rfl,
   enters_of Tryz.func425 (by kernel_rfl) rfl,
   enters_of Tryz.func426 (by kernel_rfl) rfl,
   enters_of Tryz.func427 (by kernel_rfl) rfl,
   enters_of Tryz.func428 (by kernel_rfl) rfl,
   enters_of Tryz.func429 (by kernel_rfl) rfl,
   enters_of Tryz.func430 (by kernel_rfl) rfl,
   enters_of Tryz.func431 (by kernel_rfl) rfl,
   enters_of Tryz.func432 (by kernel_rfl) rfl,
   enters_of Tryz.func433 (by kernel_rfl) rfl,
   enters_of Tryz.func434 (by kernel_rfl) rfl,
   enters_of Tryz.func435 (by kernel_rfl) rfl,
   enters_of Tryz.func436 (by kernel_rfl) rfl,
   enters_of Tryz.func437 (by kernel_rfl) rfl,
   enters_of Tryz.func438 (by kernel_rfl) rfl,
   enters_of Tryz.func439 (by kernel_rfl) rfl,
   enters_of Tryz.func440 (by kernel_rfl) rfl,
   enters_of Tryz.func441 (by kernel_rfl) rfl,
   enters_of Tryz.func442 (by kernel_rfl) rfl,
   enters_of Tryz.func443 (by kernel_rfl) rfl,
   enters_of Tryz.func444 (by kernel_rfl) rfl,
   enters_of Tryz.func445 (by kernel_rfl) rfl,
   enters_of Tryz.func446 (by kernel_rfl) rfl,
   enters_of Tryz.func447 (by kernel_rfl) rfl,
   enters_of Tryz.func448 (by kernel_rfl) rfl,trivial⟩
theorem mixGood:Tryz.prog.follows .mixedOrders=true:=by kernel_rfl
def tb:Tb Tryz.prog:={ rows:=rowsTab,good:=rowsGood,fns:=[5,8,9,10,11,14,15,17,18,19,20,21,22,23,24,25,26,27,28,29,31,32,33,34,35,36,37,38,39,40,41,42,43,44,45,46,47,48,49,50,51,52,53,54,55,56,57,58,59,60,63,64,65,66,67,68,69,70,71,72,73,74,75,76,77,78,79,80,81,82,83,84,85,86,87,88,89,90,91,92,93,94,95,96,97,98,99,100,101,102,103,104,105,106,107,108,109,110,111,112,113,114,115,116,117,118,119,120,121,122,123,124,125,126,127,128,129,130,131,132,133,134,135,136,137,138,139,142,143,144,145,146,147,148,149,150,151,152,153,154,155,156,157,158,159,160,161,162,163,164,165,166,167,168,169,170,171,172,173,174,175,176,177,178,179,180,181,182,183,184,185,186,187,188,189,190,191,192,193,194,195,196,197,198,199,200,201,202,203,204,205,206,207,208,209,210,211,212,213,214,215,216,217,218,219,220,221,222,223,224,225,226,227,228,229,230,231,232,233,234,235,236,237,240,241,242,243,244,245,246,247,248,249,250,251,252,253,254,255,256,257,258,259,260,261,262,263,264,265,266,267,268,269,270,271,272,273,274,275,276,277,278,279,280,281,282,283,284,285,286,287,288,289,290,291,292,293,294,295,296,297,298,299,300,301,302,303,304,305,306,307,308,309,310,311,312,313,314,315,317,318,319,320,321,322,323,324,325,326,327,328,329,330,331,332,333,334,335,336,337,338,339,340,341,342,343,344,345,346,347,348,349,350,351,352,353,354,355,356,357,358,359,360,361,362,363,364,365,366,367,368,369,370,371,372,373,374,375,376,377,378,379,380,381,382,383,384,385,386,387,388,389,390,391,392,393,394,395,396,397,398,399,400,401,402,403,404,406,407,408,409,410,411,412,413,414,415,416,417,418,419,420,421,422,423,424,425,426,427,428,429,430,431,432,433,434,435,436,437,438,439,440,441,442,443,444,445,446,447,448],fgood:=fnsGood,mix:=mixGood,deep:=Nat.le_of_ble_eq_true (by kernel_rfl) }
set_option maxRecDepth 100000
def u8V (x:Int):List Value:=[.int .u8 x]
theorem u8V_len (x:Int):(u8V x).length=1:=rfl
theorem fl_u8 (bs:List Int):fl u8V bs=u8s bs:=by
  unfold fl u8s
  induction bs with
  | nil=>rfl
  | cons a l ih=>simp only [List.map_cons,List.flatten_cons,ih];rfl
def Byt (bs:List Int):Prop:=∀ x∈bs,0≤x∧x≤255
theorem rot_ok (x k s p q:Int) (h:andI .u64 (IntKind.u64.wrap k) 31=s) (h0:0 < s) (h1:s < 32) (hq:pw s.toNat=q) (hp:pw (32 - s).toNat=p):CallP Tryz.prog 428 [.int .u32 x,.int .i64 k] (.int .u32 (rotr x p q)):=by
  refine enterP (tb:=tb) Tryz.func428 rfl Tryz.ntmps428 rfl fun w=>?_
  have hs32:s.toNat≤IntKind.u32.bits:=by show s.toNat≤32;omega
  have hs33:(32 - s).toNat≤IntKind.u32.bits:=by show (32 - s).toNat≤32;omega
  repeat' (first|(apply R.is1;first|(apply R.isBin;(apply R.pure;exact rfl;first|(apply Ok1.andE;exact rfl;exact rfl;exact h)|(apply Ok1.subU;exact rfl;exact rfl;omega;omega)|(apply Ok1.shl;exact rfl;exact rfl;omega;exact hs32;exact hq)|(apply Ok1.shr;exact rfl;exact rfl;omega;exact hs33;exact hp)|(apply Ok1.orK;exact rfl;exact rfl)))|(apply R.pure;exact rfl;first|(apply Ok1.move;exact rfl)|(apply Ok1.assign;exact rfl)|(apply Ok1.conv;(iterate 5 exact rfl))))|apply R.nil|(apply T.is;first|apply T.seq|apply T.region|apply T.ret))
  (apply RetOk.t;exact rfl)
  rfl
theorem turnedA_ok (x:Int):CallP Tryz.prog 427 [.int .u32 x,.int .i64 6,.int .i64 11,.int .i64 25] (.int .u32 (turned x 64 67108864 2048 2097152 33554432 128)):=by
  refine enterP (tb:=tb) Tryz.func427 rfl Tryz.ntmps427 rfl fun w=>?_
  repeat' (first|(apply R.is1;first|(apply R.isBin;(apply R.pure;exact rfl;(apply Ok1.xorK;exact rfl;exact rfl)))|(apply R.isCall;first|apply R.callP rfl rfl rfl (rot_ok x (IntKind.i64.wrap (0 - 6)) 26 64 67108864 (by decide +kernel) (by decide) (by decide) rfl rfl)|apply R.callP rfl rfl rfl (rot_ok x (IntKind.i64.wrap (0 - 11)) 21 2048 2097152 (by decide +kernel) (by decide) (by decide) rfl rfl)|apply R.callP rfl rfl rfl (rot_ok x (IntKind.i64.wrap (0 - 25)) 7 33554432 128 (by decide +kernel) (by decide) (by decide) rfl rfl))|(apply R.pure;exact rfl;first|(apply Ok1.move;exact rfl)|(apply Ok1.assign;exact rfl)|(apply Ok1.neg;exact rfl)))|apply R.nil|(apply T.is;first|apply T.seq|apply T.region|apply T.ret))
  (apply RetOk.t;exact rfl)
  rfl
theorem turnedB_ok (x:Int):CallP Tryz.prog 427 [.int .u32 x,.int .i64 2,.int .i64 13,.int .i64 22] (.int .u32 (turned x 4 1073741824 8192 524288 4194304 1024)):=by
  refine enterP (tb:=tb) Tryz.func427 rfl Tryz.ntmps427 rfl fun w=>?_
  repeat' (first|(apply R.is1;first|(apply R.isBin;(apply R.pure;exact rfl;(apply Ok1.xorK;exact rfl;exact rfl)))|(apply R.isCall;first|apply R.callP rfl rfl rfl (rot_ok x (IntKind.i64.wrap (0 - 2)) 30 4 1073741824 (by decide +kernel) (by decide) (by decide) rfl rfl)|apply R.callP rfl rfl rfl (rot_ok x (IntKind.i64.wrap (0 - 13)) 19 8192 524288 (by decide +kernel) (by decide) (by decide) rfl rfl)|apply R.callP rfl rfl rfl (rot_ok x (IntKind.i64.wrap (0 - 22)) 10 4194304 1024 (by decide +kernel) (by decide) (by decide) rfl rfl))|(apply R.pure;exact rfl;first|(apply Ok1.move;exact rfl)|(apply Ok1.assign;exact rfl)|(apply Ok1.neg;exact rfl)))|apply R.nil|(apply T.is;first|apply T.seq|apply T.region|apply T.ret))
  (apply RetOk.t;exact rfl)
  rfl
theorem table_ok:CallP Tryz.prog 426 [] (.agg ⟨u32s kI⟩):=by
  refine enterP (tb:=tb) Tryz.func426 rfl Tryz.ntmps426 rfl fun w=>?_
  repeat' (first|(apply R.is1;first|(apply R.pure;exact rfl;(apply Ok1.buildA;(iterate 6 exact rfl)))|(apply R.alloc;(iterate 3 exact rfl);intro))|(apply R.is0;(apply R.store;(iterate 6 exact rfl);exact Upd.head;exact rfl))|apply R.nil|(apply T.is;first|apply T.seq|apply T.region|apply T.ret))
  (apply RetOk.c;exact rfl;((apply Ld.ownk;exact rfl;exact rfl;exact At.head;exact rfl)))
  rfl
theorem begun_ok:CallP Tryz.prog 375 [] (.agg ⟨h0I.v⟩):=by
  refine enterP (tb:=tb) Tryz.func375 rfl Tryz.ntmps375 rfl fun w=>?_
  repeat' (first|(apply R.is1;first|(apply R.pure;exact rfl;first|(apply Ok1.build;(iterate 5 exact rfl))|(apply Ok1.buildA;(iterate 6 exact rfl)))|(apply R.alloc;(iterate 3 exact rfl);intro))|(apply R.is0;(apply R.store;(iterate 6 exact rfl);exact Upd.head;exact rfl))|apply R.nil|(apply T.is;first|apply T.seq|apply T.region|apply T.ret))
  (apply RetOk.c;exact rfl;((apply Ld.ownk;exact rfl;exact rfl;exact At.head;exact rfl)))
  rfl
theorem byt_get {bs:List Int} (hb:Byt bs) {i:Nat} (h:i < bs.length):∃ x,bs[i]? = some x∧bs.getD i 0=x∧0≤x∧x≤255:=⟨bs[i],List.getElem?_eq_getElem h,by simp [h],hb _ (List.getElem_mem h)⟩
theorem word_ok (p:Option Addr) (n cap:Nat) (bs:List Int) (hn:n=bs.length) (hl:4≤bs.length) (hb:Byt bs) (w:World) (hp:RdSl w p u8V bs):CallW Tryz.prog 441 [.slice p n cap] w fun v _=>v = .int .u32 (wordI (bs.getD 0 0) (bs.getD 1 0) (bs.getD 2 0) (bs.getD 3 0)):=by
  subst hn
  obtain ⟨x0,h0,g0,l0,u0⟩:=byt_get hb (i:=0) (by omega)
  obtain ⟨x1,h1,g1,l1,u1⟩:=byt_get hb (i:=1) (by omega)
  obtain ⟨x2,h2,g2,l2,u2⟩:=byt_get hb (i:=2) (by omega)
  obtain ⟨x3,h3,g3,l3,u3⟩:=byt_get hb (i:=3) (by omega)
  rw [g0,g1,g2,g3]
  obtain ⟨b,o,hpe,H0⟩:=hp.at h0
  replace H0:=H0 1 u8V_len
  obtain ⟨b',o',hpe1,H1⟩:=hp.at h1
  replace H1:=H1 1 u8V_len
  rw [hpe] at hpe1;cases hpe1
  obtain ⟨b',o',hpe1,H2⟩:=hp.at h2
  replace H2:=H2 1 u8V_len
  rw [hpe] at hpe1;cases hpe1
  obtain ⟨b',o',hpe1,H3⟩:=hp.at h3
  replace H3:=H3 1 u8V_len
  rw [hpe] at hpe1;cases hpe1
  refine enterW (tb:=tb) Tryz.func441 rfl Tryz.ntmps441 rfl ?_
  repeat' (first|(apply R.is1;(apply R.pure;exact rfl;(apply Ok1.assign;exact rfl)))|apply R.nil|(apply T.is;first|(apply T.drawC (id:=1) [] (by decide);((apply A.tk 0;exact rfl;kernel_rfl;(apply Ok1.move;exact rfl))<;>(apply A.tk 1;exact rfl;kernel_rfl;(apply Ok1.indexAddrP;(iterate 4 exact rfl);exact hpe;exact rfl;omega;omega))<;>(apply A.tk 2;exact rfl;kernel_rfl;(apply Ok1.load;exact rfl;apply Ld.row0 H0;exact rfl;exact List.not_mem_nil;(iterate 3 exact rfl)))<;>(apply A.tk 3;exact rfl;kernel_rfl;(apply Ok1.convU32;(iterate 5 exact rfl);omega;omega))<;>(apply A.tk 4;exact rfl;kernel_rfl;(apply Ok1.shl;exact rfl;exact rfl;omega;exact Nat.le_of_ble_eq_true rfl;exact rfl))<;>(apply A.tk 5;exact rfl;kernel_rfl;(apply Ok1.move;exact rfl))<;>(apply A.tk 6;exact rfl;kernel_rfl;(apply Ok1.indexAddrP;(iterate 4 exact rfl);exact hpe;exact rfl;omega;omega))<;>(apply A.tk 7;exact rfl;kernel_rfl;(apply Ok1.load;exact rfl;apply Ld.row0 H1;exact rfl;exact List.not_mem_nil;(iterate 3 exact rfl)))<;>(apply A.tk 8;exact rfl;kernel_rfl;(apply Ok1.convU32;(iterate 5 exact rfl);omega;omega))<;>(apply A.tk 9;exact rfl;kernel_rfl;(apply Ok1.shl;exact rfl;exact rfl;omega;exact Nat.le_of_ble_eq_true rfl;exact rfl))<;>(apply A.tk 10;exact rfl;kernel_rfl;(apply Ok1.orK;exact rfl;exact rfl))<;>(apply A.tk 11;exact rfl;kernel_rfl;(apply Ok1.move;exact rfl))<;>(apply A.tk 12;exact rfl;kernel_rfl;(apply Ok1.indexAddrP;(iterate 4 exact rfl);exact hpe;exact rfl;omega;omega))<;>(apply A.tk 13;exact rfl;kernel_rfl;(apply Ok1.load;exact rfl;apply Ld.row0 H2;exact rfl;exact List.not_mem_nil;(iterate 3 exact rfl)))<;>(apply A.tk 14;exact rfl;kernel_rfl;(apply Ok1.convU32;(iterate 5 exact rfl);omega;omega))<;>(apply A.tk 15;exact rfl;kernel_rfl;(apply Ok1.shl;exact rfl;exact rfl;omega;exact Nat.le_of_ble_eq_true rfl;exact rfl))<;>(apply A.tk 16;exact rfl;kernel_rfl;(apply Ok1.orK;exact rfl;exact rfl))<;>(apply A.tk 17;exact rfl;kernel_rfl;(apply Ok1.move;exact rfl))<;>(apply A.tk 18;exact rfl;kernel_rfl;(apply Ok1.indexAddrP;(iterate 4 exact rfl);exact hpe;exact rfl;omega;omega))<;>(apply A.tk 19;exact rfl;kernel_rfl;(apply Ok1.load;exact rfl;apply Ld.row0 H3;exact rfl;exact List.not_mem_nil;(iterate 3 exact rfl)))<;>(apply A.tk 20;exact rfl;kernel_rfl;(apply Ok1.convU32;(iterate 5 exact rfl);omega;omega))<;>(apply A.tk 21;exact rfl;kernel_rfl;(apply Ok1.orK;exact rfl;exact rfl))<;>(apply A.tk 22;exact rfl;kernel_rfl;(apply Ok1.assign;exact rfl))<;>(apply A.done;kernel_rfl)))|apply T.seq|apply T.region|apply T.ret))
  (apply RetOk.t;exact rfl)
  exact congrArg _ (word_or ⟨l0,u0⟩ ⟨l1,u1⟩ ⟨l2,u2⟩ ⟨l3,u3⟩)
theorem u32s_app (a b:List Int):u32s (a++b)=u32s a++u32s b:=by simp [u32s]
theorem u32s_one (a:List Int):(u32s a).all Value.oneCell'=true:=by rw [List.all_eq_true];intro x hx;obtain ⟨y,_,rfl⟩:=List.mem_map.1 hx;rfl
theorem u32s_len (a:List Int):(u32s a).length=a.length:=by simp [u32s]
theorem arr_get {l:List Int} {zs:List Value} {k:Nat} (h:k < l.length):(u32s l++zs)[0+k * 1]? = some (.int .u32 (l.getD k 0)):=by
  rw [Nat.zero_add,Nat.mul_one,List.getElem?_append_left (by rw [u32s_len];exact h)]
  simp [u32s,h]
theorem arr_put (l:List Int) (x:Int) (z:Value) {k:Nat}:setE (u32s l++List.replicate (k+1) z) (0+l.length * 1) [.int .u32 x]=some (u32s (l++[x])++List.replicate k z):=by
  have:=setE_mid (u32s l) (vs:=[.int .u32 x]) (junk:=List.replicate (k+1) z) (by simp)
  rw [u32s_len] at this
  rw [Nat.zero_add,Nat.mul_one,this,u32s_app]
  rfl
theorem spread_ok (p:Option Addr) (n cap:Nat) (b:List Int) (hn:n=b.length) (hl:b.length=64) (hcap:n≤cap) (hb:Byt b) (w:World) (hp:RdSl w p u8V b):CallW Tryz.prog 425 [.slice p n cap] w fun v _=>v = .agg ⟨u32s (schedI b 64)⟩:=by
  refine enterW (tb:=tb) Tryz.func425 rfl Tryz.ntmps425 rfl ?_
  repeat' (first|(apply R.is1;first|(apply R.pure;exact rfl;(apply Ok1.move;exact rfl))|(apply R.alloc;(iterate 3 exact rfl);intro))|apply R.nil|(apply T.is;first|apply T.seq|apply T.region|apply T.block))
  rename_i b2 b3
  apply T.loopK (α:=Nat) (I:=fun i=>i≤64) (σi:=fun i=>[(0,.slice p n cap),(2,.pointer (some ⟨b2,0,none⟩)),(3,.pointer (some ⟨b3,0,none⟩)),(9,.int .i64 i)]) (Li:=fun i=>[(b3,.cells ⟨u32s (schedI b i)++List.replicate (64 - i) (.int .u32 0)⟩ 547 (0,0)),(b2,.cells ⟨List.replicate 64 (.int .u32 0)⟩ 547 (0,0))]) (μ:=fun i=>64 - i) (i0:=0)
  · exact Nat.zero_le _
  · exact ⟨rfl,rfl,rfl,rfl,trivial⟩
  · (focus (repeat' first|exact Keep.nil _|exact Ext.one _ _|apply Keep.cons);done)
  · intro i hi
    have hsl:=sched_len b i
    have hsn:schedI b (i+1)=schedI b i++[nextI b (schedI b i)]:=rfl
    have hnx:nextI b (schedI b i)=nextI b (schedI b i):=rfl
    conv at hnx=>rhs;unfold nextI
    generalize hleq:schedI b i=l at *
    rcases Nat.lt_or_ge i 64 with hlt|hge
    · obtain ⟨k,hk⟩:∃ k,64 - i=k+1:=⟨63 - i,by omega⟩
      have hput:=fun x=>arr_put l x (.int .u32 0) (k:=k)
      rw [hsl] at hput
      rw [hk]
      rcases Nat.lt_or_ge i 16 with h16|h16
      · rw [if_pos (by omega),hsl] at hnx
        have hwd:∀ w1,Chg [] w w1→CallW Tryz.prog 441 [.slice (sufP p cap (4 * i) 1) (n - 4 * i) (cap - 4 * i)] w1 fun v _=>v = .int .u32 (nextI b l):=by
          intro w1 hc
          have:=word_ok (sufP p cap (4 * i) 1) (n - 4 * i) (cap - 4 * i) (b.drop (4 * i)) (by rw [List.length_drop,hn]) (by rw [List.length_drop];omega) (fun x hx=>hb x (List.mem_of_mem_drop hx)) w1 ((hp.suf u8V_len (by omega) (by omega)).chg hc (Off.nil _))
          rw [hnx]
          simpa only [List.getD_eq_getElem?_getD,List.getElem?_drop,Nat.add_zero] using this
        repeat' (first|(apply R.is1;first|(apply R.isBin;(apply R.pure;exact rfl;first|(apply Ok1.add64;exact rfl;exact rfl;omega;omega)|(apply Ok1.lss_t;exact rfl;exact rfl;omega)|(apply Ok1.mul64;exact rfl;exact rfl;omega;omega)))|(apply R.isCall;(apply R.callV;(iterate 3 exact rfl);intro w1 hw1;exact hwd w1 hw1.chg))|(apply R.pure;exact rfl;first|(apply Ok1.sufR (i:=4 * i) (sz:=1);(iterate 6 exact rfl);omega;omega)|(apply Ok1.move;exact rfl)|(apply Ok1.assign;exact rfl)|(apply Ok1.indexAddrA;(iterate 5 exact rfl);omega;omega)))|(apply R.is0;(apply R.store;(iterate 6 exact rfl);exact Upd.head;exact hput _))|apply R.nil|(apply T.is;first|apply T.seq|apply T.region|apply T.block|apply T.skip|apply T.exit|(apply T.cond_t;exact rfl)))
        refine ⟨i+1,by omega,by omega,⟨rfl,rfl,rfl,rfl,trivial⟩,?_⟩
        rw [hsn,show 64 - (i+1)=k by omega]
        (focus (repeat' first|exact Keep.nil _|exact Ext.one _ _|apply Keep.cons);done)
      · rw [if_neg (by omega),hsl] at hnx
        have e15:((i:Int) - 15).toNat=i - 15:=by omega
        have e2:((i:Int) - 2).toNat=i - 2:=by omega
        have e16:((i:Int) - 16).toNat=i - 16:=by omega
        have e7:((i:Int) - 7).toNat=i - 7:=by omega
        have g15:(u32s l++List.replicate (k+1) (.int .u32 0))[0+((i:Int) - 15).toNat * 1]? = some (.int .u32 (l.getD (i - 15) 0)):=by rw [e15];exact arr_get (by omega)
        have g2:(u32s l++List.replicate (k+1) (.int .u32 0))[0+((i:Int) - 2).toNat * 1]? = some (.int .u32 (l.getD (i - 2) 0)):=by rw [e2];exact arr_get (by omega)
        have g16:(u32s l++List.replicate (k+1) (.int .u32 0))[0+((i:Int) - 16).toNat * 1]? = some (.int .u32 (l.getD (i - 16) 0)):=by rw [e16];exact arr_get (by omega)
        have g7:(u32s l++List.replicate (k+1) (.int .u32 0))[0+((i:Int) - 7).toNat * 1]? = some (.int .u32 (l.getD (i - 7) 0)):=by rw [e7];exact arr_get (by omega)
        generalize l.getD (i - 15) 0=x15 at *
        generalize l.getD (i - 2) 0=x2 at *
        generalize l.getD (i - 16) 0=x16 at *
        generalize l.getD (i - 7) 0=x7 at *
        repeat' (first|(apply R.is1;first|(apply R.isBin;(apply R.pure;exact rfl;first|(apply Ok1.xorK;exact rfl;exact rfl)|(apply Ok1.add64;exact rfl;exact rfl;omega;omega)|(apply Ok1.lss_t;exact rfl;exact rfl;omega)|(apply Ok1.lss_f;exact rfl;exact rfl;omega)|(apply Ok1.shr;exact rfl;exact rfl;omega;exact Nat.le_of_ble_eq_true rfl;(first|exact pwE3|exact rfl))))|(apply R.isCall;first|apply R.callP rfl rfl rfl (rot_ok x15 (-7) 25 128 33554432 (by decide +kernel) (by decide) (by decide) rfl rfl)|apply R.callP rfl rfl rfl (rot_ok x15 (-18) 14 262144 16384 (by decide +kernel) (by decide) (by decide) rfl rfl)|apply R.callP rfl rfl rfl (rot_ok x2 (-17) 15 131072 32768 (by decide +kernel) (by decide) (by decide) rfl rfl)|apply R.callP rfl rfl rfl (rot_ok x2 (-19) 13 524288 8192 (by decide +kernel) (by decide) (by decide) rfl rfl))|(apply R.pure;exact rfl;first|(apply Ok1.move;exact rfl)|(apply Ok1.assign;exact rfl)))|apply R.nil|(apply T.is;first|(apply T.drawC (id:=7) [0] (by decide);((apply A.tk 0;exact rfl;kernel_rfl;(apply Ok1.move;exact rfl))<;>(apply A.tk 1;exact rfl;kernel_rfl;(apply Ok1.sub64;exact rfl;exact rfl;omega;omega))<;>(apply A.tk 2;exact rfl;kernel_rfl;(apply Ok1.indexAddrA;(iterate 5 exact rfl);omega;omega))<;>(apply A.tk 3;exact rfl;kernel_rfl;(apply Ok1.load;exact rfl;apply Ld.own1;exact rfl;exact rfl;exact At.head;with_reducible (exact g15)))<;>(apply A.tk 4;exact rfl;kernel_rfl;(apply Ok1.move;exact rfl))<;>(apply A.tk 5;exact rfl;kernel_rfl;(apply Ok1.sub64;exact rfl;exact rfl;omega;omega))<;>(apply A.tk 6;exact rfl;kernel_rfl;(apply Ok1.indexAddrA;(iterate 5 exact rfl);omega;omega))<;>(apply A.tk 7;exact rfl;kernel_rfl;(apply Ok1.load;exact rfl;apply Ld.own1;exact rfl;exact rfl;exact At.head;with_reducible (exact g2)))<;>(apply A.tk 8;exact rfl;kernel_rfl;(apply Ok1.assign;exact rfl))<;>(apply A.tk 9;exact rfl;kernel_rfl;(apply Ok1.assign;exact rfl))<;>(apply A.done;kernel_rfl)))|(apply T.drawC (id:=10) [] (by decide);((apply A.tk 0;exact rfl;kernel_rfl;(apply Ok1.move;exact rfl))<;>(apply A.tk 1;exact rfl;kernel_rfl;(apply Ok1.move;exact rfl))<;>(apply A.tk 2;exact rfl;kernel_rfl;(apply Ok1.sub64;exact rfl;exact rfl;omega;omega))<;>(apply A.tk 3;exact rfl;kernel_rfl;(apply Ok1.indexAddrA;(iterate 5 exact rfl);omega;omega))<;>(apply A.tk 5;exact rfl;kernel_rfl;(apply Ok1.move;exact rfl))<;>(apply A.tk 7;exact rfl;kernel_rfl;(apply Ok1.move;exact rfl))<;>(apply A.tk 8;exact rfl;kernel_rfl;(apply Ok1.sub64;exact rfl;exact rfl;omega;omega))<;>(apply A.tk 9;exact rfl;kernel_rfl;(apply Ok1.indexAddrA;(iterate 5 exact rfl);omega;omega))<;>(apply A.tk 12;exact rfl;kernel_rfl;(apply Ok1.move;exact rfl))<;>(apply A.two 4 10;kernel_rfl;exact rfl;exact rfl;rotate_left 1;(focus (((((apply R.pure;exact rfl;(apply Ok1.load;exact rfl;apply Ld.own1;exact rfl;exact rfl;exact At.head;with_reducible (exact g7)))));apply R.nil;refine ⟨?_,?_⟩;(focus ((repeat' (exact trivial)))))<;>(apply A.one 4;kernel_rfl;exact rfl;(((apply R.pure;exact rfl;(apply Ok1.load;exact rfl;apply Ld.own1;exact rfl;exact rfl;exact At.head;with_reducible (exact g16)))));apply R.nil;refine ⟨?_,?_⟩;(focus ((repeat' (exact trivial)))))<;>(apply A.tk 6;exact rfl;kernel_rfl;(apply Ok1.add32;exact rfl;exact rfl))<;>(apply A.tk 11;exact rfl;kernel_rfl;(apply Ok1.add32;exact rfl;exact rfl))<;>(apply A.tk 13;exact rfl;kernel_rfl;(apply Ok1.add32;exact rfl;exact rfl))<;>(apply A.tk 14;exact rfl;kernel_rfl;(apply Ok1.indexAddrA;(iterate 5 exact rfl);omega;omega))<;>(apply A.one 15;kernel_rfl;exact rfl;(((apply R.store;(iterate 6 exact rfl);exact Upd.head;exact hput _)));apply R.nil;refine ⟨?_,?_⟩;(focus ((repeat' (exact trivial)))))<;>(apply A.done;kernel_rfl)));rotate_right 1;(focus (((((apply R.pure;exact rfl;(apply Ok1.load;exact rfl;apply Ld.own1;exact rfl;exact rfl;exact At.head;with_reducible (exact g16)))));apply R.nil;refine ⟨?_,?_⟩;(focus ((repeat' (exact trivial)))))<;>(apply A.tk 6;exact rfl;kernel_rfl;(apply Ok1.add32;exact rfl;exact rfl))<;>(apply A.one 10;kernel_rfl;exact rfl;(((apply R.pure;exact rfl;(apply Ok1.load;exact rfl;apply Ld.own1;exact rfl;exact rfl;exact At.head;with_reducible (exact g7)))));apply R.nil;refine ⟨?_,?_⟩;(focus ((repeat' (exact trivial)))))<;>(apply A.tk 11;exact rfl;kernel_rfl;(apply Ok1.add32;exact rfl;exact rfl))<;>(apply A.tk 13;exact rfl;kernel_rfl;(apply Ok1.add32;exact rfl;exact rfl))<;>(apply A.tk 14;exact rfl;kernel_rfl;(apply Ok1.indexAddrA;(iterate 5 exact rfl);omega;omega))<;>(apply A.one 15;kernel_rfl;exact rfl;(((apply R.store;(iterate 6 exact rfl);exact Upd.head;exact hput _)));apply R.nil;refine ⟨?_,?_⟩;(focus ((repeat' (exact trivial)))))<;>(apply A.done;kernel_rfl))))))|apply T.seq|apply T.region|apply T.block|apply T.skip|(apply T.cond_t;exact rfl)|(apply T.cond_f;exact rfl)))
        all_goals refine ⟨i+1,by omega,by omega,⟨rfl,rfl,rfl,rfl,trivial⟩,?_⟩
        all_goals rw [hsn,hnx,show 64 - (i+1)=k by omega]
        all_goals (focus (repeat' first|exact Keep.nil _|exact Ext.one _ _|apply Keep.cons);done)
    · have him:i=64:=by omega
      subst him
      rw [Nat.sub_self,List.replicate_zero,List.append_nil]
      rw [hleq]
      have hls:=u32s_len l
      rw [hsl] at hls
      have hsub:=subE_all hls
      have hset:∀ cs:List Value,cs.length=64→setE cs 0 (u32s l)=some (u32s l):=fun cs h=>setE_all (by rw [hls,h])
      have hone:=u32s_one l
      generalize u32s l=us at *
      repeat' (first|(apply R.is1;first|(apply R.isBin;(apply R.pure;exact rfl;(apply Ok1.lss_f;exact rfl;exact rfl;omega)))|(apply R.pure;exact rfl;(apply Ok1.load;exact rfl;apply Ld.ownk;exact rfl;exact rfl;exact At.head;exact hsub)))|(apply R.is0;(apply R.store;(iterate 4 exact rfl);exact hls;exact hone;(focus (repeat' first|exact Upd.head|apply Upd.tail);done);exact hset _ rfl))|apply R.nil|(apply T.is;first|apply T.seq|apply T.region|apply T.exit|apply T.ret|(apply T.cond_f;exact rfl)))
      apply RetOk.c
      exact rfl
      apply Ld.ownk
      exact rfl
      exact rfl
      (focus (repeat' first|exact At.head|apply At.tail);done)
      exact hsub
      rfl
/-- What a block's rounds hold. -/
theorem mix_ok (r:Nat) (s:H8) (rest:List Value) (e:TypeId) (p:Option Addr) (n cap:Nat) (b:List Int) (hn:n=b.length) (hl:b.length=64) (hcap:n≤cap) (hb:Byt b) (w:World) (hp:RdSl w p u8V b) (hoff:Off p [r]) :
    CallM Tryz.prog 413 [.pointer (some ⟨r,0,none⟩),.slice p n cap] [(r,.cells ⟨s.v++rest⟩ e (0,0))] w fun v L=>v = .tuple #[]∧L=[(r,.cells ⟨(mixI kI b s).v++rest⟩ e (0,0))]:=by
  refine enterK (tb:=tb) Tryz.func413 rfl Tryz.ntmps413 rfl ?_
  have hls:=u32s_len (schedI b 64)
  have hsl:=sched_len b 64
  rw [hsl] at hls
  have hset:∀ cs:List Value,cs.length=64→setE cs 0 (u32s (schedI b 64))=some (u32s (schedI b 64)):=fun cs h=>setE_all (by rw [hls,h])
  have hgw:∀ i,i < 64→(u32s (schedI b 64))[0+i * 1]? = some (.int .u32 ((schedI b 64).getD i 0)):=fun i hi=>by have:=arr_get (l:=schedI b 64) (zs:=[]) (k:=i) (by omega);rwa [List.append_nil] at this
  have hgk:∀ i,i < 64→(u32s kI)[0+i * 1]? = some (.int .u32 (kI.getD i 0)):=fun i hi=>by have:=arr_get (l:=kI) (zs:=[]) (k:=i) (by rw [kI_len];exact hi);rwa [List.append_nil] at this
  have hmix:mixI kI b s=addH s (roundsI kI (schedI b 64) s 64):=rfl
  have hr0:roundsI kI (schedI b 64) s 0=s:=rfl
  have hrs:∀ i,roundsI kI (schedI b 64) s (i+1)=stepI (roundsI kI (schedI b 64) s i) (kI.getD i 0) ((schedI b 64).getD i 0):=fun _=>rfl
  have hset2:∀ cs:List Value,cs.length=64→setE cs 0 (u32s kI)=some (u32s kI):=fun cs h=>setE_all (by rw [u32s_len,kI_len,h])
  have hspr:∀ w1,Chg [r] w w1→CallW Tryz.prog 425 [.slice p n cap] w1 fun v _=>v = .agg ⟨u32s (schedI b 64)⟩:=fun w1 hc=>spread_ok p n cap b hn hl hcap hb w1 (hp.chg hc hoff)
  have htab:=table_ok
  have hsv:subE (s.v++rest) 0 8=some s.v:=subE_app _ _ rfl
  have hset8:∀ cs:List Value,cs.length=8→setE cs 0 s.v=some s.v:=fun cs h=>setE_all (by rw [h];rfl)
  have hone:=u32s_one (schedI b 64)
  have hone2:=u32s_one kI
  have hkl:(u32s kI).length=64:=by rw [u32s_len,kI_len]
  generalize hK:u32s kI=ks at *
  generalize roundsI kI (schedI b 64) s=rs at *
  generalize hW:u32s (schedI b 64)=us at *
  repeat' (first|(apply R.is1;first|(apply R.isCall;first|(apply R.callV;(iterate 3 exact rfl);intro w1 hw1;exact hspr w1 hw1.chg)|apply R.callP rfl rfl rfl htab)|(apply R.pure;exact rfl;first|(apply Ok1.load;exact rfl;apply Ld.ownk;exact rfl;exact rfl;(focus (repeat' first|exact At.head|apply At.tail);done);exact hsv)|(apply Ok1.move;exact rfl)|(apply Ok1.fieldAddr;(iterate 5 exact rfl))|(apply Ok1.assign;exact rfl)|(apply Ok1.nilCheck;exact rfl))|(apply R.alloc;(iterate 3 exact rfl);intro))|(apply R.is0;first|(apply R.store;(iterate 4 exact rfl);exact hls;exact hone;(focus (repeat' first|exact Upd.head|apply Upd.tail);done);exact hset _ rfl)|(apply R.store;(iterate 4 exact rfl);exact hkl;exact hone2;exact Upd.head;exact hset2 _ rfl)|(apply R.store;(iterate 6 exact rfl);exact Upd.head;exact hset8 _ rfl))|apply R.nil|(apply T.is;first|apply T.seq|apply T.region|apply T.block))
  rename_i b4 b5 b6
  apply T.loopK (α:=Nat) (I:=fun i=>i≤64) (σi:=fun i=>[(0,.pointer (some ⟨r,0,none⟩)),(4,.pointer (some ⟨b4,0,none⟩)),(5,.pointer (some ⟨b5,0,none⟩)),(6,.pointer (some ⟨b6,0,none⟩)),(7,.func (.func 427) #[] #[]),(19,.int .i64 i)])
    (Li:=fun i=>[(b6,.cells ⟨(rs i).v⟩ 446 (0,0)),(b5,.cells ⟨ks⟩ 547 (0,0)),(b4,.cells ⟨us⟩ 547 (0,0)),(r,.cells ⟨s.v++rest⟩ e (0,0))]) (μ:=fun i=>64 - i) (i0:=0)
  · exact Nat.zero_le _
  · exact ⟨rfl,rfl,rfl,rfl,rfl,rfl,trivial⟩
  · rw [hr0];(focus (repeat' first|exact Keep.nil _|exact Ext.one _ _|apply Keep.cons);done)
  · intro i hi
    rcases Nat.lt_or_ge i 64 with hlt|hge
    · have g1:=hgk i hlt
      have g2:=hgw i hlt
      have hst:=hrs i
      generalize kI.getD i 0=ki at *
      generalize (schedI b 64).getD i 0=wi at *
      generalize rs i=st at *
      repeat' (first|(apply R.is1;first|(apply R.isBin;(apply R.pure;exact rfl;first|(apply Ok1.add32;exact rfl;exact rfl)|(apply Ok1.add64;exact rfl;exact rfl;omega;omega)|(apply Ok1.lss_t;exact rfl;exact rfl;omega)))|(apply R.pure;exact rfl;first|(apply Ok1.move;exact rfl)|(apply Ok1.load;exact rfl;(apply Ld.own1;exact rfl;exact rfl;exact At.head;exact rfl))|(apply Ok1.assign;exact rfl)|(apply Ok1.indexAddrA;(iterate 5 exact rfl);omega;omega)|(apply Ok1.buildA;(iterate 6 exact rfl))))|(apply R.is0;(apply R.store;(iterate 6 exact rfl);exact Upd.head;exact setE_all rfl))|apply R.nil|(apply T.is;first|(apply T.drawC (id:=6) [0,1,2] (by decide);(((apply A.tk 0;exact rfl;kernel_rfl;(apply Ok1.indexAddrA;(iterate 5 exact rfl);omega;omega));refine A.cast (listed':=#[true,false,false,false,false,false,false,false,false,false,false,false,false,false,false,false,false,false,false,false,false,false,false,false,false,false,false,false,false]) (by kernel_rfl) ?_)<;>((apply A.tk 1;exact rfl;kernel_rfl;(apply Ok1.load;exact rfl;(apply Ld.own1;exact rfl;exact rfl;exact At.head;exact rfl)));refine A.cast (listed':=#[true,true,false,false,false,false,false,false,false,false,false,false,false,false,false,false,false,false,false,false,false,false,false,false,false,false,false,false,false]) (by kernel_rfl) ?_)<;>((apply A.tk 2;exact rfl;kernel_rfl;(apply Ok1.move;exact rfl));refine A.cast (listed':=#[true,true,true,false,false,false,false,false,false,false,false,false,false,false,false,false,false,false,false,false,false,false,false,false,false,false,false,false,false]) (by kernel_rfl) ?_)<;>((apply A.tk 3;exact rfl;kernel_rfl;(apply Ok1.indexAddrA;(iterate 5 exact rfl);omega;omega));refine A.cast (listed':=#[true,true,true,true,false,false,false,false,false,false,false,false,false,false,false,false,false,false,false,false,false,false,false,false,false,false,false,false,false]) (by kernel_rfl) ?_)<;>((apply A.tk 4;exact rfl;kernel_rfl;(apply Ok1.load;exact rfl;(apply Ld.own1;exact rfl;exact rfl;exact At.head;exact rfl)));refine A.cast (listed':=#[true,true,true,true,true,false,false,false,false,false,false,false,false,false,false,false,false,false,false,false,false,false,false,false,false,false,false,false,false]) (by kernel_rfl) ?_)<;>((apply A.tk 7;exact rfl;kernel_rfl;(apply Ok1.indexAddrA;(iterate 5 exact rfl);omega;omega));refine A.cast (listed':=#[true,true,true,true,true,false,false,true,false,false,false,false,false,false,false,false,false,false,false,false,false,false,false,false,false,false,false,false,false]) (by kernel_rfl) ?_)<;>((apply A.tk 8;exact rfl;kernel_rfl;(apply Ok1.load;exact rfl;(apply Ld.own1;exact rfl;exact rfl;exact At.head;exact rfl)));refine A.cast (listed':=#[true,true,true,true,true,false,false,true,true,false,false,false,false,false,false,false,false,false,false,false,false,false,false,false,false,false,false,false,false]) (by kernel_rfl) ?_)<;>((apply A.tk 9;exact rfl;kernel_rfl;(apply Ok1.indexAddrA;(iterate 5 exact rfl);omega;omega));refine A.cast (listed':=#[true,true,true,true,true,false,false,true,true,true,false,false,false,false,false,false,false,false,false,false,false,false,false,false,false,false,false,false,false]) (by kernel_rfl) ?_)<;>((apply A.tk 10;exact rfl;kernel_rfl;(apply Ok1.load;exact rfl;(apply Ld.own1;exact rfl;exact rfl;exact At.head;exact rfl)));refine A.cast (listed':=#[true,true,true,true,true,false,false,true,true,true,true,false,false,false,false,false,false,false,false,false,false,false,false,false,false,false,false,false,false]) (by kernel_rfl) ?_)<;>((apply A.tk 11;exact rfl;kernel_rfl;(apply Ok1.andK;exact rfl;exact rfl));refine A.cast (listed':=#[true,true,true,true,true,false,false,true,true,true,true,true,false,false,false,false,false,false,false,false,false,false,false,false,false,false,false,false,false]) (by kernel_rfl) ?_)<;>((apply A.tk 12;exact rfl;kernel_rfl;(apply Ok1.indexAddrA;(iterate 5 exact rfl);omega;omega));refine A.cast (listed':=#[true,true,true,true,true,false,false,true,true,true,true,true,true,false,false,false,false,false,false,false,false,false,false,false,false,false,false,false,false]) (by kernel_rfl) ?_)<;>((apply A.tk 13;exact rfl;kernel_rfl;(apply Ok1.load;exact rfl;(apply Ld.own1;exact rfl;exact rfl;exact At.head;exact rfl)));refine A.cast (listed':=#[true,true,true,true,true,false,false,true,true,true,true,true,true,true,false,false,false,false,false,false,false,false,false,false,false,false,false,false,false]) (by kernel_rfl) ?_)<;>((apply A.tk 14;exact rfl;kernel_rfl;(apply Ok1.cplK;exact rfl;exact rfl));refine A.cast (listed':=#[true,true,true,true,true,false,false,true,true,true,true,true,true,true,true,false,false,false,false,false,false,false,false,false,false,false,false,false,false]) (by kernel_rfl) ?_)<;>((apply A.tk 15;exact rfl;kernel_rfl;(apply Ok1.indexAddrA;(iterate 5 exact rfl);omega;omega));refine A.cast (listed':=#[true,true,true,true,true,false,false,true,true,true,true,true,true,true,true,true,false,false,false,false,false,false,false,false,false,false,false,false,false]) (by kernel_rfl) ?_)<;>((apply A.tk 16;exact rfl;kernel_rfl;(apply Ok1.load;exact rfl;(apply Ld.own1;exact rfl;exact rfl;exact At.head;exact rfl)));refine A.cast (listed':=#[true,true,true,true,true,false,false,true,true,true,true,true,true,true,true,true,true,false,false,false,false,false,false,false,false,false,false,false,false]) (by kernel_rfl) ?_)<;>((apply A.tk 17;exact rfl;kernel_rfl;(apply Ok1.andK;exact rfl;exact rfl));refine A.cast (listed':=#[true,true,true,true,true,false,false,true,true,true,true,true,true,true,true,true,true,true,false,false,false,false,false,false,false,false,false,false,false]) (by kernel_rfl) ?_)<;>((apply A.tk 18;exact rfl;kernel_rfl;(apply Ok1.xorK;exact rfl;exact rfl));refine A.cast (listed':=#[true,true,true,true,true,false,false,true,true,true,true,true,true,true,true,true,true,true,true,false,false,false,false,false,false,false,false,false,false]) (by kernel_rfl) ?_)<;>((apply A.tk 20;exact rfl;kernel_rfl;(apply Ok1.move;exact rfl));refine A.cast (listed':=#[true,true,true,true,true,false,false,true,true,true,true,true,true,true,true,true,true,true,true,false,true,false,false,false,false,false,false,false,false]) (by kernel_rfl) ?_)<;>((apply A.tk 21;exact rfl;kernel_rfl;(apply Ok1.indexAddrA;(iterate 5 exact rfl);omega;omega));refine A.cast (listed':=#[true,true,true,true,true,false,false,true,true,true,true,true,true,true,true,true,true,true,true,false,true,true,false,false,false,false,false,false,false]) (by kernel_rfl) ?_)<;>((apply A.tk 22;exact rfl;kernel_rfl;(apply Ok1.load;exact rfl;apply Ld.own1;exact rfl;exact rfl;(focus (repeat' first|exact At.head|apply At.tail);done);exact g1));refine A.cast (listed':=#[true,true,true,true,true,false,false,true,true,true,true,true,true,true,true,true,true,true,true,false,true,true,true,false,false,false,false,false,false]) (by kernel_rfl) ?_)<;>((apply A.tk 24;exact rfl;kernel_rfl;(apply Ok1.move;exact rfl));refine A.cast (listed':=#[true,true,true,true,true,false,false,true,true,true,true,true,true,true,true,true,true,true,true,false,true,true,true,false,true,false,false,false,false]) (by kernel_rfl) ?_)<;>((apply A.tk 25;exact rfl;kernel_rfl;(apply Ok1.indexAddrA;(iterate 5 exact rfl);omega;omega));refine A.cast (listed':=#[true,true,true,true,true,false,false,true,true,true,true,true,true,true,true,true,true,true,true,false,true,true,true,false,true,true,false,false,false]) (by kernel_rfl) ?_)<;>((apply A.tk 26;exact rfl;kernel_rfl;(apply Ok1.load;exact rfl;apply Ld.own1;exact rfl;exact rfl;(focus (repeat' first|exact At.head|apply At.tail);done);exact g2));refine A.cast (listed':=#[true,true,true,true,true,false,false,true,true,true,true,true,true,true,true,true,true,true,true,false,true,true,true,false,true,true,true,false,false]) (by kernel_rfl) ?_)<;>(apply A.one 5;kernel_rfl;exact rfl;(((apply R.callFP (fa:=[]) (cb:=[]);(iterate 4 exact rfl);exact turnedA_ok _)));apply R.nil;refine ⟨?_,?_⟩;(focus (repeat' first|exact trivial|exact At.head|apply At.tail|refine ⟨?_,?_⟩)))<;>((apply A.tk 6;exact rfl;kernel_rfl;(apply Ok1.add32;exact rfl;exact rfl));refine A.cast (listed':=#[true,true,true,true,true,true,true,true,true,true,true,true,true,true,true,true,true,true,true,false,true,true,true,false,true,true,true,false,false]) (by kernel_rfl) ?_)<;>((apply A.tk 19;exact rfl;kernel_rfl;(apply Ok1.add32;exact rfl;exact rfl));refine A.cast (listed':=#[true,true,true,true,true,true,true,true,true,true,true,true,true,true,true,true,true,true,true,true,true,true,true,false,true,true,true,false,false]) (by kernel_rfl) ?_)<;>((apply A.tk 23;exact rfl;kernel_rfl;(apply Ok1.add32;exact rfl;exact rfl));refine A.cast (listed':=#[true,true,true,true,true,true,true,true,true,true,true,true,true,true,true,true,true,true,true,true,true,true,true,true,true,true,true,false,false]) (by kernel_rfl) ?_)<;>((apply A.tk 27;exact rfl;kernel_rfl;(apply Ok1.add32;exact rfl;exact rfl));refine A.cast (listed':=#[true,true,true,true,true,true,true,true,true,true,true,true,true,true,true,true,true,true,true,true,true,true,true,true,true,true,true,true,false]) (by kernel_rfl) ?_)<;>((apply A.tk 28;exact rfl;kernel_rfl;(apply Ok1.assign;exact rfl));refine A.cast (listed':=#[true,true,true,true,true,true,true,true,true,true,true,true,true,true,true,true,true,true,true,true,true,true,true,true,true,true,true,true,true]) (by kernel_rfl) ?_)<;>(apply A.done;kernel_rfl)))|(apply T.drawC (id:=7) [0,1,2] (by decide);((apply A.tk 0;exact rfl;kernel_rfl;(apply Ok1.move;exact rfl))<;>(apply A.tk 1;exact rfl;kernel_rfl;(apply Ok1.indexAddrA;(iterate 5 exact rfl);omega;omega))<;>(apply A.tk 2;exact rfl;kernel_rfl;(apply Ok1.load;exact rfl;(apply Ld.own1;exact rfl;exact rfl;exact At.head;exact rfl)))<;>(apply A.tk 4;exact rfl;kernel_rfl;(apply Ok1.indexAddrA;(iterate 5 exact rfl);omega;omega))<;>(apply A.tk 5;exact rfl;kernel_rfl;(apply Ok1.load;exact rfl;(apply Ld.own1;exact rfl;exact rfl;exact At.head;exact rfl)))<;>(apply A.tk 6;exact rfl;kernel_rfl;(apply Ok1.indexAddrA;(iterate 5 exact rfl);omega;omega))<;>(apply A.tk 7;exact rfl;kernel_rfl;(apply Ok1.load;exact rfl;(apply Ld.own1;exact rfl;exact rfl;exact At.head;exact rfl)))<;>(apply A.tk 8;exact rfl;kernel_rfl;(apply Ok1.andK;exact rfl;exact rfl))<;>(apply A.tk 9;exact rfl;kernel_rfl;(apply Ok1.indexAddrA;(iterate 5 exact rfl);omega;omega))<;>(apply A.tk 10;exact rfl;kernel_rfl;(apply Ok1.load;exact rfl;(apply Ld.own1;exact rfl;exact rfl;exact At.head;exact rfl)))<;>(apply A.tk 11;exact rfl;kernel_rfl;(apply Ok1.indexAddrA;(iterate 5 exact rfl);omega;omega))<;>(apply A.tk 12;exact rfl;kernel_rfl;(apply Ok1.load;exact rfl;(apply Ld.own1;exact rfl;exact rfl;exact At.head;exact rfl)))<;>(apply A.tk 13;exact rfl;kernel_rfl;(apply Ok1.andK;exact rfl;exact rfl))<;>(apply A.tk 14;exact rfl;kernel_rfl;(apply Ok1.xorK;exact rfl;exact rfl))<;>(apply A.tk 15;exact rfl;kernel_rfl;(apply Ok1.indexAddrA;(iterate 5 exact rfl);omega;omega))<;>(apply A.tk 16;exact rfl;kernel_rfl;(apply Ok1.load;exact rfl;(apply Ld.own1;exact rfl;exact rfl;exact At.head;exact rfl)))<;>(apply A.tk 17;exact rfl;kernel_rfl;(apply Ok1.indexAddrA;(iterate 5 exact rfl);omega;omega))<;>(apply A.tk 18;exact rfl;kernel_rfl;(apply Ok1.load;exact rfl;(apply Ld.own1;exact rfl;exact rfl;exact At.head;exact rfl)))<;>(apply A.tk 19;exact rfl;kernel_rfl;(apply Ok1.andK;exact rfl;exact rfl))<;>(apply A.tk 20;exact rfl;kernel_rfl;(apply Ok1.xorK;exact rfl;exact rfl))<;>(apply A.one 3;kernel_rfl;exact rfl;(((apply R.callFP (fa:=[]) (cb:=[]);(iterate 4 exact rfl);exact turnedB_ok _)));apply R.nil;refine ⟨?_,?_⟩;(focus (repeat' first|exact trivial|exact At.head|apply At.tail|refine ⟨?_,?_⟩)))<;>(apply A.tk 21;exact rfl;kernel_rfl;(apply Ok1.add32;exact rfl;exact rfl))<;>(apply A.tk 22;exact rfl;kernel_rfl;(apply Ok1.assign;exact rfl))<;>(apply A.done;kernel_rfl)))|apply T.seq|apply T.region|apply T.block|apply T.skip|(apply T.cond_t;exact rfl)))
      refine ⟨i+1,by omega,by omega,⟨rfl,rfl,rfl,rfl,rfl,rfl,trivial⟩,?_⟩
      rw [hst]
      (focus (repeat' first|exact Keep.nil _|exact Ext.one _ _|apply Keep.cons);done)
    · have him:i=64:=by omega
      subst him
      rw [hmix]
      generalize rs 64=t at *
      clear hset hset2 hgk hgw hspr
      simp only [H8.v,H8.l,u32s,List.map_cons,List.map_nil,List.cons_append,List.nil_append]
      repeat' (first|(apply R.is1;first|(apply R.isBin;(apply R.pure;exact rfl;first|(apply Ok1.add64;exact rfl;exact rfl;omega;omega)|(apply Ok1.lss_t;exact rfl;exact rfl;omega)|(apply Ok1.lss_f;exact rfl;exact rfl;omega)))|(apply R.pure;exact rfl;first|(apply Ok1.move;exact rfl)|(apply Ok1.assign;exact rfl)))|apply R.nil|(apply T.is;first|apply T.rounds 9|(apply T.drawC (id:=13) [0] (by decide);((apply A.tk 0;exact rfl;kernel_rfl;(apply Ok1.move;exact rfl))<;>(apply A.tk 1;exact rfl;kernel_rfl;(apply Ok1.move;exact rfl))<;>(apply A.tk 2;exact rfl;kernel_rfl;(apply Ok1.nilCheck;exact rfl))<;>(apply A.tk 3;exact rfl;kernel_rfl;(apply Ok1.fieldAddr;(iterate 5 exact rfl)))<;>(apply A.tk 4;exact rfl;kernel_rfl;(apply Ok1.indexAddrA;(iterate 5 exact rfl);omega;omega))<;>(apply A.tk 6;exact rfl;kernel_rfl;(apply Ok1.move;exact rfl))<;>(apply A.tk 7;exact rfl;kernel_rfl;(apply Ok1.indexAddrA;(iterate 5 exact rfl);omega;omega))<;>(apply A.tk 8;exact rfl;kernel_rfl;(apply Ok1.load;exact rfl;(apply Ld.own1;exact rfl;exact rfl;exact At.head;exact rfl)))<;>(apply A.tk 10;exact rfl;kernel_rfl;(apply Ok1.nilCheck;exact rfl))<;>(apply A.tk 11;exact rfl;kernel_rfl;(apply Ok1.fieldAddr;(iterate 5 exact rfl)))<;>(apply A.one 5;kernel_rfl;exact rfl;(((apply R.pure;exact rfl;(apply Ok1.load;exact rfl;(apply Ld.own1;exact rfl;exact rfl;(focus (repeat' first|exact At.head|apply At.tail);done);exact rfl)))));apply R.nil;refine ⟨?_,?_⟩;(focus ((repeat' (first|exact trivial|(refine ⟨?_,?_⟩;exact At.head))))))<;>(apply A.tk 9;exact rfl;kernel_rfl;(apply Ok1.add32;exact rfl;exact rfl))<;>(apply A.tk 12;exact rfl;kernel_rfl;(apply Ok1.indexAddrA;(iterate 5 exact rfl);omega;omega))<;>(apply A.one 13;kernel_rfl;exact rfl;((first|(apply R.store;(iterate 6 exact rfl);(focus (repeat' first|exact Upd.head|apply Upd.tail);done);exact rfl)|(apply R.store;(iterate 6 exact rfl);(focus (repeat' first|exact Upd.head|apply Upd.tail);done);exact setE_one (by simp only [List.length_cons];omega))));apply R.nil;refine ⟨?_,?_⟩;(focus ((repeat' (first|exact trivial|(refine ⟨?_,?_⟩;exact At.head))))))<;>(apply A.done;kernel_rfl)))|apply T.seq|apply T.region|apply T.block|apply T.skip|apply T.exit|(apply T.cond_t;exact rfl)|(apply T.cond_f;exact rfl)))
      all_goals (apply RetOk.n)
      all_goals refine ⟨_,?_,rfl,rfl⟩
      all_goals (focus (repeat' first|exact Keep.nil _|exact Ext.one _ _|apply Keep.cons|apply Ext.cons);done)
theorem u8s_app (a b:List Int):u8s (a++b)=u8s a++u8s b:=by simp [u8s]
theorem u8s_len (a:List Int):(u8s a).length=a.length:=by simp [u8s]
theorem u8s_one (a:List Int):(u8s a).all Value.oneCell'=true:=by rw [List.all_eq_true];intro x hx;obtain ⟨y,_,rfl⟩:=List.mem_map.1 hx;rfl
theorem Byt.app {a b:List Int} (h1:Byt a) (h2:Byt b):Byt (a++b):=fun x hx=>by rcases List.mem_append.1 hx with h|h;exact h1 x h;exact h2 x h
theorem Byt.drop {a:List Int} (h:Byt a) (i:Nat):Byt (a.drop i):=fun x hx=>h x (List.mem_of_mem_drop hx)
theorem Byt.take {a:List Int} (h:Byt a) (i:Nat):Byt (a.take i):=fun x hx=>h x (List.mem_of_mem_take hx)
/-- p' reads as p does,from k on. -/
structure Sfx (p p':Option Addr) (n k:Nat):Prop where
  rd:∀ (W:World) (xs:List Int),xs.length=n→RdSl W p u8V xs→RdSl W p' u8V (xs.drop k)
  off:∀ S,Off p S→Off p' S
theorem Sfx.refl (p:Option Addr) (n:Nat):Sfx p p n 0:=⟨fun W xs _ h=>h,fun _ h=>h⟩
theorem Sfx.suf {p p':Option Addr} {n k c i:Nat} (h:Sfx p p' n k) (h1:k+i≤n) (h2:n - k≤c):Sfx p (sufP p' c i 1) n (k+i) :=
  ⟨fun W xs hl hp=>by
    have:=(h.rd W xs hl hp).suf u8V_len (cap:=c) (i:=i) (by rw [List.length_drop];omega) (by rw [List.length_drop];omega)
    rwa [List.drop_drop] at this,fun S ho=>(h.off S ho).suf _ _ _⟩
theorem allI_step (b:List Int) (s:H8) {i:Nat} (h:64 * i+64≤b.length):allI kI (i+1) b s=mixI kI ((b.drop (64 * i)).take 64) (allI kI i b s):=by
  induction i generalizing b s with
  | zero=>rfl
  | succ i ih =>
    rw [allI,ih (b.drop 64) (mixI kI (b.take 64) s) (by rw [List.length_drop];omega),List.drop_drop,show 64+64 * i=64 * (i+1) by omega]
    rfl
theorem all_ok (r:Nat) (s:H8) (rest:List Value) (e:TypeId) (p:Option Addr) (n cap:Nat) (b:List Int) (hn:n=b.length) (hcap:n≤cap) (hbig:n≤1073741824) (hb:Byt b) (w:World) (hp:RdSl w p u8V b) (hoff:Off p [r]) :
    CallM Tryz.prog 376 [.pointer (some ⟨r,0,none⟩),.slice p n cap] [(r,.cells ⟨s.v++rest⟩ e (0,0))] w fun v L=>∃ p' cap',v = .slice p' (n - 64 * (n / 64)) cap' ∧ n - 64 * (n / 64)≤cap' ∧ Sfx p p' n (64 * (n / 64))∧L=[(r,.cells ⟨(allI kI (n / 64) b s).v++rest⟩ e (0,0))]:=by
  refine enterK (tb:=tb) Tryz.func376 rfl Tryz.ntmps376 rfl ?_
  repeat' (first|(apply R.is1;(apply R.pure;exact rfl;(apply Ok1.assign;exact rfl)))|apply R.nil|(apply T.is;first|apply T.seq|apply T.region|apply T.block))
  apply T.loopK (α:=Nat × Option Addr × Nat) (I:=fun x=>64 * x.1≤n∧n - 64 * x.1≤x.2.2∧Sfx p x.2.1 n (64 * x.1)) (σi:=fun x=>[(0,.pointer (some ⟨r,0,none⟩)),(1,.slice x.2.1 (n - 64 * x.1) x.2.2)]) (Li:=fun x=>[(r,.cells ⟨(allI kI x.1 b s).v++rest⟩ e (0,0))]) (μ:=fun x=>n - 64 * x.1) (i0:=(0,p,cap))
  · exact ⟨by omega,by simpa using hcap,Sfx.refl p n⟩
  · exact ⟨rfl,rfl,trivial⟩
  · (focus (repeat' first|exact Keep.nil _|exact Ext.one _ _|apply Keep.cons);done)
  · rintro ⟨i,p1,c1⟩ ⟨hi,hc,hs⟩
    simp only at hi hc hs ⊢
    by_cases hlt:64 * i+64≤n
    · have hst:=allI_step b s (i:=i) (by omega)
      have hmix:∀ w1,Chg [r] w w1→CallM Tryz.prog 413 [.pointer (some ⟨r,0,none⟩),.slice p1 64 c1] [(r,.cells ⟨(allI kI i b s).v++rest⟩ e (0,0))] w1 fun v L=>v = .tuple #[]∧L=[(r,.cells ⟨(allI kI (i+1) b s).v++rest⟩ e (0,0))]:=by
        intro w1 hch
        rw [hst]
        have hrd:=(hs.rd w1 b hn.symm (hp.chg hch hoff)).pre u8V_len 64
        exact mix_ok r _ rest e p1 64 c1 ((b.drop (64 * i)).take 64) (by rw [List.length_take,List.length_drop];omega) (by rw [List.length_take,List.length_drop];omega) (by omega) ((hb.drop _).take _) w1 hrd (hs.off _ hoff)
      have hnew:Sfx p (sufP p1 c1 64 1) n (64 * i+64):=hs.suf (by omega) (by omega)
      repeat' (first|(apply R.is1;first|(apply R.isBin;(apply R.pure;exact rfl;(apply Ok1.geq_t;exact rfl;exact rfl;omega)))|(apply R.isCall;first|(apply R.callE;(iterate 3 exact rfl);exact Ext.all _;intro w1 hw1;exact hmix w1 hw1.chg;rintro v Lo ⟨rfl,rfl⟩)|(apply R.pure;exact rfl;(apply Ok1.lenS;(iterate 3 exact rfl))))|(apply R.pure;exact rfl;first|(apply Ok1.preR (i:=64);(iterate 5 exact rfl);omega)|(apply Ok1.sufR (i:=64) (sz:=1);(iterate 6 exact rfl);omega;omega)|(apply Ok1.move;exact rfl)|(apply Ok1.assign;exact rfl)))|apply R.nil|(apply T.is;first|apply T.seq|apply T.region|apply T.block|apply T.skip|(apply T.cond_t;exact rfl)))
      refine ⟨(i+1,sufP p1 c1 64 1,c1 - 64),⟨by simp only;omega,by simp only;omega,hnew⟩,by simp only;omega,⟨rfl,?_,trivial⟩,by (focus (repeat' first|exact Keep.nil _|exact Ext.one _ _|apply Keep.cons);done)⟩
      rw [show n - 64 * (i+1)=n - 64 * i - 64 by omega]
      rfl
    · have hdiv:n / 64=i:=by omega
      repeat' (first|(apply R.is1;first|(apply R.isBin;(apply R.pure;exact rfl;(apply Ok1.geq_f;exact rfl;exact rfl;omega)))|(apply R.isCall;(apply R.pure;exact rfl;(apply Ok1.lenS;(iterate 3 exact rfl))))|(apply R.pure;exact rfl;first|(apply Ok1.move;exact rfl)|(apply Ok1.assign;exact rfl)))|apply R.nil|(apply T.is;first|apply T.seq|apply T.region|apply T.exit|apply T.ret|(apply T.cond_f;exact rfl)))
      (apply RetOk.t;exact rfl)
      refine ⟨_,?_,p1,c1,by rw [hdiv],by rw [hdiv];exact hc,by rw [hdiv];exact hs,rfl⟩
      rw [hdiv]
      (focus (repeat' first|exact Keep.nil _|exact Ext.one _ _|apply Keep.cons);done)
theorem u8_mod (i:Int):IntKind.u8.wrap i=i % 256:=by simp [IntKind.wrap,IntKind.bits,IntKind.signed]
theorem out_ok (r:Nat) (s:H8) (rest:List Value) (e:TypeId) (fz:Nat × Nat) (w:World) (hb:w.heap[r]? = some (.cells ⟨s.v++rest⟩ e fz)):CallW Tryz.prog 378 [.pointer (some ⟨r,0,none⟩)] w fun v _=>v = .agg ⟨u8s (outI s)⟩:=by
  have hsv:subE (s.v++rest) 0 8=some s.v:=subE_app _ _ rfl
  refine enterW (tb:=tb) Tryz.func378 rfl Tryz.ntmps378 rfl ?_
  repeat' (first|(apply R.is1;first|(apply R.pure;exact rfl;first|(apply Ok1.load;exact rfl;apply Ld.blkk;exact rfl;exact rfl;exact hb;exact List.not_mem_nil;exact hsv)|(apply Ok1.move;exact rfl)|(apply Ok1.fieldAddr;(iterate 5 exact rfl))|(apply Ok1.nilCheck;exact rfl))|(apply R.alloc;(iterate 3 exact rfl);intro))|apply R.nil|(apply T.is;first|apply T.seq|apply T.region|apply T.block))
  simp only [H8.v,H8.l,u32s,List.map_cons,List.map_nil]
  repeat' (first|(apply R.is1;first|(apply R.isBin;(apply R.pure;exact rfl;first|(apply Ok1.add64;exact rfl;exact rfl;omega;omega)|(apply Ok1.lss_t;exact rfl;exact rfl;omega)|(apply Ok1.lss_f;exact rfl;exact rfl;omega)|(apply Ok1.mul64;exact rfl;exact rfl;omega;omega)|(apply Ok1.shr;exact rfl;exact rfl;omega;exact Nat.le_of_ble_eq_true rfl;(first|exact pwE8|exact pwE16|exact pwE24))))|(apply R.pure;exact rfl;first|(apply Ok1.move;exact rfl)|(apply Ok1.load;exact rfl;(apply Ld.ownk;exact rfl;exact rfl;exact At.head;exact rfl))|(apply Ok1.assign;exact rfl)|(apply Ok1.indexAddrA;(iterate 5 exact rfl);omega;omega)|(apply Ok1.index1;(iterate 6 exact rfl);omega;omega;exact rfl)|(apply Ok1.conv;(iterate 5 exact rfl))))|(apply R.is0;(apply R.store;(iterate 6 exact rfl);(focus (repeat' first|exact Upd.head|apply Upd.tail);done);exact rfl))|apply R.nil|(apply T.is;first|apply T.rounds 9|apply T.seq|apply T.region|apply T.block|apply T.skip|apply T.exit|apply T.ret|(apply T.cond_t;exact rfl)|(apply T.cond_f;exact rfl)))
  (apply RetOk.c;exact rfl;((apply Ld.ownk;exact rfl;exact rfl;(focus (repeat' first|exact At.head|apply At.tail);done);exact rfl)))
  simp only [u8_mod]
  rfl
theorem rdnone {n:Nat} {xs:List Int} {w:World} (hn:n=xs.length) (h:RdSl w none u8V xs):n=0:=by
  rcases h with h|⟨b,o,h,_⟩
  · rw [hn,h];rfl
  · cases h
theorem clone_ok (p:Option Addr) (n cap:Nat) (xs:List Int) (hn:n=xs.length) (hbig:n≤1000000000) (w:World) (hp:RdSl w p u8V xs):CallM Tryz.prog 132 [.slice p n cap] [] w fun v L=>∃ ov,OvOk 1 ov n (u8s xs)∧ov.isSome=p.isSome∧v=slV ov n∧L=blkL 5 ov (u8s xs):=by
  refine enterK (tb:=tb) Tryz.func132 rfl Tryz.ntmps132 rfl ?_
  cases p with
  | none =>
    have h0:=rdnone hn hp
    have hx:xs=[]:=List.eq_nil_of_length_eq_zero (by omega)
    subst hx
    repeat' (first|(apply R.is1;first|(apply R.isBin;(apply R.pure;exact rfl;(apply Ok1.eqlS;(iterate 5 exact rfl))))|(apply R.pure;exact rfl;first|(apply Ok1.move;exact rfl)|(apply Ok1.assign;exact rfl)))|apply R.nil|(apply T.is;first|apply T.seq|apply T.region|apply T.ret|(apply T.cond_t;exact rfl)))
    (apply RetOk.t;exact rfl)
    exact ⟨_,by (focus ((repeat' (exact Keep.nil _));done)),none,by rw [h0];exact OvOk.start 1,rfl,rfl,rfl⟩
  | some a =>
    repeat' (first|(apply R.is1;first|(apply R.buildSlice0;(iterate 4 exact rfl);intro b0)|(apply R.isBin;(apply R.pure;exact rfl;(apply Ok1.eqlS;(iterate 5 exact rfl))))|(apply R.isCall;(apply R.appendRd (xs:=xs) (v:=u8V) (sz:=1) (ov:=some (b0,0,[])) (n:=0) (old:=[]);(iterate 12 exact rfl);exact ⟨rfl,rfl⟩;(focus ((repeat' (exact Ext.one _ _));done));exact hn;exact u8V_len;exact rfl;(intro w1 hw1;exact hp.chg hw1.chg (Off.nil _));(focus (rw [fl_u8];exact u8s_one xs));omega;intro ov1 hov1 hsome))|(apply R.pure;exact rfl;first|(apply Ok1.move;exact rfl)|(apply Ok1.assign;exact rfl)))|apply R.nil|(apply T.is;first|apply T.seq|apply T.region|apply T.skip|apply T.ret|(apply T.cond_f;exact rfl)))
    rw [Nat.zero_add,List.nil_append,fl_u8] at hov1
    rw [Nat.zero_add,List.nil_append,fl_u8]
    repeat' (fail)
    (apply RetOk.t;exact rfl)
    refine ⟨_,?_,ov1,hov1,by rw [hsome rfl];rfl,rfl,rfl⟩
    (focus (repeat' first|exact Ext.here _ _|apply Keep.last);done)
theorem grow_ok (n:Nat) (hbig:n≤1000000000) (w:World):CallM Tryz.prog 302 [.slice none 0 0,.int .i64 n] [] w fun v L=>∃ ov,OvOk 1 ov 0 []∧v=slV ov 0∧L=blkL 5 ov []:=by
  refine enterK (tb:=tb) Tryz.func302 rfl Tryz.ntmps302 rfl ?_
  rcases Nat.eq_zero_or_pos n with h0|h0
  · subst h0
    repeat' (first|(apply R.is1;first|(apply R.isBin;(apply R.pure;exact rfl;first|(apply Ok1.sub64;exact rfl;exact rfl;omega;omega)|(apply Ok1.lss_f;exact rfl;exact rfl;omega)|(apply Ok1.gtr_f;exact rfl;exact rfl;omega)))|(apply R.isCall;(apply R.pure;exact rfl;(apply Ok1.lenS;(iterate 3 exact rfl))))|(apply R.pure;exact rfl;first|(apply Ok1.capS;(iterate 3 exact rfl))|(apply Ok1.move;exact rfl)|(apply Ok1.assign;exact rfl)))|apply R.nil|(apply T.is;first|apply T.seq|apply T.region|apply T.skip|apply T.ret|(apply T.cond_f;exact rfl)))
    (apply RetOk.t;exact rfl)
    exact ⟨_,by (focus ((repeat' (exact Keep.nil _));done)),none,OvOk.start 1,rfl,rfl⟩
  · repeat' (first|(apply R.is1;first|(apply R.isBin;(apply R.pure;exact rfl;first|(apply Ok1.sub64;exact rfl;exact rfl;omega;omega)|(apply Ok1.lss_f;exact rfl;exact rfl;omega)|(apply Ok1.gtr_t;exact rfl;exact rfl;omega)))|(apply R.isCall;first|(apply R.growMk (n:=n);(iterate 12 exact rfl);omega;omega;intro b0 j0)|(apply R.pure;exact rfl;(apply Ok1.lenS;(iterate 3 exact rfl))))|(apply R.pure;exact rfl;first|(apply Ok1.capS;(iterate 3 exact rfl))|(apply Ok1.move;exact rfl)|(apply Ok1.assign;exact rfl)|(apply Ok1.slice0;(iterate 7 exact rfl);(refine ⟨?_,?_,?_⟩<;>omega);(exact Or.inl rfl))|(apply Ok1.sliceTo;(iterate 6 exact rfl);omega;omega;omega;(exact Or.inl rfl))))|apply R.nil|(apply T.is;first|apply T.seq|apply T.region|apply T.skip|apply T.ret|(apply T.cond_t;exact rfl)|(apply T.cond_f;exact rfl)))
    (apply RetOk.t;exact rfl)
    refine ⟨_,?_,some (b0,n+j0,List.replicate (n+j0) (.int .u8 0)),⟨rfl,by simp⟩,by simp [slV];omega,rfl⟩
    simp only [blkL,List.nil_append]
    (focus (repeat' first|exact Keep.nil _|exact Ext.one _ _|apply Keep.cons);done)
/-- A part: a slice of bytes. -/
structure Pt where
  p:Option Addr
  cap:Nat
  xs:List Int
deriving Inhabited
def Pt.v (x:Pt):List Value:=[.slice x.p x.xs.length x.cap]
theorem Pt.v_len (x:Pt):x.v.length=1:=rfl
def cat (ps:List Pt):List Int:=ps.flatMap (·.xs)
theorem cat_nil:cat []=[]:=rfl
theorem cat_snoc {ps:List Pt} {i:Nat} {x:Pt} (h:ps[i]? = some x):cat (ps.take (i+1))=cat (ps.take i)++x.xs:=by
  unfold cat
  rw [List.take_add_one,h,List.flatMap_append]
  simp
theorem cat_le (ps:List Pt) (i:Nat):(cat (ps.take i)).length≤(cat ps).length:=by
  conv=>rhs;rw [← List.take_append_drop i ps]
  unfold cat
  rw [List.flatMap_append,List.length_append]
  omega
theorem concat_ok (p:Option Addr) (n cap:Nat) (ps:List Pt) (hn:n=ps.length) (hbig:(cat ps).length≤1000000000) (hbig2:n≤1000000000) (w:World) (hp:RdSl w p Pt.v ps) (hall:∀ x∈ps,RdSl w x.p u8V x.xs) :
    CallM Tryz.prog 208 [.slice p n cap] [] w fun v L=>∃ ov,OvOk 1 ov (cat ps).length (u8s (cat ps))∧v=slV ov (cat ps).length∧L=blkL 5 ov (u8s (cat ps)):=by
  subst hn
  refine enterK (tb:=tb) Tryz.func208 rfl Tryz.ntmps208 rfl ?_
  repeat' (first|(apply R.is1;first|(apply R.isCall;(apply R.pure;exact rfl;(apply Ok1.lenS;(iterate 3 exact rfl))))|(apply R.pure;exact rfl;first|(apply Ok1.move;exact rfl)|(apply Ok1.assign;exact rfl)))|apply R.nil|(apply T.is;first|apply T.seq|apply T.region|apply T.block))
  apply T.loopK (α:=Nat) (I:=fun i=>i≤ps.length) (σi:=fun i=>[(0,.slice p ps.length cap),(3,.int .i64 (cat (ps.take i)).length),(9,.slice p ps.length cap),(10,.int .i64 ps.length),(11,.int .i64 i)]) (Li:=fun _=>[]) (μ:=fun i=>ps.length - i) (i0:=0)
  · exact Nat.zero_le _
  · exact ⟨rfl,rfl,rfl,rfl,rfl,trivial⟩
  · (focus ((repeat' (exact Keep.nil _));done))
  · intro i hi
    have hle:=cat_le ps i
    rcases Nat.lt_or_ge i ps.length with hlt|hge
    · obtain ⟨x,hx⟩:∃ x,ps[i]? = some x:=⟨_,List.getElem?_eq_getElem (by omega)⟩
      obtain ⟨b,o,hpe,H⟩:=hp.at hx
      replace H:=H 1 Pt.v_len
      have hs:=cat_snoc hx
      have hl:=congrArg List.length hs
      rw [List.length_append] at hl
      have hle2:=cat_le ps (i+1)
      repeat' (first|(apply R.is1;first|(apply R.isBin;(apply R.pure;exact rfl;first|(apply Ok1.add64;exact rfl;exact rfl;omega;omega)|(apply Ok1.lss_t;exact rfl;exact rfl;omega)|(apply Ok1.lss_f;exact rfl;exact rfl;omega)))|(apply R.isCall;(apply R.pure;exact rfl;(apply Ok1.lenS;(iterate 3 exact rfl))))|(apply R.pure;exact rfl;first|(apply Ok1.indexAddrP;(iterate 4 exact rfl);exact hpe;exact rfl;omega;omega)|(apply Ok1.load;exact rfl;apply Ld.row0 H;exact rfl;exact List.not_mem_nil;(iterate 3 exact rfl))|(apply Ok1.move;exact rfl)|(apply Ok1.assign;exact rfl)))|apply R.nil|(apply T.is;first|apply T.seq|apply T.region|apply T.block|apply T.skip|(apply T.cond_t;exact rfl)|(apply T.cond_f;exact rfl)))
      refine ⟨i+1,by omega,by omega,⟨rfl,?_,rfl,rfl,rfl,trivial⟩,by (focus ((repeat' (exact Keep.nil _));done))⟩
      rw [hl]
      rfl
    · have him:i=ps.length:=by omega
      subst him
      rw [List.take_length]
      have hgr:=fun w1=>grow_ok (cat ps).length hbig w1
      repeat' (first|(apply R.is1;first|(apply R.isBin;(apply R.pure;exact rfl;(apply Ok1.lss_f;exact rfl;exact rfl;omega)))|(apply R.isCall;first|(apply R.callE;(iterate 3 exact rfl);exact Ext.none _;intro w1 hw1;exact hgr w1;rintro v Lo ⟨ov0,hov0,rfl,rfl⟩)|(apply R.pure;exact rfl;(apply Ok1.lenS;(iterate 3 exact rfl))))|(apply R.pure;exact rfl;first|(apply Ok1.move;exact rfl)|(apply Ok1.assign;exact rfl)))|apply R.nil|(apply T.is;first|apply T.seq|apply T.region|apply T.block|apply T.exit|(apply T.cond_f;exact rfl)))
      apply T.loopK (α:=Nat × Ov) (I:=fun y=>y.1≤ps.length∧OvOk 1 y.2 (cat (ps.take y.1)).length (u8s (cat (ps.take y.1)))) (σi:=fun y=>[(6,slV y.2 (cat (ps.take y.1)).length),(25,.slice p ps.length cap),(26,.int .i64 ps.length),(27,.int .i64 y.1)]) (Li:=fun y=>blkL 5 y.2 (u8s (cat (ps.take y.1)))) (μ:=fun y=>ps.length - y.1) (i0:=(0,ov0))
      · exact ⟨Nat.zero_le _,hov0⟩
      · exact ⟨rfl,rfl,rfl,rfl,trivial⟩
      · simp only [List.take_zero,cat_nil]
        change Keep _ (blkL 5 ov0 [])
        (focus (repeat' first|exact Ext.here _ _|apply Keep.last);done)
      · rintro ⟨i,ov⟩ ⟨hi,hov⟩
        simp only at hi hov ⊢
        rcases Nat.lt_or_ge i ps.length with hlt|hge
        · obtain ⟨x,hx⟩:∃ x,ps[i]? = some x:=⟨_,List.getElem?_eq_getElem (by omega)⟩
          obtain ⟨b,o,hpe,H⟩:=hp.at hx
          replace H:=H 1 Pt.v_len
          have hs:=cat_snoc hx
          have hl:=congrArg List.length hs
          rw [List.length_append] at hl
          have hle2:=cat_le ps (i+1)
          have hrd:=hall x (List.mem_of_getElem? hx)
          repeat' (first|(apply R.is1;first|(apply R.isBin;(apply R.pure;exact rfl;first|(apply Ok1.add64;exact rfl;exact rfl;omega;omega)|(apply Ok1.lss_t;exact rfl;exact rfl;omega)))|(apply R.isCall;(apply R.appendRd (xs:=x.xs) (v:=u8V) (sz:=1) (ov:=ov) (n:=(cat (ps.take i)).length) (old:=u8s (cat (ps.take i)));(iterate 12 exact rfl);exact hov;(focus ((repeat' (exact Ext.all _));done));exact rfl;exact u8V_len;exact rfl;(intro w1 hw1;exact hrd.chg hw1.chg (Off.nil _));(focus (rw [fl_u8];exact u8s_one x.xs));omega;intro ov1 hov1 hsome))|(apply R.pure;exact rfl;first|(apply Ok1.indexAddrP;(iterate 4 exact rfl);exact hpe;exact rfl;omega;omega)|(apply Ok1.load;exact rfl;apply Ld.row0 H;exact rfl;exact List.not_mem_nil;(iterate 3 exact rfl))|(apply Ok1.move;exact rfl)|(apply Ok1.assign;exact rfl)))|apply R.nil|(apply T.is;first|apply T.seq|apply T.region|apply T.block|apply T.skip|(apply T.cond_t;exact rfl)))
          rw [fl_u8,← u8s_app,← hs,← hl] at hov1
          rw [fl_u8,← u8s_app,← hs,← hl]
          repeat' (fail)
          exact ⟨(i+1,ov1),⟨by simp only;omega,hov1⟩,by simp only;omega,⟨rfl,rfl,rfl,rfl,trivial⟩,by (focus (repeat' first|exact Ext.here _ _|apply Keep.last);done)⟩
        · have him:i=ps.length:=by omega
          subst him
          rw [List.take_length] at hov ⊢
          repeat' (first|(apply R.is1;first|(apply R.isBin;(apply R.pure;exact rfl;(apply Ok1.lss_f;exact rfl;exact rfl;omega)))|(apply R.pure;exact rfl;first|(apply Ok1.move;exact rfl)|(apply Ok1.assign;exact rfl)))|apply R.nil|(apply T.is;first|apply T.seq|apply T.region|apply T.exit|apply T.ret|(apply T.cond_f;exact rfl)))
          (apply RetOk.t;exact rfl)
          exact ⟨_,by (focus (repeat' first|exact Ext.all _|apply Keep.last);done),ov,hov,rfl,rfl⟩
end Go.Proofs.YtcfdgnajepilbaaGreat
