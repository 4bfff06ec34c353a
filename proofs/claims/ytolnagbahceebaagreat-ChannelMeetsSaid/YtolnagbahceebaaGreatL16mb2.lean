/- Texts of the proof: Eng26, Eng31, Eng30, Eng15, Eng22, Eng25, S0, Tab, Dg1, Dg2, Dg3, Dg4, Dg5, Dg6, Dg7, Eng28. -/
import Derived.Test.YtolnagbahceebaaGreatL16mb1
import Derived.OrdersIn
import Derived.ProofKit
import Derived.Deep.Slices
import Derived.OpenShut
import Derived.Test.YtolnagbahceebaaGreatProg
import Derived.Lib.ConvBytes
set_option linter.unusedSimpArgs false
set_option linter.unusedVariables false
set_option linter.unusedSectionVars false
namespace Go.Proofs.YtolnagbahceebaaGreat
open Go.RowKit Go.Shelf
theorem subE_app:∀ (xs junk:List Value) {n:Nat},xs.length=n→subE (xs++junk) 0 n=some xs
  | [],junk,n,h=>by simp at h;subst h;cases junk<;>rfl
  | x :: xs,junk,n,h=>by
    cases n with
    | zero=>simp at h
    | succ n =>
      have:=subE_app xs junk (n:=n) (by simpa using h)
      simp only [List.cons_append,subE,this]
theorem subE_all {xs:List Value} {n:Nat} (h:xs.length=n):subE xs 0 n=some xs:=by
  have:=subE_app xs [] h
  rwa [List.append_nil] at this
theorem setE_all {cs vs:List Value} (h:vs.length=cs.length):setE cs 0 vs=some vs:=by
  have:=setE_mid [] (vs:=vs) (junk:=cs) (by omega)
  simpa [h] using this
/-- Where a slice's last ones lie. -/
def sufP (p:Option Addr) (cap i sz:Nat):Option Addr:=if cap=i then p else p.map (·.add (i * sz))
section
variable {α:Type} {v:α→List Value} {sz:Nat} {xs:List α} {w:World} {p:Option Addr}
theorem RdSl.suf (hv:∀ a,(v a).length=sz) (h:RdSl w p v xs) {cap i:Nat} (h1:i≤xs.length) (h2:xs.length≤cap):RdSl w (sufP p cap i sz) v (xs.drop i):=by
  by_cases hc:cap=i
  · left;exact List.drop_eq_nil_of_le (by omega)
  · rcases h with h|⟨b,o,rfl,h⟩
    · left;rw [h];exact List.drop_nil
    · right
      refine ⟨b,o+i * sz,by simp [sufP,hc,Addr.add_none],fun k hk=>?_⟩
      rw [← fl_dropG hv] at hk ⊢
      rw [List.length_drop] at hk
      rw [List.getElem?_drop,← h (i * sz+k) (by omega),Nat.add_assoc]
theorem RdSl.pre (hv:∀ a,(v a).length=sz) (h:RdSl w p v xs) (i:Nat):RdSl w p v (xs.take i):=by
  rcases h with h|⟨b,o,rfl,h⟩
  · left;rw [h];exact List.take_nil
  · right
    refine ⟨b,o,rfl,fun k hk=>?_⟩
    rw [← fl_takeG hv] at hk ⊢
    rw [List.length_take] at hk
    rw [List.getElem?_take,if_pos (by omega)]
    exact h k (by omega)
theorem Off.suf {S:List Nat} (h:Off p S) (cap i sz:Nat):Off (sufP p cap i sz) S:=by
  intro a ha
  unfold sufP at ha
  split at ha
  · exact h a ha
  · cases p with
    | none=>cases ha
    | some a0 =>
      simp only [Option.map_some,Option.some.injEq] at ha
      subst ha
      have:=h a0 rfl
      unfold Addr.add
      split<;>exact this
theorem RdSl.chg' {w':World} {S:List Nat} (h:RdSl w p v xs) (hc:Chg S w w') (ho:xs≠[]→Off p S):RdSl w' p v xs:=by
  by_cases hx:xs=[]
  · exact .inl hx
  · exact h.chg hc (ho hx)
/-- What is old lies in none of the blocks that are one's own. -/
theorem RdSl.old {w':World} {S:List Nat} {L Li Lr:Lst} (hv:∀ a,(v a).length=sz) (hs:1≤sz) (h:RdSl w p v xs) (ho:xs≠[]→Off p S) (hw:Hp w S L w') (he:Ext L Li Lr):xs≠[]→Off p (blks Li):=by
  intro hx a ha hm
  rcases h with h|⟨b,o,hp,h⟩
  · exact hx h
  · rw [hp] at ha
    cases ha
    obtain ⟨⟨b',ob⟩,hmem,hb'⟩:=List.mem_map.1 hm
    simp only at hb'
    subst hb'
    rcases hw.own b' ob (he.mem _ hmem) with h1|h1
    · have h2:0 < (fl v xs).length:=by
        rw [fl_len hv]
        have:0 < xs.length:=List.length_pos_iff.2 hx
        exact Nat.mul_pos this hs
      have h3:=h 0 h2
      rw [List.getElem?_eq_getElem h2] at h3
      simp only [World.cell?] at h3
      have h4:w.heap[b']? = none:=Array.getElem?_eq_none h1
      rw [h4] at h3
      simp at h3
    · exact ho hx _ hp h1
theorem RdSl.holds {n cap:Nat} (h:RdSl w p v xs) (hne:xs≠[]):Holds w (.slice p n cap) (fl v xs):=by
  rcases h with h|⟨b,o,rfl,h⟩
  · exact absurd h hne
  · exact fun i hi=>h i hi
end
section
variable {X:Cx} {σ:Env} {L Lr:Lst} {d:Option Nat} {dd:Nat} {ty:TypeId} {pos:String} {af:Array Edge} {g:Option (Nat × Bool)} {x y:Operand} {t t2 e:TypeId} {r r2 re:TRow}
variable {all:Array Oper} {rest:List Oper} {K:Env→Lst→Prop} {p:Option Addr} {n cap i:Nat}
theorem Ok1.sufR {lo:Operand} {sz:Nat} (ht:X.tb.row t=some r) (hk:r.k = .slice e) (he:X.tb.row e=some re) (hsz:re.size=sz) (hx:ev σ x=some (.slice p n cap)) (hh:ev σ lo=some (.int .i64 i)) (h1:i≤n) (h2:n≤cap) :
    Ok1 X ⟨d,.slice t x (some lo) none none,ty,pos,af,g⟩ σ L (.slice (sufP p cap i sz) (n - i) (cap - i)):=.mk fun a w ha hw=>by
  subst hsz
  rw [slice_run (l:=(i:Int)) (h:=(n:Int)) (m:=(cap:Int)) X.tb ht hk he ha hx rfl rfl (by simp [bd,hh]) (by omega) (by omega) (by omega) (by omega) (.inl rfl)]
  simp [sufP]
theorem Ok1.preR {hi:Operand} (ht:X.tb.row t=some r) (hk:r.k = .slice e) (he:X.tb.row e=some re) (hx:ev σ x=some (.slice p n cap)) (hh:ev σ hi=some (.int .i64 i)) (h1:i≤cap) :
    Ok1 X ⟨d,.slice t x none (some hi) none,ty,pos,af,g⟩ σ L (.slice p i cap):=.mk fun a w ha hw=>by
  rw [slice_run (l:=0) (h:=(i:Int)) (m:=(cap:Int)) X.tb ht hk he ha hx rfl (by simp [bd,hh]) rfl (by omega) (by omega) (by omega) (by omega) (.inl rfl)]
  have:p.map (·.add (0 * re.size))=p:=by cases p<;>simp [Addr.add]
  simp only [Int.toNat_zero,this,ite_self,Int.toNat_natCast,Nat.sub_zero]
theorem Ok1.capS (ht:X.tb.row t=some r) (hk:r.k = .slice e) (hx:ev σ x=some (.slice p n cap)):Ok1 X ⟨d,.call { callee:=.builtin .cap,args:=#[x],argTypes:=#[t] },ty,pos,af,g⟩ σ L (.int .i64 cap):=.mk fun a w ha hw=>by
  have h2:=(X.tb.get ht).is
  rw [hk] at h2
  simp only [TK.is] at h2
  simp [execOp,resolve,ha.ev hx,invoke,builtin,Builtin.cap_,run_underlying h2,goInt]
/-- append(s,y...): s a slice of one's own,y one that is read. -/
theorem R.appendRd {α:Type} {v:α→List Value} {xs:List α} {sz:Nat} {ov:Ov} {m cap2 e2:Nat} {old zc:List Value} (hn:Nat.blt dd X.n=true) (ht:X.tb.row t=some r) (hk:r.k = .slice e) (he:X.tb.row e=some re) (hz:cellsE re.zero=some zc) (hzl:zc.length=re.size) (ht2:X.tb.row t2=some r2) (hk2:r2.k = .slice e2) (hb1:Nat.ble 1 re.bytes=true) (hb2:Nat.ble re.bytes 65536=true)
    (hx:ev σ x=some (slV ov n)) (hy:ev σ y=some (.slice p m cap2)) (hok:OvOk re.size ov n old) (hp:Ext L (blkL e ov old) Lr) (hm:m=xs.length) (hv:∀ a,(v a).length=sz) (hs:re.size=sz) (hh:∀ w,Hp X.w0 X.S L w→RdSl w p v xs)
    (h1:(fl v xs).all Value.oneCell'=true) (hbig:n+m≤1073741824)
    (h:∀ ov',OvOk re.size ov' (n+m) (old++fl v xs)→(ov.isSome=true→ov'.isSome=true)→R X all rest K ((dd,slV ov' (n+m))::σ) (blkL e ov' (old++fl v xs)++Lr)) :
    R X all (⟨some dd,.call { callee:=.builtin .append,args:=#[x,y],argTypes:=#[t,t2] },ty,pos,af,none⟩::rest) K σ L:=by
  subst hm
  cases xs with
  | nil =>
    refine R.value rfl rfl hn fun a w ha hw=>?_
    have hw2:=hw.perm hp.perm
    have hrun:=append_none X.tb (w:=w) (ty:=ty) (n:=n) (p2:=p) (cap2:=cap2) (ov:=ov) ht hk he ht2 hk2 (fun e=>by subst e;exact hok.2)
    refine ⟨slV ov n,w,blkL e ov (old++[])++Lr,?_,by rw [List.append_nil];exact hw2,h ov (by simpa [fl] using hok) id⟩
    simp [execOp,resolve,ha.ev hx,ha.ev hy,invoke,builtin,hrun]
  | cons x0 xs =>
    refine R.appendH hn ht hk he hz hzl ht2 hk2 hb1 hb2 hx hy rfl hok hp (fun w hw=>(hh w hw).holds (by simp)) ?_ h1 hbig fun ov' h2=>h ov' h2 fun _=>by
      cases ov' with
      | none=>have:=h2.2;simp at this
      | some _=>rfl
    rw [fl_len hv,hs]
/-- Room for n,made ahead of any: append(nil,make(..,n)...). -/
theorem grow_run {P : Program} (tb : Tb P) (ht : tb.row t=some r) (hk:r.k = .slice e) (he:tb.row e=some re) {z:Value} (hz:cellsE re.zero=some [z]) (hsz:re.size=1) (ht2:tb.row t2=some r2) (hk2:r2.k = .int .i64)
    {w0 w:World} {S:List Nat} {n:Nat} (hw:Hp w0 S L w) (hm:1≤n) (hbig:(2 * n+768) * re.bytes≤281474976710656) (hb1:1≤re.bytes) :
    ∃ b' j' w',(Builtin.append_ #[t,t2] ty #[.slice none 0 0,.int .i64 n]).run P w = .ok (.slice (some ⟨b',0,none⟩) n (n+j')) w' ∧ Hp w0 S ((b',.cells ⟨List.replicate (n+j') z⟩ e (0,0))::L) w':=by
  have hu:P.underlying t=some (.slice e):=by have:=(tb.get ht).is;rw [hk] at this;exact this
  have hu2:P.underlying t2=some (.int .i64):=by have:=(tb.get ht2).is;rw [hk2] at this;exact this
  obtain ⟨i,hi,hib⟩:∃ i,P.info? e=some i∧i.bytes=re.bytes:=by
    have:=(tb.get he).bytes
    cases h:P.info? e with
    | none=>rw [h] at this;cases this
    | some i=>rw [h] at this;exact ⟨i,rfl,by simpa using this⟩
  have hti:∀ w,(typeInfo e).run P w = .ok i w:=fun w=>by simp [typeInfo,hi]
  have hzc:=cellsE_eq hz
  have hnx:=nextcap_le n 0 (by omega)
  have h48:(2:Nat) ^ 48=281474976710656:=by decide
  have hnb:¬ Builtin.nextslicecap n 0 * re.bytes > 2 ^ 48:=by
    have:=Nat.mul_le_mul_right re.bytes hnx
    omega
  have hn2:n * 1≤n * re.bytes:=Nat.mul_le_mul_left _ hb1
  have hn3:(2 * n+768) * re.bytes=2 * (n * re.bytes)+768 * re.bytes:=by rw [Nat.add_mul,Nat.mul_assoc]
  have hwn:IntKind.i64.wrap (n:Int)=n:=wrap_in (by omega) (by omega)
  have hnn:¬ (n:Int) < 0:=by omega
  have hlb:¬ ((n:Int) * (re.bytes:Int) > 2 ^ 48):=by
    have h1:n * re.bytes≤2 ^ 48:=by omega
    have h2:((n * re.bytes:Nat):Int)≤((2 ^ 48:Nat):Int):=Int.ofNat_le.2 h1
    have h3:((2 ^ 48:Nat):Int)=2 ^ 48:=by decide
    rw [Int.natCast_mul] at h2
    omega
  have hzr:∀ k,(Builtin.zeroCells re.zero.cells k).toList=List.replicate k z:=by
    intro k
    have hc:re.zero.cells = #[z]:=by apply Array.toList_inj.1;rw [hzc]
    rw [hc]
    refine List.eq_replicate_iff.2 ⟨by simp [Builtin.zeroCells],fun x hx=>?_⟩
    simp only [Builtin.zeroCells,Array.toList_map,List.mem_map,List.size_toArray,List.length_singleton,Nat.mod_one] at hx
    obtain ⟨_,_,rfl⟩:=hx
    rfl
  obtain ⟨q,hq⟩:∃ q,(Question.appendCap n 0 e).cut (w.tape w.drawn (.appendCap n 0 e))=n+q:=⟨_,rfl⟩
  refine ⟨w.heap.size,q,w.drew.alloc (.cells ⟨List.replicate (n+q) z⟩ e (0,0)),?_,(hw.step (Chg.drew [] w)).alloc _⟩
  have harr:((#[]:Array Value)++Builtin.zeroCells re.zero.cells n++Builtin.zeroCells re.zero.cells (n+q - n):Array Value)=⟨List.replicate (n+q) z⟩:=by
    apply Array.toList_inj.1
    rw [Array.toList_append,Array.toList_append,hzr,hzr,Nat.add_sub_cancel_left,List.nil_append,List.replicate_append_replicate]
  have hai:∀ w,(asInt (.int .i64 (n:Int))).run P w = .ok (n:Int) w:=fun w=>by simp [asInt,asIntOf]
  have hmx : ¬ (n : Int) > IntKind.i64.max := by have:IntKind.i64.max=9223372036854775807:=by decide
                                                 omega
  unfold Builtin.append_
  simp only [hmx,false_and,List.getElem?_toArray,List.getElem?_cons_zero,List.getElem?_cons_succ,Sem.run_bind,run_underlying hu,run_underlying hu2,Result.andThen_ok,(tb.get he).size,Sem.run_pure,if_true,hai,hwn,hnn,if_false,Nat.zero_add,Nat.not_le.2 (show 0 < n by omega),hti,hib,Sem.run_ite,hlb,Int.toNat_natCast,Bool.not_true,Bool.false_eq_true,
    show ¬ re.bytes=0 by omega,or_false,and_false,false_or,hnb,run_choose,Question.forced,hq,run_askRoom,World.drew_eq,Builtin.firstCells,hsz,Nat.mul_one,show ¬ n=0 by omega,(tb.get he).zero,newRow,run_newObj,harr]
  rfl
theorem R.growMk {z:Value} (hn:Nat.blt dd X.n=true) (ht:X.tb.row t=some r) (hk:r.k = .slice e) (he:X.tb.row e=some re) (hz:cellsE re.zero=some [z]) (hsz:Nat.beq re.size 1=true) (ht2:X.tb.row t2=some r2) (hk2:r2.k = .int .i64) (hb1:Nat.ble 1 re.bytes=true) (hb2:Nat.ble re.bytes 65536=true)
    (hx:ev σ x=some (.slice none 0 0)) (hy:ev σ y=some (.int .i64 n)) (hm:1≤n) (hbig:n≤1073741824)
    (h:∀ b' j',R X all rest K ((dd,.slice (some ⟨b',0,none⟩) n (n+j'))::σ) ((b',.cells ⟨List.replicate (n+j') z⟩ e (0,0))::L)) :
    R X all (⟨some dd,.call { callee:=.builtin .append,args:=#[x,y],argTypes:=#[t,t2] },ty,pos,af,none⟩::rest) K σ L :=
  R.value rfl rfl hn fun a w ha hw=>by
    have h3:=Nat.le_of_ble_eq_true hb2
    have hbig':(2 * n+768) * re.bytes≤281474976710656:=by
      have:=Nat.mul_le_mul (show 2 * n+768≤2147484416 by omega) h3
      omega
    obtain ⟨b',j',w',g1,g2⟩:=grow_run X.tb (ty:=ty) ht hk he hz (Nat.eq_of_beq_eq_true hsz) ht2 hk2 hw hm hbig' (Nat.le_of_ble_eq_true hb1)
    refine ⟨_,w',_,?_,g2,h b' j'⟩
    simp [execOp,resolve,ha.ev hx,ha.ev hy,invoke,builtin,g1]
end
section
variable {X:Cx} {σ:Env} {L:Lst} {d:Option Nat} {ty:TypeId} {pos:String} {af:Array Edge} {g:Option (Nat × Bool)} {x:Operand} {t e:TypeId} {r re:TRow} {p:Option Addr} {n cap i m:Nat}
theorem Ok1.preM {hi mx:Operand} (ht:X.tb.row t=some r) (hk:r.k = .slice e) (he:X.tb.row e=some re) (hx:ev σ x=some (.slice p n cap)) (hh:ev σ hi=some (.int .i64 i)) (hm:ev σ mx=some (.int .i64 m)) (h1:i≤m) (h2:m≤cap) :
    Ok1 X ⟨d,.slice t x none (some hi) (some mx),ty,pos,af,g⟩ σ L (.slice p i m):=.mk fun a w ha hw=>by
  rw [slice_run (l:=0) (h:=(i:Int)) (m:=(m:Int)) X.tb ht hk he ha hx (by simp [bd,hm]) (by simp [bd,hh]) rfl (by omega) (by omega) (by omega) (by omega) (.inr (by simp))]
  have:p.map (·.add (0 * re.size))=p:=by cases p<;>simp [Addr.add]
  simp only [Int.toNat_zero,this,ite_self,Int.toNat_natCast,Nat.sub_zero]
end
section
variable {X:Cx} {σ:Env} {L:Lst} {d:Option Nat} {ty:TypeId} {pos:String} {af:Array Edge} {g:Option (Nat × Bool)} {x y:Operand} {k:IntKind} {i j m:Int} {ats:Array TypeId}
theorem Ok1.min2E (hx:ev σ x=some (.int k i)) (hy:ev σ y=some (.int k j)) (hm:min i j=m):Ok1 X ⟨d,.call { callee:=.builtin .min,args:=#[x,y],argTypes:=ats },ty,pos,af,g⟩ σ L (.int k m):=hm ▸ Ok1.min2 hx hy
end
section
variable {X:Cx} {σ:Env} {L L':Lst} {ty:TypeId} {pos:String} {af:Array Edge} {x:Operand} {t e te:TypeId} {r re:TRow} {b o n cap k:Nat} {z0:Value} {cs cs':List Value} {all:Array Oper} {rest:List Oper} {K:Env→Lst→Prop}
end
section
variable {X:Cx} {ro:Option Nat} {x y c:Code} {Q:Post} {σ:Env} {L:Lst} {id:Nat} {ops:Array Oper}
end
theorem RetOk.run {X:Cx} {fn:Func} {Rp:Value→Lst→Prop} {σ:Env} {L:Lst} {a:Act} {w:World} (h:RetOk X fn.results.toList Rp σ L) (ha:Mod X.n a σ) (hw:Hp X.w0 X.S L w):∃ v,(results fn a.tmps).run X.P w = .ok v w∧Rp v L:=by
  obtain ⟨⟨vs,h4,h5⟩⟩:=h
  refine ⟨tup vs,?_,h5⟩
  have:=ResIs.run ha hw h4
  have h6:(fn.results.mapM (m:=Sem) fun | .tmp t=>Pure.pure (a.tmps.getD t undef) | .cell b t=>do loadVar t (← asAddr (a.tmps.getD b undef))).run X.P w = .ok vs.toArray w:=by
    rw [← Array.toArray_toList (xs:=fn.results),List.mapM_toArray]
    simp only [Sem.run_map]
    erw [this]
    rfl
  simp only [results,Sem.run_bind]
  erw [h6]
  simp only [Result.andThen_ok,Sem.run_pure]
  congr 1
  cases vs with
  | nil=>rfl
  | cons v vs=>cases vs<;>rfl
theorem CallM.wk {P:Program} {f:FuncId} {vs:List Value} {L:Lst} {w:World} {R R':Value→Lst→Prop} (h:CallM P f vs L w R) (hr:∀ v L,R v L→R' v L):CallM P f vs L w R' :=
  ⟨fun hw=>(h.run hw).mono fun e w' ⟨v,L',h1,h2,h3⟩=>⟨v,L',h1,hr _ _ h2,h3⟩⟩
end Go.Proofs.YtolnagbahceebaaGreat
set_option linter.unusedSimpArgs false
set_option linter.unusedVariables false
set_option linter.unusedSectionVars false
namespace Go.Proofs.YtolnagbahceebaaGreat
open Go.RowKit Go.Shelf Go.ChangeShapes Go.WideShapes Go.Deep
/-- A cell of this kind,within its range. -/
def cellW:TK→Value→Prop
  | .int k,.int k' n=>k'=k∧k.min≤n∧n≤k.max
  | .bool,.bool _=>True
  | .string,.string s=>s.size≤maxLen
  | _,_=>False
def allW:List TK→List Value→Prop
  | [],[]=>True
  | k::ks,v::vs=>cellW k v∧allW ks vs
  | _,_=>False
theorem allW_append:∀ {ks ls:List TK} {vs:List Value},allW ks (vs.take ks.length)→allW ls (vs.drop ks.length)→allW (ks++ls) vs
  | [],ls,vs,_,h=>by simpa using h
  | k::ks,ls,[],h,_=>by simp [allW] at h
  | k::ks,ls,v::vs,h,h2=>by
    simp only [List.length_cons,List.take_succ_cons,List.drop_succ_cons,allW] at h h2
    exact ⟨h.1,allW_append h.2 h2⟩

section
variable {H:Type} {enc:TypeId × Value→H} {P:Program} {w:World} {base:Nat} {spare:Nat→Bool} {held:Bool}
theorem cells_of (w:World) {t sz:Nat} (h:∀ w,(Go.sizeOf t).run P w = .ok sz w):P.cellsOf t=sz:=by
  have:=h w
  simp only [Go.sizeOf,typeInfo,Sem.run_bind,Sem.run_pure] at this
  unfold Program.cellsOf
  cases hi:P.info? t with
  | none=>simp [hi] at this
  | some i=>simp [hi] at this;simp [this]
theorem trodFs {g:Nat→Option (List TK)} {n:Nat} {cs:List Value} (hg:∀ t ks us x,g t=some ks→P.cellsOf t=ks.length→DataW.trod enc P w base spare held n t us=some x→allW ks us) :
    ∀ (fields:List Field) (fs:List (Nat × Nat × Nat)) (k:Nat) (ks:List TK),Flds P fields fs→flatFs g fs k=some ks→cs.length=k+ks.length→(∀ f∈fields,∃ x,DataW.trod enc P w base spare held n f.type ((cs.drop f.offset).take (P.cellsOf f.type))=some x)→allW ks (cs.drop k)
  | [],[],k,ks,_,h,hl,_=>by
    simp only [flatFs,Option.some.injEq] at h
    subst h
    rw [List.drop_eq_nil_of_le (by simp at hl;omega)]
    trivial
  | [],_::_,_,_,h,_,_,_=>h.elim
  | _::_,[],_,_,h,_,_,_=>h.elim
  | f :: fields,(t,off,sz)::fs,k,ks,hF,h,hl,hx=>by
    obtain ⟨e1,e2,e3,e4,e5⟩:=hF
    simp only [flatFs] at h
    split at h
    · cases h
    · rename_i hb
      have hb':=Nat.eq_of_beq_eq_true hb
      split at h
      · cases h
      · rename_i k1 hk1
        split at h
        · cases h
        · rename_i hl1
          have hl1':=Nat.eq_of_beq_eq_true hl1
          split at h
          · cases h
          · rename_i k2 hk2
            cases h
            obtain ⟨x,hx1⟩:=hx f List.mem_cons_self
            have hsz:=cells_of w e3
            rw [e1,e2,hsz,hb'] at hx1
            have h1:=hg t k1 _ x hk1 (by rw [hsz,hl1']) hx1
            have h2:=trodFs hg fields fs (k+sz) k2 e5 hk2 (by rw [hl,List.length_append,hl1'];omega) fun f' hf'=>hx f' (List.mem_cons_of_mem _ hf')
            refine allW_append (by rw [hl1'];exact h1) ?_
            rw [List.drop_drop,hl1'];exact h2
theorem allW_rep {k1:List TK}:∀ (m:Nat) (cs:List Value),cs.length=m * k1.length→(∀ i,i < m→allW k1 ((cs.drop (i * k1.length)).take k1.length))→allW (repK k1 m) cs
  | 0,cs,hl,_=>by
    have:cs=[]:=by cases cs;rfl;simp at hl
    subst this;trivial
  | m+1,cs,hl,h=>by
    have h0:=h 0 (by omega)
    simp only [Nat.zero_mul,List.drop_zero] at h0
    rw [Nat.add_mul] at hl
    refine allW_append h0 (allW_rep m _ (by rw [List.length_drop,hl];omega) fun i hi=>?_)
    have:=h (i+1) (by omega)
    rwa [List.drop_drop,show k1.length+i * k1.length=(i+1) * k1.length by rw [Nat.add_mul];omega]
theorem trod_flat (tb:Tb P):∀ (n t:Nat) (ks:List TK),flatE tb n t=some ks→P.cellsOf t=ks.length→∀ fuel cs x,DataW.trod enc P w base spare held fuel t cs=some x→allW ks cs
  | 0,_,_,h,_,_,_,_,_=>by cases h
  | n + 1, t, ks,h,hlen,fuel,cs,x,hx=>by
    simp only [flatE] at h
    split at h
    · cases h
    · rename_i r hr
      have hgd:=tb.get hr
      have his:=hgd.is
      split at h
      · rename_i k hk
        rw [hk] at his
        cases h
        obtain ⟨m,rfl,_,hwf⟩:=DataW.trod_int his hx
        simp only [Lit.wf,Bool.and_eq_true,decide_eq_true_eq] at hwf
        exact ⟨⟨rfl,hwf⟩,trivial⟩
      · rename_i hk
        rw [hk] at his
        cases h
        obtain ⟨b,rfl,_⟩:=DataW.trod_bool his hx
        exact ⟨trivial,trivial⟩
      · rename_i hk
        rw [hk] at his
        cases h
        obtain ⟨s,rfl,_,hs⟩:=DataW.trod_string his hx
        exact ⟨hs,trivial⟩
      · rename_i fs hk
        rw [hk] at his
        obtain ⟨fields,h1,h2⟩:=his
        obtain ⟨xs,m,rfl,_,hcl,hxl,hf⟩:=DataW.trod_struct h1 hx
        have:=trodFs (cs:=cs) (n:=m) (fun t ks us x hg hc ht=>trod_flat tb n t ks hg hc m us x ht) fields.toList fs 0 ks h2 h (by rw [hcl,hlen];omega) fun f hf'=>by
          obtain ⟨i,hi,he⟩:=List.getElem_of_mem hf'
          have h3:fields[i]? = some f:=by rw [← he];simp at hi;simp [hi]
          have h4:=hf i f h3
          simp at hi
          rw [List.getElem?_eq_getElem (by omega)] at h4
          exact ⟨_,h4⟩
        simpa using this
      · rename_i mm e hk
        rw [hk] at his
        split at h
        · cases h
        · rename_i re hre
          split at h
          · cases h
          · rename_i k1 hk1
            split at h
            · cases h
            · rename_i hl1
              have hl1':=Nat.eq_of_beq_eq_true hl1
              cases h
              obtain ⟨xs,m,rfl,_,hcl,hxl,hf⟩:=DataW.trod_array his hx
              have hce:P.cellsOf e=k1.length:=by rw [cells_of w (tb.get hre).size,hl1']
              refine allW_rep mm cs (by rw [hcl,hlen,repK_len]) fun i hi=>?_
              have h4:=hf i hi
              rw [hce,List.getElem?_eq_getElem (by omega)] at h4
              exact trod_flat tb n e k1 hk1 hce m _ _ h4
      · cases h

/-- A slice of plain rows that came in. -/
theorem open_rows {α:Type} [Inhabited α] (f:α→List Value) (tb:Tb P) {t e:TypeId} {r re:TRow} {ks:List TK} {v:Value} {d:DataW H} {p:List MemPlace} (ht:tb.row t=some r) (hk:r.k = .slice e) (he:tb.row e=some re) (hf:flatE tb 8 e=some ks) (hl:Nat.beq ks.length re.size=true) (hpos:Nat.ble 1 ks.length=true)
    (hlen:∀ a,(f a).length=ks.length) (dec:∀ cs,allW ks cs→∃ a,f a=cs)
    {rc:Reach} {b0:Nat} (hv:Value.okWide P w rc b0 t v) (h:DataW.Trod enc P w base spare held t v d p) :
    ∃ (a:Option Addr) (rs:List α) (cap:Nat),v = .slice a rs.length cap∧RdSl w a f rs∧rs.length≤cap∧cap≤maxLen∧(∀ x∈rs,allW ks (f x))∧(a=none→cap=0):=by
  have hu:P.underlying t=some (.slice e):=by have:=(tb.get ht).is;rw [hk] at this;exact this
  obtain ⟨a0,len0,cap0,rfl⟩:=okWide_slice hu hv
  obtain ⟨fuel,hfu⟩:=h
  have hce:P.cellsOf e=ks.length:=by rw [cells_of w (tb.get he).size,Nat.eq_of_beq_eq_true hl]
  rcases open_slice hu hfu with ⟨h0,_⟩|⟨a,len,cap,m,n,D,Pl,hcs,hb,hlc,hm,hmm,hx,hi⟩
  · have:a0=none∧len0=0∧cap0=0:=by simpa [Value.cells] using h0
    obtain ⟨rfl,rfl,rfl⟩:=this
    exact ⟨none,[],0,rfl,.inl rfl,by simp,by simp,by simp,fun _=>rfl⟩
  · have:a0=some a∧len0=len∧cap0=cap:=by simpa [Value.cells] using hcs
    obtain ⟨rfl,rfl,rfl⟩:=this
    have hle:len0≤m:=by rw [hmm];split<;>omega
    obtain ⟨R,hR⟩:=choose_lt (α:=α) (p:=fun i x=>w.cells? base (a.add (i * P.cellsOf e)) (P.cellsOf e)=some (f x)∧allW ks (f x)) (n:=len0) (fun i hi'=>by
      obtain ⟨cs',h1,h2⟩:=hi i (by omega)
      have h3:=trod_flat tb 8 e ks hf hce _ _ _ h2
      obtain ⟨x,hx⟩:=dec cs' h3
      exact ⟨x,by rw [hx];exact h1,by rw [hx];exact h3⟩)
    have hrl:((List.range len0).map R).length=len0:=by simp
    refine ⟨some a,(List.range len0).map R,cap0,by rw [hrl],?_,by rw [hrl];exact hlc,hm,?_,fun h=>by cases h⟩
    · by_cases hz:len0=0
      · left;simp [hz]
      · right
        have hpos':=Nat.le_of_ble_eq_true hpos
        have hspot:a.spot=none:=by
          obtain ⟨_,h2,h3⟩:=World.cells?_some (hR 0 (by omega)).1
          have h4:=h3 0 (by omega)
          rw [List.getElem?_eq_getElem (by omega)] at h4
          unfold World.cell? at h4
          cases a with|mk b o s =>
          cases s with
          | none=>rfl
          | some s => 
            simp only [Addr.add] at h4
            split at h4
            · simp at h4
            · cases h4
        cases a with|mk b o s =>
        simp only at hspot
        subst hspot
        refine ⟨b,o,rfl,fun k hk'=>?_⟩
        rw [fl_len hlen,hrl] at hk'
        have hdm:=Nat.div_add_mod k ks.length
        have hml:=Nat.mod_lt k (show 0 < ks.length by omega)
        have hil:k / ks.length < len0:=by rw [Nat.div_lt_iff_lt_mul (by omega)];exact hk'
        have hgi:((List.range len0).map R)[k / ks.length]? = some (R (k / ks.length)):=by simp [hil]
        have h5:=fl_get hlen hgi hml
        rw [show k / ks.length * ks.length+k % ks.length=k by rw [Nat.mul_comm];exact hdm] at h5
        rw [h5]
        obtain ⟨_,h2,h3⟩:=World.cells?_some (hR _ hil).1
        have h4:=h3 (k % ks.length) (by rw [hce];exact hml)
        rw [Addr.add_none,Addr.add_none,hce] at h4
        rw [← h4,show o+k / ks.length * ks.length+k % ks.length=o+k by rw [Nat.add_assoc,show k / ks.length * ks.length+k % ks.length=k by rw [Nat.mul_comm];exact hdm]]
    · intro x hx'
      obtain ⟨i,hi',rfl⟩:=List.mem_map.1 hx'
      exact (hR i (List.mem_range.1 hi')).2

/-- The arguments read behind the call as before: nothing that was there has changed. -/
theorem trodAll_stays {W W':World} (hl:laidOutB P=true) (hb:Below W.heap.size W W') {sp:Nat→Bool}:∀ {ts:List TypeId} {vs:List Value} {ds:List (DataW H)} {ps:List MemPlace},(∀ t∈ts,P.readableRec t=true∧t < P.types.size) →
    DataW.TrodAll enc P W 0 (fun _=>true) true ts vs ds ps→(∀ p∈ps,p.block < W.heap.size∧sp p.block=true)→DataW.TrodAll enc P W' 0 sp true ts vs ds ps
  | [],vs,ds,ps,_,h,_=>by
    obtain ⟨rfl,rfl,rfl⟩:=trodAll_nil h
    exact trodAll_mk0
  | t :: ts,vs,ds,ps,hr,h,hp=>by
    obtain ⟨v,vs',d,ds',p,q,rfl,rfl,rfl,h1,h2⟩:=trodAll_cons h
    have g:=hr t List.mem_cons_self
    exact ⟨p,q,WideElems.Trod_stays hl g.1 g.2 h1 (fun x hx=>hb.same (hp x (List.mem_append_left _ hx)).1) (fun x hx=>(hp x (List.mem_append_left _ hx)).2),
      trodAll_stays hl hb (fun t' ht'=>hr t' (List.mem_cons_of_mem _ ht')) h2 (fun x hx=>hp x (List.mem_append_right _ hx)),rfl⟩
/-- A statement's last step: it returned true,and nothing that was there has changed. -/
theorem law_post {f:Func} {s:ChangeSpec} {apart fresh handsOn again:Bool} {W W':World} {args:Array Value} {ds gs:List (DataW H)} {before:List MemPlace} {tt:TypeId}
    (hW:DataW.Whole enc P f.params.toList s.vars apart W args.toList ds gs before) (hv:s.vars=[]) (hfn:s.fn H ds={ results:=[.lit (.bool true)],args:=ds,vars:=[] })
    (hrt:f.resultTypes = #[tt]) (htt:P.underlying tt=some .bool) (hl:laidOutB P=true) (hread:∀ t∈f.params.toList,P.readableRec t=true∧t < P.types.size) (hb:Below W.heap.size W W') :
    s.post enc P f apart fresh handsOn again W args (.bool true) W':=by
  have hlt:∀ p∈before,p.block < W.heap.size:=fun p hp=>hW.lt p hp
  obtain ⟨p,q,hA,hV,rfl,hz,hn⟩:=hW
  have hV':=hV
  rw [hv] at hV'
  obtain ⟨rfl,rfl⟩:=trodVars_none hV'
  rw [List.append_nil] at hlt hz hn
  have key:∀ sp:Nat→Bool,(∀ x∈p,sp x.block=true)→DataW.TrodAll enc P W' 0 sp true f.params.toList args.toList ds p:=fun sp hs=>trodAll_stays hl hb hread hA fun x hx=>⟨hlt x hx,hs x hx⟩
  have hres:∀ (b:Nat) (sp:Nat→Bool) (hd:Bool),DataW.TrodAll enc P W' b sp hd f.resultTypes.toList ((Value.bool true).resultList f.resultTypes.size) [.lit (.bool true)] []:=fun b sp hd=>by
    rw [hrt];exact trodAll_mk1 (shut_bool htt true)
  refine ⟨ds,[],p,[],p,[],⟨p,[],hA,hV,by simp,hz,hn⟩,?_,?_,?_,World.keptBut_mono (fun x hx=>⟨hx,.inr (.inl hx)⟩) (hb.frame (· ∈ p)),fun _=>⟨?_,?_⟩⟩
  · rw [List.append_nil,hfn];exact hres _ _ _
  · rw [List.append_nil,hfn];exact key _ fun x hx=>by simpa using hlt x hx
  · rw [List.append_nil,hfn,hv];rfl
  · exact ok_one hrt rfl (okWide_bool_mk htt true)
  · refine ⟨.lit (.bool true)::ds,[],p,⟨p,[],?_,by rw [hv];rfl,by simp,?_,hn⟩,fun x hx _=>hx⟩
    · rw [hrt]
      exact ⟨[],p,shut_bool htt true,key _ fun _ _=>rfl,rfl⟩
    · intro b off hx
      rw [hb.frozen (hlt _ hx)]
      exact hz b off hx
end
end Go.Proofs.YtolnagbahceebaaGreat
set_option linter.unusedSimpArgs false
set_option linter.unusedVariables false
namespace Go.Proofs.YtolnagbahceebaaGreat
open Go.ChangeShapes Go.WideShapes Go.ChangeAt Go.RowKit
set_option linter.unusedSectionVars false
open Go.Shelf Go.Deep
section
variable {H:Type} {enc:TypeId × Value→H} {P:Program} {w:World} {base:Nat} {spare:Nat→Bool} {held:Bool}
/-- What a type's cells may be,once they have been trodden. -/
def Opens (enc:TypeId × Value→H) (P:Program) (w:World) (base:Nat) (spare:Nat→Bool) (held:Bool) (t:TypeId) (Q:List Value→Prop):Prop:=∀ fuel cs x,DataW.trod enc P w base spare held fuel t cs=some x→Q cs
theorem Opens.flat (tb:Tb P) {t:TypeId} {r:TRow} {ks:List TK} (ht:tb.row t=some r) (hf:flatE tb 8 t=some ks) (hl:Nat.beq ks.length r.size=true):Opens enc P w base spare held t (allW ks) :=
  fun fuel cs x h=>trod_flat tb 8 t ks hf (by rw [cells_of w (tb.get ht).size,Nat.eq_of_beq_eq_true hl]) fuel cs x h
/-- One field of a struct. -/
theorem Opens.field (tb:Tb P) {t ft off sz:Nat} {r:TRow} {fs:List (Nat × Nat × Nat)} {Q:List Value→Prop} (ht:tb.row t=some r) (hk:r.k = .strct fs) (i:Nat) (hi:fldE fs i=some (ft,off,sz)) (hQ:Opens enc P w base spare held ft Q) :
    Opens enc P w base spare held t fun cs=>cs.length=r.size∧Q ((cs.drop off).take sz):=by
  intro fuel cs x hx
  have his:=(tb.get ht).is
  rw [hk] at his
  obtain ⟨fields,h1,h2⟩:=his
  obtain ⟨xs,m,rfl,_,hcl,hxl,hf⟩:=DataW.trod_struct h1 hx
  obtain ⟨f,g1,g2,g3,g4,_⟩:=Flds.get h2 hi
  have g1':fields[i]? = some f:=by rw [← g1];simp
  have h4:=hf i f g1'
  have hlt:i < xs.length:=by rw [hxl];exact (Array.getElem?_eq_some_iff.1 g1').1
  rw [List.getElem?_eq_getElem hlt,g2,g3,cells_of w g4] at h4
  exact ⟨by rw [hcl,cells_of w (tb.get ht).size],hQ _ _ _ h4⟩
theorem Opens.and {t:TypeId} {Q R:List Value→Prop} (h:Opens enc P w base spare held t Q) (h2:Opens enc P w base spare held t R):Opens enc P w base spare held t fun cs=>Q cs∧R cs:=fun f cs x hx=>⟨h f cs x hx,h2 f cs x hx⟩
theorem Opens.mono {t:TypeId} {Q R:List Value→Prop} (h:Opens enc P w base spare held t Q) (h2:∀ cs,Q cs→R cs):Opens enc P w base spare held t R:=fun f cs x hx=>h2 _ (h f cs x hx)
/-- A slice whose elements open. -/
theorem Opens.slice {α:Type} [Inhabited α] (f:α→List Value) (Q:α→Prop) (tb:Tb P) {t e:TypeId} {r re:TRow} (ht:tb.row t=some r) (hk:r.k = .slice e) (he:tb.row e=some re) (hpos:Nat.ble 1 re.size=true)
    (hlen:∀ a,(f a).length=re.size) (hE:Opens enc P w base spare held e fun cs=>∃ a,f a=cs∧Q a) :
    Opens enc P w base spare held t fun cs=>∃ (a:Option Addr) (rs:List α) (cap:Nat),cs=[.slice a rs.length cap]∧RdSl w a f rs∧rs.length≤cap∧cap≤maxLen∧(∀ x∈rs,Q x)∧(a=none→cap=0):=by
  intro fuel cs x hfu
  have hu:P.underlying t=some (.slice e):=by have:=(tb.get ht).is;rw [hk] at this;exact this
  have hce:P.cellsOf e=re.size:=cells_of w (tb.get he).size
  rcases open_slice hu hfu with ⟨h0,_⟩|⟨a,len,cap,m,n,D,Pl,hcs,hb,hlc,hm,hmm,hx,hi⟩
  · exact ⟨none,[],0,h0,.inl rfl,by simp,by simp,by simp,fun _=>rfl⟩
  · have hle:len≤m:=by rw [hmm];split<;>omega
    obtain ⟨R,hR⟩:=choose_lt (α:=α) (p:=fun i x=>w.cells? base (a.add (i * P.cellsOf e)) (P.cellsOf e)=some (f x)∧Q x) (n:=len) (fun i hi'=>by
      obtain ⟨cs',h1,h2⟩:=hi i (by omega)
      obtain ⟨x,hx,hq⟩:=hE _ _ _ h2
      exact ⟨x,by rw [hx];exact h1,hq⟩)
    have hrl:((List.range len).map R).length=len:=by simp
    refine ⟨some a,(List.range len).map R,cap,by rw [hrl];exact hcs,?_,by rw [hrl];exact hlc,hm,?_,fun h=>by cases h⟩
    · by_cases hz:len=0
      · left;simp [hz]
      · right
        have hpos':=Nat.le_of_ble_eq_true hpos
        have hspot:a.spot=none:=by
          obtain ⟨_,h2,h3⟩:=World.cells?_some (hR 0 (by omega)).1
          have h4:=h3 0 (by omega)
          rw [List.getElem?_eq_getElem (by omega)] at h4
          unfold World.cell? at h4
          cases a with|mk b o s =>
          cases s with
          | none=>rfl
          | some s =>
            simp only [Addr.add] at h4
            split at h4
            · simp at h4
            · cases h4
        cases a with|mk b o s =>
        simp only at hspot
        subst hspot
        refine ⟨b,o,rfl,fun k hk'=>?_⟩
        rw [fl_len hlen,hrl] at hk'
        have hdm:=Nat.div_add_mod k re.size
        have hml:=Nat.mod_lt k (show 0 < re.size by omega)
        have hil:k / re.size < len:=by rw [Nat.div_lt_iff_lt_mul (by omega)];exact hk'
        have hgi:((List.range len).map R)[k / re.size]? = some (R (k / re.size)):=by simp [hil]
        have h5:=fl_get hlen hgi hml
        rw [show k / re.size * re.size+k % re.size=k by rw [Nat.mul_comm];exact hdm] at h5
        rw [h5]
        obtain ⟨_,h2,h3⟩:=World.cells?_some (hR _ hil).1
        have h4:=h3 (k % re.size) (by rw [hce];exact hml)
        rw [Addr.add_none,Addr.add_none,hce] at h4
        rw [← h4,show o+k / re.size * re.size+k % re.size=o+k by rw [Nat.add_assoc,show k / re.size * re.size+k % re.size=k by rw [Nat.mul_comm];exact hdm]]
    · intro x hx'
      obtain ⟨i,hi',rfl⟩:=List.mem_map.1 hx'
      exact (hR i (List.mem_range.1 hi')).2
/-- An argument that opens. -/
theorem Opens.arg {t:TypeId} {Q:List Value→Prop} (hE:Opens enc P w base spare held t Q) {v:Value} {d:DataW H} {p:List MemPlace} (h:DataW.Trod enc P w base spare held t v d p):Q v.cells.toList:=by
  obtain ⟨fuel,hfu⟩:=h
  exact hE _ _ _ hfu
/-- A slice that came in. -/
theorem Opens.argSl {α:Type} {R:Option Addr→List α→Nat→Prop} (tb:Tb P) {t e:TypeId} {r:TRow} (ht:tb.row t=some r) (hk:r.k = .slice e) {v:Value} {d:DataW H} {p:List MemPlace} {rc:Reach} {b0:Nat} (hv:Value.okWide P w rc b0 t v)
    (hE:Opens enc P w base spare held t fun cs=>∃ (a:Option Addr) (rs:List α) (cap:Nat),cs=[.slice a rs.length cap]∧R a rs cap) (h:DataW.Trod enc P w base spare held t v d p):∃ (a:Option Addr) (rs:List α) (cap:Nat),v = .slice a rs.length cap∧R a rs cap:=by
  have hu:P.underlying t=some (.slice e):=by have:=(tb.get ht).is;rw [hk] at this;exact this
  obtain ⟨a0,len0,cap0,rfl⟩:=okWide_slice hu hv
  obtain ⟨a,rs,cap,h1,h2⟩:=hE.arg h
  simp only [Value.cells,List.cons.injEq,Value.slice.injEq,and_true] at h1
  obtain ⟨rfl,rfl,rfl⟩:=h1
  exact ⟨_,_,_,rfl,h2⟩
end
section
variable {H:Type} {enc:TypeId × Value→H} {P:Program} {w:World} {base:Nat} {spare:Nat→Bool} {held:Bool}
end
end Go.Proofs.YtolnagbahceebaaGreat
set_option linter.unusedSimpArgs false
set_option linter.unusedVariables false
namespace Go.Proofs.YtolnagbahceebaaGreat
open Go.RowKit Go.Shelf
def andI (k:IntKind) (x y:Int):Int:=k.wrap (BitVec.ofInt k.bits x &&& BitVec.ofInt k.bits y).toNat
def orI (k:IntKind) (x y:Int):Int:=k.wrap (BitVec.ofInt k.bits x ||| BitVec.ofInt k.bits y).toNat
def xorI (k:IntKind) (x y:Int):Int:=k.wrap (BitVec.ofInt k.bits x ^^^ BitVec.ofInt k.bits y).toNat
section
variable {X:Cx} {σ:Env} {L:Lst} {d:Option Nat} {ty ty2 t:TypeId} {pos:String} {af:Array Edge} {g:Option (Nat × Bool)} {x y:Operand} {i j:Int} {k:IntKind}
theorem Ok1.andK (hx:ev σ x=some (.int k i)) (hy:ev σ y=some (.int k j)):Ok1 X ⟨d,.binOp .and t x y ty2,ty,pos,af,g⟩ σ L (.int k (andI k i j)):=.mk fun a w ha hw=>by
  simp [execOp,ha.ev hx,ha.ev hy,eqGuard,binOp,Op.intBits,andI]
theorem Ok1.orK (hx:ev σ x=some (.int k i)) (hy:ev σ y=some (.int k j)):Ok1 X ⟨d,.binOp .or t x y ty2,ty,pos,af,g⟩ σ L (.int k (orI k i j)):=.mk fun a w ha hw=>by
  simp [execOp,ha.ev hx,ha.ev hy,eqGuard,binOp,Op.intBits,orI]
theorem Ok1.xorK (hx:ev σ x=some (.int k i)) (hy:ev σ y=some (.int k j)):Ok1 X ⟨d,.binOp .xor t x y ty2,ty,pos,af,g⟩ σ L (.int k (xorI k i j)):=.mk fun a w ha hw=>by
  simp [execOp,ha.ev hx,ha.ev hy,eqGuard,binOp,Op.intBits,xorI]
theorem Ok1.cplK (hx:ev σ x=some (.int k i)) (hs:k.signed=false):Ok1 X ⟨d,.unOp .xor t x,ty,pos,af,g⟩ σ L (.int k (xorI k k.max i)):=.mk fun a w ha hw=>by
  simp [execOp,ha.ev hx,Op.unary,Op.intBits,xorI,hs]
theorem Ok1.shl {k2:IntKind} {m:Int} (hx:ev σ x=some (.int k i)) (hy:ev σ y=some (.int k2 j)) (h:0≤j) (h2:j.toNat≤k.bits) (hm:pw j.toNat=m):Ok1 X ⟨d,.binOp .shl t x y ty2,ty,pos,af,g⟩ σ L (.int k (k.wrap (i * m))):=.mk fun a w ha hw=>by
  have:¬ j < 0:=by omega
  rw [← hm,pw_eq]
  simp [execOp,ha.ev hx,ha.ev hy,eqGuard,binOp,Op.shift,this,Nat.min_eq_left h2]
theorem Ok1.add32 (hx:ev σ x=some (.int .u32 i)) (hy:ev σ y=some (.int .u32 j)):Ok1 X ⟨d,.binOp .add t x y ty2,ty,pos,af,g⟩ σ L (.int .u32 (IntKind.u32.wrap (i+j))):=Ok1.add hx hy
theorem wrap_u64 {i:Int} (h1:0≤i) (h2:i≤18446744073709551615):IntKind.u64.wrap i=i:=IntWalk.u64_in i ⟨h1,h2⟩
theorem Ok1.mulU (hx:ev σ x=some (.int .u64 i)) (hy:ev σ y=some (.int .u64 j)) (h1:0≤i * j) (h2:i * j≤18446744073709551615):Ok1 X ⟨d,.binOp .mul t x y ty2,ty,pos,af,g⟩ σ L (.int .u64 (i * j)):=by
  have:=Ok1.mul (X:=X) (σ:=σ) (L:=L) (d:=d) (ty:=ty) (pos:=pos) (af:=af) (g:=g) (t:=t) (ty2:=ty2) hx hy
  rwa [wrap_u64 h1 h2] at this
theorem Ok1.andE {m:Int} (hx:ev σ x=some (.int k i)) (hy:ev σ y=some (.int k j)) (hm:andI k i j=m):Ok1 X ⟨d,.binOp .and t x y ty2,ty,pos,af,g⟩ σ L (.int k m):=hm ▸ Ok1.andK hx hy
theorem Ok1.subU (hx:ev σ x=some (.int .u64 i)) (hy:ev σ y=some (.int .u64 j)) (h1:0≤i - j) (h2:i - j≤18446744073709551615):Ok1 X ⟨d,.binOp .sub t x y ty2,ty,pos,af,g⟩ σ L (.int .u64 (i - j)):=by
  have:=Ok1.sub (X:=X) (σ:=σ) (L:=L) (d:=d) (ty:=ty) (pos:=pos) (af:=af) (g:=g) (t:=t) (ty2:=ty2) hx hy
  rwa [wrap_u64 h1 h2] at this
end
def wr (i:Int):Int:=IntKind.u32.wrap i
theorem wr_mod (i:Int):wr i=i % 4294967296:=by simp [wr,IntKind.wrap,IntKind.bits,IntKind.signed]
theorem wr_in {i:Int} (h1:0≤i) (h2:i≤4294967295):wr i=i:=by rw [wr_mod];omega
theorem wr_bv (v:BitVec 32):IntKind.u32.wrap (v.toNat:Int)=v.toNat:=by
  have:=v.isLt
  exact wr_in (i:=(v.toNat:Int)) (by omega) (by omega)
theorem orI_nat (a b:Int):orI .u32 a b=(BitVec.ofInt 32 a ||| BitVec.ofInt 32 b).toNat:=wr_bv (BitVec.ofInt 32 a ||| BitVec.ofInt 32 b)
def rotr (x p q:Int):Int:=orI .u32 (wr (x * q)) (x / p)
def turned (x p1 q1 p2 q2 p3 q3:Int):Int:=xorI .u32 (xorI .u32 (rotr x p1 q1) (rotr x p2 q2)) (rotr x p3 q3)
def chI (a b c:Int):Int:=xorI .u32 (andI .u32 a b) (andI .u32 (xorI .u32 4294967295 a) c)
def majI (a b c:Int):Int:=xorI .u32 (xorI .u32 (andI .u32 a b) (andI .u32 a c)) (andI .u32 b c)
/-- Four bytes,the highest first. -/
def wordI (a b c d:Int):Int:=a * 16777216+b * 65536+c * 256+d
theorem or_nat (a b:Nat) (i:Nat) (h:b < 2 ^ i) (h2:2 ^ i * a+b < 4294967296):(BitVec.ofNat 32 (2 ^ i * a) ||| BitVec.ofNat 32 b)=BitVec.ofNat 32 (2 ^ i * a+b):=by
  apply BitVec.eq_of_toNat_eq
  have h3:2 ^ i * a < 4294967296:=by omega
  have h4:b < 4294967296:=by
    have:0≤2 ^ i * a:=Nat.zero_le _
    omega
  rw [BitVec.toNat_or,BitVec.toNat_ofNat,BitVec.toNat_ofNat,BitVec.toNat_ofNat,Nat.mod_eq_of_lt h3,Nat.mod_eq_of_lt h4,Nat.mod_eq_of_lt h2,Nat.two_pow_add_eq_or_of_lt h]
theorem orI_add {x y:Int} (a b i:Nat) (hx:x=(2 ^ i * a:Nat)) (hy:y=b) (h:b < 2 ^ i) (h2:2 ^ i * a+b < 4294967296):orI .u32 x y=x+y:=by
  subst hx;subst hy
  rw [orI_nat,BitVec.ofInt_natCast,BitVec.ofInt_natCast,or_nat a b i h h2,BitVec.toNat_ofNat,Nat.mod_eq_of_lt h2]
  omega
theorem word_or {a b c d:Int} (ha:0≤a∧a≤255) (hb:0≤b∧b≤255) (hc:0≤c∧c≤255) (hd:0≤d∧d≤255):orI .u32 (orI .u32 (orI .u32 (wr (a * 16777216)) (wr (b * 65536))) (wr (c * 256))) d=wordI a b c d:=by
  rw [wr_in (i:=a * 16777216) (by omega) (by omega),wr_in (i:=b * 65536) (by omega) (by omega),wr_in (i:=c * 256) (by omega) (by omega)]
  have h1:orI .u32 (a * 16777216) (b * 65536)=a * 16777216+b * 65536:=orI_add (a.toNat) (b.toNat * 65536) 24 (by omega) (by omega) (by omega) (by omega)
  have h2:orI .u32 (a * 16777216+b * 65536) (c * 256)=a * 16777216+b * 65536+c * 256:=orI_add (a.toNat * 256+b.toNat) (c.toNat * 256) 16 (by omega) (by omega) (by omega) (by omega)
  have h3:orI .u32 (a * 16777216+b * 65536+c * 256) d=a * 16777216+b * 65536+c * 256+d:=orI_add (a.toNat * 65536+b.toNat * 256+c.toNat) d.toNat 8 (by omega) (by omega) (by omega) (by omega)
  rw [h1,h2,h3]
  rfl
structure H8 where
  a:Int
  b:Int
  c:Int
  d:Int
  e:Int
  f:Int
  g:Int
  h:Int
def H8.l (s:H8):List Int:=[s.a,s.b,s.c,s.d,s.e,s.f,s.g,s.h]
def u32s (l:List Int):List Value:=l.map (.int .u32)
def u8s (l:List Int):List Value:=l.map (.int .u8)
def H8.v (s:H8):List Value:=u32s s.l
def oneI (s:H8) (k w:Int):Int:=wr (wr (wr (wr (s.h+turned s.e 64 67108864 2048 2097152 33554432 128)+chI s.e s.f s.g)+k)+w)
def twoI (s:H8):Int:=wr (turned s.a 4 1073741824 8192 524288 4194304 1024+majI s.a s.b s.c)
def stepI (s:H8) (k w:Int):H8:=⟨wr (oneI s k w+twoI s),s.a,s.b,s.c,wr (s.d+oneI s k w),s.e,s.f,s.g⟩
def addH (s t:H8):H8:=⟨wr (s.a+t.a),wr (s.b+t.b),wr (s.c+t.c),wr (s.d+t.d),wr (s.e+t.e),wr (s.f+t.f),wr (s.g+t.g),wr (s.h+t.h)⟩
/-- The words of a block's bytes b. -/
def nextI (b l:List Int):Int :=
  if l.length < 16 then wordI (b.getD (4 * l.length) 0) (b.getD (4 * l.length+1) 0) (b.getD (4 * l.length+2) 0) (b.getD (4 * l.length+3) 0)
  else wr (wr (wr (l.getD (l.length - 16) 0+xorI .u32 (xorI .u32 (rotr (l.getD (l.length - 15) 0) 128 33554432) (rotr (l.getD (l.length - 15) 0) 262144 16384)) (l.getD (l.length - 15) 0 / 8))+l.getD (l.length - 7) 0)
    + xorI .u32 (xorI .u32 (rotr (l.getD (l.length - 2) 0) 131072 32768) (rotr (l.getD (l.length - 2) 0) 524288 8192)) (l.getD (l.length - 2) 0 / 1024))
def schedI (b:List Int):Nat→List Int
  | 0=>[]
  | i+1=>schedI b i++[nextI b (schedI b i)]
theorem sched_len (b:List Int) (i:Nat):(schedI b i).length=i:=by
  induction i with
  | zero=>rfl
  | succ i ih=>simp [schedI,ih]
def roundsI (K W:List Int) (s:H8):Nat→H8
  | 0=>s
  | i+1=>stepI (roundsI K W s i) (K.getD i 0) (W.getD i 0)
def mixI (K b:List Int) (s:H8):H8:=addH s (roundsI K (schedI b 64) s 64)
/-- All whole blocks. -/
def allI (K:List Int):Nat→List Int→H8→H8
  | 0,_,s=>s
  | n+1,b,s=>allI K n (b.drop 64) (mixI K (b.take 64) s)
def h0I:H8:=⟨1779033703,3144134277,1013904242,2773480762,1359893119,2600822924,528734635,1541459225⟩
def kI:List Int:=[1116352408,1899447441,3049323471,3921009573,961987163,1508970993,2453635748,2870763221,3624381080,310598401,607225278,1426881987,1925078388,2162078206,2614888103,3248222580,3835390401,4022224774,264347078,604807628,770255983,1249150122,1555081692,1996064986,2554220882,2821834349,2952996808,3210313671,3336571891,3584528711,113926993,338241895,666307205,773529912,1294757372,1396182291,1695183700,1986661051,2177026350,2456956037,2730485921,2820302411,3259730800,3345764771,3516065817,3600352804,4094571909,275423344,430227734,506948616,659060556,883997877,958139571,1322822218,1537002063,1747873779,1955562222,2024104815,2227730452,2361852424,2428436474,2756734187,3204031479,3329325298]
def lenI (n:Int):List Int:=[n / 72057594037927936 % 256,n / 281474976710656 % 256,n / 1099511627776 % 256,n / 4294967296 % 256,n / 16777216 % 256,n / 65536 % 256,n / 256 % 256,n % 256]
/-- What stands behind n bytes: a sign,zeros,the length. -/
def padI (n:Nat):List Int:=128::(List.replicate ((119 - n % 64) % 64) 0++lenI (8 * n))
def outI (s:H8):List Int:=s.l.flatMap fun x=>[x / 16777216 % 256,x / 65536 % 256,x / 256 % 256,x % 256]
def shaI (b:List Int):List Int:=outI (allI kI ((b++padI b.length).length / 64) (b++padI b.length) h0I)
theorem out_len (s:H8):(outI s).length=32:=by simp [outI,H8.l]
theorem sha_len (b:List Int):(shaI b).length=32:=out_len _
theorem kI_len:kI.length=64:=rfl

theorem allI_add (K:List Int) (j:Nat):∀ (i:Nat) (b:List Int) (s:H8),allI K (i+j) b s=allI K j (b.drop (64 * i)) (allI K i b s)
  | 0,b,s=>by simp [allI]
  | i+1,b,s=>by
    rw [show i+1+j=(i+j)+1 by omega,allI,allI_add K j i,allI,List.drop_drop,show 64+64 * i=64 * (i+1) by omega]
theorem allI_app (K:List Int):∀ (i:Nat) (b c:List Int) (s:H8),64 * i≤b.length→allI K i (b++c) s=allI K i b s
  | 0,_,_,_,_=>rfl
  | i+1,b,c,s,h=>by
    rw [allI,allI,List.drop_append_of_le_length (by omega),List.take_append_of_le_length (by omega)]
    exact allI_app K i _ c _ (by rw [List.length_drop];omega)
/-- The words and what is left,once bytes b have come. -/
def wordsI (b:List Int):H8:=allI kI (b.length / 64) b h0I
def leftI (b:List Int):List Int:=b.drop (64 * (b.length / 64))
theorem left_len (b:List Int):(leftI b).length=b.length % 64:=by unfold leftI;rw [List.length_drop];omega
theorem feed (b x:List Int):allI kI ((leftI b++x).length / 64) (leftI b++x) (wordsI b)=wordsI (b++x)∧(leftI b++x).drop (64 * ((leftI b++x).length / 64))=leftI (b++x):=by
  have hl:=left_len b
  have hd:leftI b++x=(b++x).drop (64 * (b.length / 64)):=by
    unfold leftI;rw [List.drop_append_of_le_length (by omega)]
  have hn:(b++x).length / 64=b.length / 64+(leftI b++x).length / 64:=by
    rw [List.length_append,List.length_append,hl];omega
  constructor
  · unfold wordsI
    rw [hn,allI_add,← hd,allI_app kI _ b x _ (by omega)]
  · conv=>rhs;unfold leftI
    rw [hn,Nat.mul_add,← List.drop_drop,← hd]
theorem sha_words (b:List Int):shaI b=outI (wordsI (b++padI b.length)):=rfl
def rowsTab:List (Option TRow):=[
  none,
  some { k:=.fn,size:=1,bytes:=8,zero:=.nilFunc },
  some { k:=.int .i64,size:=1,bytes:=8,zero:=.int .i64 0 },
  some { k:=.int .i64,size:=1,bytes:=8,zero:=.int .i64 0 },
  some { k:=.bool,size:=1,bytes:=1,zero:=.bool false },
  some { k:=.int .u8,size:=1,bytes:=1,zero:=.int .u8 0 },
  some { k:=.int .u8,size:=1,bytes:=1,zero:=.int .u8 0 },
  none,
  none,
  some { k:=.string,size:=1,bytes:=16,zero:=.string ByteArray.empty },
  some { k:=.string,size:=1,bytes:=16,zero:=.string ByteArray.empty },
  some { k:=.string,size:=1,bytes:=16,zero:=.string ByteArray.empty },
  some { k:=.int .u64,size:=1,bytes:=8,zero:=.int .u64 0 },
  none,
  none,
  some { k:=.ptr 438,size:=1,bytes:=8,zero:=.pointer none },
  some { k:=.ptr 441,size:=1,bytes:=8,zero:=.pointer none },
  some { k:=.ptr 449,size:=1,bytes:=8,zero:=.pointer none },
  none,
  none,
  none,
  some { k:=.int .i32,size:=1,bytes:=4,zero:=.int .i32 0 },
  some { k:=.slice 5,size:=1,bytes:=24,zero:=.slice none 0 0 },
  some { k:=.ptr 166,size:=1,bytes:=8,zero:=.pointer none },
  some { k:=.int .i64,size:=1,bytes:=8,zero:=.int .i64 0 },
  none,
  some { k:=.fn,size:=1,bytes:=8,zero:=.nilFunc },
  some { k:=.arr 8 5,size:=8,bytes:=8,zero:=.agg #[.int .u8 0,.int .u8 0,.int .u8 0,.int .u8 0,.int .u8 0,.int .u8 0,.int .u8 0,.int .u8 0] },
  none,
  some { k:=.fn,size:=1,bytes:=8,zero:=.nilFunc },
  none,
  some { k:=.fn,size:=1,bytes:=8,zero:=.nilFunc },
  some { k:=.fn,size:=1,bytes:=8,zero:=.nilFunc },
  none,
  none,
  some { k:=.ptr 191,size:=1,bytes:=8,zero:=.pointer none },
  none,
  none,
  none,
  some { k:=.slice 3,size:=1,bytes:=24,zero:=.slice none 0 0 },
  some { k:=.arr 4 39,size:=4,bytes:=96,zero:=.agg #[.slice none 0 0,.slice none 0 0,.slice none 0 0,.slice none 0 0] },
  some { k:=.slice 60,size:=1,bytes:=24,zero:=.slice none 0 0 },
  some { k:=.ptr 48,size:=1,bytes:=8,zero:=.pointer none },
  none,
  none,
  none,
  some { k:=.ptr 51,size:=1,bytes:=8,zero:=.pointer none },
  some { k:=.strct [(40,0,4)],size:=4,bytes:=96,zero:=.agg #[.slice none 0 0,.slice none 0 0,.slice none 0 0,.slice none 0 0] },
  some { k:=.strct [(40,0,4)],size:=4,bytes:=96,zero:=.agg #[.slice none 0 0,.slice none 0 0,.slice none 0 0,.slice none 0 0] },
  some { k:=.slice 184,size:=1,bytes:=24,zero:=.slice none 0 0 },
  some { k:=.strct [(48,0,4),(49,4,1),(3,5,1),(4,6,1)],size:=7,bytes:=136,zero:=.agg #[.slice none 0 0,.slice none 0 0,.slice none 0 0,.slice none 0 0,.slice none 0 0,.int .i64 0,.bool false] },
  some { k:=.strct [(48,0,4),(49,4,1),(3,5,1),(4,6,1)],size:=7,bytes:=136,zero:=.agg #[.slice none 0 0,.slice none 0 0,.slice none 0 0,.slice none 0 0,.slice none 0 0,.int .i64 0,.bool false] },
  some { k:=.int .u32,size:=1,bytes:=4,zero:=.int .u32 0 },
  some { k:=.arr 64 52,size:=64,bytes:=256,zero:=.agg #[.int .u32 0,.int .u32 0,.int .u32 0,.int .u32 0,.int .u32 0,.int .u32 0,.int .u32 0,.int .u32 0,.int .u32 0,.int .u32 0,.int .u32 0,.int .u32 0,.int .u32 0,.int .u32 0,.int .u32 0,.int .u32 0,.int .u32 0,.int .u32 0,.int .u32 0,.int .u32 0,.int .u32 0,.int .u32 0,.int .u32 0,.int .u32 0,.int .u32 0,.int .u32 0,.int .u32 0,.int .u32 0,.int .u32 0,.int .u32 0,.int .u32 0,.int .u32 0,.int .u32 0,.int .u32 0,.int .u32 0,.int .u32 0,.int .u32 0,.int .u32 0,.int .u32 0,.int .u32 0,.int .u32 0,.int .u32 0,.int .u32 0,.int .u32 0,.int .u32 0,.int .u32 0,.int .u32 0,.int .u32 0,.int .u32 0,.int .u32 0,.int .u32 0,.int .u32 0,.int .u32 0,.int .u32 0,.int .u32 0,.int .u32 0,.int .u32 0,.int .u32 0,.int .u32 0,.int .u32 0,.int .u32 0,.int .u32 0,.int .u32 0,.int .u32 0] },
  some { k:=.arr 8 52,size:=8,bytes:=32,zero:=.agg #[.int .u32 0,.int .u32 0,.int .u32 0,.int .u32 0,.int .u32 0,.int .u32 0,.int .u32 0,.int .u32 0] },
  some { k:=.strct [(53,0,64),(54,64,8)],size:=72,bytes:=288,zero:=.agg #[.int .u32 0,.int .u32 0,.int .u32 0,.int .u32 0,.int .u32 0,.int .u32 0,.int .u32 0,.int .u32 0,.int .u32 0,.int .u32 0,.int .u32 0,.int .u32 0,.int .u32 0,.int .u32 0,.int .u32 0,.int .u32 0,.int .u32 0,.int .u32 0,.int .u32 0,.int .u32 0,.int .u32 0,.int .u32 0,.int .u32 0,.int .u32 0,.int .u32 0,.int .u32 0,.int .u32 0,.int .u32 0,.int .u32 0,.int .u32 0,.int .u32 0,.int .u32 0,.int .u32 0,.int .u32 0,.int .u32 0,.int .u32 0,.int .u32 0,.int .u32 0,.int .u32 0,.int .u32 0,.int .u32 0,.int .u32 0,.int .u32 0,.int .u32 0,.int .u32 0,.int .u32 0,.int .u32 0,.int .u32 0,.int .u32 0,.int .u32 0,.int .u32 0,.int .u32 0,.int .u32 0,.int .u32 0,.int .u32 0,.int .u32 0,.int .u32 0,.int .u32 0,.int .u32 0,.int .u32 0,.int .u32 0,.int .u32 0,.int .u32 0,.int .u32 0,.int .u32 0,.int .u32 0,.int .u32 0,.int .u32 0,.int .u32 0,.int .u32 0,.int .u32 0,.int .u32 0] },
  some { k:=.strct [(53,0,64),(54,64,8)],size:=72,bytes:=288,zero:=.agg #[.int .u32 0,.int .u32 0,.int .u32 0,.int .u32 0,.int .u32 0,.int .u32 0,.int .u32 0,.int .u32 0,.int .u32 0,.int .u32 0,.int .u32 0,.int .u32 0,.int .u32 0,.int .u32 0,.int .u32 0,.int .u32 0,.int .u32 0,.int .u32 0,.int .u32 0,.int .u32 0,.int .u32 0,.int .u32 0,.int .u32 0,.int .u32 0,.int .u32 0,.int .u32 0,.int .u32 0,.int .u32 0,.int .u32 0,.int .u32 0,.int .u32 0,.int .u32 0,.int .u32 0,.int .u32 0,.int .u32 0,.int .u32 0,.int .u32 0,.int .u32 0,.int .u32 0,.int .u32 0,.int .u32 0,.int .u32 0,.int .u32 0,.int .u32 0,.int .u32 0,.int .u32 0,.int .u32 0,.int .u32 0,.int .u32 0,.int .u32 0,.int .u32 0,.int .u32 0,.int .u32 0,.int .u32 0,.int .u32 0,.int .u32 0,.int .u32 0,.int .u32 0,.int .u32 0,.int .u32 0,.int .u32 0,.int .u32 0,.int .u32 0,.int .u32 0,.int .u32 0,.int .u32 0,.int .u32 0,.int .u32 0,.int .u32 0,.int .u32 0,.int .u32 0,.int .u32 0] },
  none,
  some { k:=.int .u64,size:=1,bytes:=8,zero:=.int .u64 0 },
  some { k:=.strct [(3,0,1),(3,1,1),(3,2,1),(3,3,1),(27,4,8),(22,12,1)],size:=13,bytes:=64,zero:=.agg #[.int .i64 0,.int .i64 0,.int .i64 0,.int .i64 0,.int .u8 0,.int .u8 0,.int .u8 0,.int .u8 0,.int .u8 0,.int .u8 0,.int .u8 0,.int .u8 0,.slice none 0 0] },
  some { k:=.strct [(3,0,1),(3,1,1),(3,2,1),(3,3,1),(27,4,8),(22,12,1)],size:=13,bytes:=64,zero:=.agg #[.int .i64 0,.int .i64 0,.int .i64 0,.int .i64 0,.int .u8 0,.int .u8 0,.int .u8 0,.int .u8 0,.int .u8 0,.int .u8 0,.int .u8 0,.int .u8 0,.slice none 0 0] },
  none,
  none,
  none,
  none,
  none,
  none,
  some { k:=.arr 4 3,size:=4,bytes:=32,zero:=.agg #[.int .i64 0,.int .i64 0,.int .i64 0,.int .i64 0] },
  some { k:=.arr 4 3,size:=4,bytes:=32,zero:=.agg #[.int .i64 0,.int .i64 0,.int .i64 0,.int .i64 0] },
  some { k:=.strct [(68,0,4),(27,4,8)],size:=12,bytes:=40,zero:=.agg #[.int .i64 0,.int .i64 0,.int .i64 0,.int .i64 0,.int .u8 0,.int .u8 0,.int .u8 0,.int .u8 0,.int .u8 0,.int .u8 0,.int .u8 0,.int .u8 0] },
  none,
  none,
  none,
  some { k:=.ptr 205,size:=1,bytes:=8,zero:=.pointer none },
  none,
  some { k:=.strct [(68,0,4),(40,4,4)],size:=8,bytes:=128,zero:=.agg #[.int .i64 0,.int .i64 0,.int .i64 0,.int .i64 0,.slice none 0 0,.slice none 0 0,.slice none 0 0,.slice none 0 0] },
  some { k:=.strct [(68,0,4),(40,4,4)],size:=8,bytes:=128,zero:=.agg #[.int .i64 0,.int .i64 0,.int .i64 0,.int .i64 0,.slice none 0 0,.slice none 0 0,.slice none 0 0,.slice none 0 0] },
  none,
  none,
  none,
  none,
  none,
  none,
  none,
  none,
  none,
  some { k:=.slice 22,size:=1,bytes:=24,zero:=.slice none 0 0 },
  some { k:=.slice 39,size:=1,bytes:=24,zero:=.slice none 0 0 },
  none,
  some { k:=.fn,size:=1,bytes:=8,zero:=.nilFunc },
  none,
  some { k:=.slice 116,size:=1,bytes:=24,zero:=.slice none 0 0 },
  some { k:=.ptr 217,size:=1,bytes:=8,zero:=.pointer none },
  none,
  some { k:=.ptr 232,size:=1,bytes:=8,zero:=.pointer none },
  some { k:=.arr 3 94,size:=3,bytes:=24,zero:=.agg #[.pointer none,.pointer none,.pointer none] },
  some { k:=.strct [(3,0,1),(3,1,1),(3,2,1),(3,3,1)],size:=4,bytes:=32,zero:=.agg #[.int .i64 0,.int .i64 0,.int .i64 0,.int .i64 0] },
  some { k:=.strct [(3,0,1),(3,1,1),(3,2,1),(3,3,1)],size:=4,bytes:=32,zero:=.agg #[.int .i64 0,.int .i64 0,.int .i64 0,.int .i64 0] },
  some { k:=.arr 32 5,size:=32,bytes:=32,zero:=.agg #[.int .u8 0,.int .u8 0,.int .u8 0,.int .u8 0,.int .u8 0,.int .u8 0,.int .u8 0,.int .u8 0,.int .u8 0,.int .u8 0,.int .u8 0,.int .u8 0,.int .u8 0,.int .u8 0,.int .u8 0,.int .u8 0,.int .u8 0,.int .u8 0,.int .u8 0,.int .u8 0,.int .u8 0,.int .u8 0,.int .u8 0,.int .u8 0,.int .u8 0,.int .u8 0,.int .u8 0,.int .u8 0,.int .u8 0,.int .u8 0,.int .u8 0,.int .u8 0] },
  some { k:=.strct [(97,0,4),(98,4,32)],size:=36,bytes:=64,zero:=.agg #[.int .i64 0,.int .i64 0,.int .i64 0,.int .i64 0,.int .u8 0,.int .u8 0,.int .u8 0,.int .u8 0,.int .u8 0,.int .u8 0,.int .u8 0,.int .u8 0,.int .u8 0,.int .u8 0,.int .u8 0,.int .u8 0,.int .u8 0,.int .u8 0,.int .u8 0,.int .u8 0,.int .u8 0,.int .u8 0,.int .u8 0,.int .u8 0,.int .u8 0,.int .u8 0,.int .u8 0,.int .u8 0,.int .u8 0,.int .u8 0,.int .u8 0,.int .u8 0,.int .u8 0,.int .u8 0,.int .u8 0,.int .u8 0] },
  some { k:=.strct [(97,0,4),(98,4,32)],size:=36,bytes:=64,zero:=.agg #[.int .i64 0,.int .i64 0,.int .i64 0,.int .i64 0,.int .u8 0,.int .u8 0,.int .u8 0,.int .u8 0,.int .u8 0,.int .u8 0,.int .u8 0,.int .u8 0,.int .u8 0,.int .u8 0,.int .u8 0,.int .u8 0,.int .u8 0,.int .u8 0,.int .u8 0,.int .u8 0,.int .u8 0,.int .u8 0,.int .u8 0,.int .u8 0,.int .u8 0,.int .u8 0,.int .u8 0,.int .u8 0,.int .u8 0,.int .u8 0,.int .u8 0,.int .u8 0,.int .u8 0,.int .u8 0,.int .u8 0,.int .u8 0] },
  none,
  none,
  none,
  none,
  some { k:=.ptr 236,size:=1,bytes:=8,zero:=.pointer none },
  none,
  none,
  none,
  none,
  some { k:=.ptr 243,size:=1,bytes:=8,zero:=.pointer none },
  none,
  none,
  none,
  none,
  some { k:=.strct [(3,0,1),(3,1,1),(22,2,1)],size:=3,bytes:=40,zero:=.agg #[.int .i64 0,.int .i64 0,.slice none 0 0] },
  some { k:=.strct [(3,0,1),(3,1,1),(22,2,1)],size:=3,bytes:=40,zero:=.agg #[.int .i64 0,.int .i64 0,.slice none 0 0] },
  some { k:=.strct [(3,0,1),(3,1,1)],size:=2,bytes:=16,zero:=.agg #[.int .i64 0,.int .i64 0] },
  some { k:=.strct [(3,0,1),(3,1,1)],size:=2,bytes:=16,zero:=.agg #[.int .i64 0,.int .i64 0] },
  some { k:=.strct [(3,0,1),(97,1,4),(3,5,1),(118,6,2),(22,8,1),(98,9,32)],size:=41,bytes:=120,zero:=.agg #[.int .i64 0,.int .i64 0,.int .i64 0,.int .i64 0,.int .i64 0,.int .i64 0,.int .i64 0,.int .i64 0,.slice none 0 0,.int .u8 0,.int .u8 0,.int .u8 0,.int .u8 0,.int .u8 0,.int .u8 0,.int .u8 0,.int .u8 0,.int .u8 0,.int .u8 0,.int .u8 0,.int .u8 0,.int .u8 0,.int .u8 0,.int .u8 0,.int .u8 0,.int .u8 0,.int .u8 0,.int .u8 0,.int .u8 0,.int .u8 0,.int .u8 0,.int .u8 0,.int .u8 0,.int .u8 0,.int .u8 0,.int .u8 0,.int .u8 0,.int .u8 0,.int .u8 0,.int .u8 0,.int .u8 0] },
  some { k:=.strct [(3,0,1),(97,1,4),(3,5,1),(118,6,2),(22,8,1),(98,9,32)],size:=41,bytes:=120,zero:=.agg #[.int .i64 0,.int .i64 0,.int .i64 0,.int .i64 0,.int .i64 0,.int .i64 0,.int .i64 0,.int .i64 0,.slice none 0 0,.int .u8 0,.int .u8 0,.int .u8 0,.int .u8 0,.int .u8 0,.int .u8 0,.int .u8 0,.int .u8 0,.int .u8 0,.int .u8 0,.int .u8 0,.int .u8 0,.int .u8 0,.int .u8 0,.int .u8 0,.int .u8 0,.int .u8 0,.int .u8 0,.int .u8 0,.int .u8 0,.int .u8 0,.int .u8 0,.int .u8 0,.int .u8 0,.int .u8 0,.int .u8 0,.int .u8 0,.int .u8 0,.int .u8 0,.int .u8 0,.int .u8 0,.int .u8 0] },
  none,
  none,
  some { k:=.ptr 326,size:=1,bytes:=8,zero:=.pointer none },
  none,
  none,
  none,
  some { k:=.strct [(3,0,1),(3,1,1),(3,2,1),(3,3,1)],size:=4,bytes:=32,zero:=.agg #[.int .i64 0,.int .i64 0,.int .i64 0,.int .i64 0] },
  none,
  some { k:=.ptr 267,size:=1,bytes:=8,zero:=.pointer none },
  none,
  none,
  some { k:=.ptr 275,size:=1,bytes:=8,zero:=.pointer none },
  none,
  none,
  none,
  none,
  some { k:=.slice 127,size:=1,bytes:=24,zero:=.slice none 0 0 },
  some { k:=.strct [(129,0,1),(3,1,1),(3,2,1),(3,3,1),(3,4,1),(137,5,1)],size:=6,bytes:=64,zero:=.agg #[.pointer none,.int .i64 0,.int .i64 0,.int .i64 0,.int .i64 0,.slice none 0 0] },
  none,
  some { k:=.strct [(3,0,1),(3,1,1)],size:=2,bytes:=16,zero:=.agg #[.int .i64 0,.int .i64 0] },
  some { k:=.strct [(3,0,1),(127,1,4),(3,5,1),(140,6,2),(22,8,1),(98,9,32)],size:=41,bytes:=120,zero:=.agg #[.int .i64 0,.int .i64 0,.int .i64 0,.int .i64 0,.int .i64 0,.int .i64 0,.int .i64 0,.int .i64 0,.slice none 0 0,.int .u8 0,.int .u8 0,.int .u8 0,.int .u8 0,.int .u8 0,.int .u8 0,.int .u8 0,.int .u8 0,.int .u8 0,.int .u8 0,.int .u8 0,.int .u8 0,.int .u8 0,.int .u8 0,.int .u8 0,.int .u8 0,.int .u8 0,.int .u8 0,.int .u8 0,.int .u8 0,.int .u8 0,.int .u8 0,.int .u8 0,.int .u8 0,.int .u8 0,.int .u8 0,.int .u8 0,.int .u8 0,.int .u8 0,.int .u8 0,.int .u8 0,.int .u8 0] },
  some { k:=.strct [(3,0,1),(127,1,4),(3,5,1),(140,6,2),(22,8,1),(98,9,32)],size:=41,bytes:=120,zero:=.agg #[.int .i64 0,.int .i64 0,.int .i64 0,.int .i64 0,.int .i64 0,.int .i64 0,.int .i64 0,.int .i64 0,.slice none 0 0,.int .u8 0,.int .u8 0,.int .u8 0,.int .u8 0,.int .u8 0,.int .u8 0,.int .u8 0,.int .u8 0,.int .u8 0,.int .u8 0,.int .u8 0,.int .u8 0,.int .u8 0,.int .u8 0,.int .u8 0,.int .u8 0,.int .u8 0,.int .u8 0,.int .u8 0,.int .u8 0,.int .u8 0,.int .u8 0,.int .u8 0,.int .u8 0,.int .u8 0,.int .u8 0,.int .u8 0,.int .u8 0,.int .u8 0,.int .u8 0,.int .u8 0,.int .u8 0] },
  some { k:=.strct [(3,0,1),(3,1,1),(3,2,1),(142,3,41)],size:=44,bytes:=144,zero:=.agg #[.int .i64 0,.int .i64 0,.int .i64 0,.int .i64 0,.int .i64 0,.int .i64 0,.int .i64 0,.int .i64 0,.int .i64 0,.int .i64 0,.int .i64 0,.slice none 0 0,.int .u8 0,.int .u8 0,.int .u8 0,.int .u8 0,.int .u8 0,.int .u8 0,.int .u8 0,.int .u8 0,.int .u8 0,.int .u8 0,.int .u8 0,.int .u8 0,.int .u8 0,.int .u8 0,.int .u8 0,.int .u8 0,.int .u8 0,.int .u8 0,.int .u8 0,.int .u8 0,.int .u8 0,.int .u8 0,.int .u8 0,.int .u8 0,.int .u8 0,.int .u8 0,.int .u8 0,.int .u8 0,.int .u8 0,.int .u8 0,.int .u8 0,.int .u8 0] },
  none,
  none,
  none,
  none,
  none,
  none,
  none,
  none,
  none,
  none,
  none,
  none,
  none,
  some { k:=.slice 97,size:=1,bytes:=24,zero:=.slice none 0 0 },
  none,
  none,
  none,
  some { k:=.slice 164,size:=1,bytes:=24,zero:=.slice none 0 0 },
  none,
  some { k:=.strct [(3,0,1),(3,1,1),(27,2,8)],size:=10,bytes:=24,zero:=.agg #[.int .i64 0,.int .i64 0,.int .u8 0,.int .u8 0,.int .u8 0,.int .u8 0,.int .u8 0,.int .u8 0,.int .u8 0,.int .u8 0] },
  some { k:=.strct [(3,0,1),(3,1,1),(27,2,8)],size:=10,bytes:=24,zero:=.agg #[.int .i64 0,.int .i64 0,.int .u8 0,.int .u8 0,.int .u8 0,.int .u8 0,.int .u8 0,.int .u8 0,.int .u8 0,.int .u8 0] },
  some { k:=.strct [(35,0,1),(161,1,1),(3,2,1),(4,3,1)],size:=4,bytes:=48,zero:=.agg #[.pointer none,.slice none 0 0,.int .i64 0,.bool false] },
  some { k:=.strct [(35,0,1),(161,1,1),(3,2,1),(4,3,1)],size:=4,bytes:=48,zero:=.agg #[.pointer none,.slice none 0 0,.int .i64 0,.bool false] },
  none,
  none,
  none,
  none,
  none,
  none,
  none,
  none,
  none,
  none,
  none,
  none,
  none,
  none,
  none,
  none,
  some { k:=.strct [(3,0,1),(3,1,1),(27,2,8)],size:=10,bytes:=24,zero:=.agg #[.int .i64 0,.int .i64 0,.int .u8 0,.int .u8 0,.int .u8 0,.int .u8 0,.int .u8 0,.int .u8 0,.int .u8 0,.int .u8 0] },
  some { k:=.strct [(3,0,1),(3,1,1),(27,2,8)],size:=10,bytes:=24,zero:=.agg #[.int .i64 0,.int .i64 0,.int .u8 0,.int .u8 0,.int .u8 0,.int .u8 0,.int .u8 0,.int .u8 0,.int .u8 0,.int .u8 0] },
  none,
  some { k:=.strct [(3,0,1),(3,1,1),(22,2,1)],size:=3,bytes:=40,zero:=.agg #[.int .i64 0,.int .i64 0,.slice none 0 0] },
  none,
  none,
  none,
  some { k:=.strct [(40,0,4)],size:=4,bytes:=96,zero:=.agg #[.slice none 0 0,.slice none 0 0,.slice none 0 0,.slice none 0 0] },
  some { k:=.strct [(40,0,4)],size:=4,bytes:=96,zero:=.agg #[.slice none 0 0,.slice none 0 0,.slice none 0 0,.slice none 0 0] },
  none,
  none,
  none,
  none,
  none,
  none,
  none,
  none,
  none,
  none,
  some { k:=.strct [(22,0,1),(24,1,1)],size:=2,bytes:=32,zero:=.agg #[.slice none 0 0,.int .i64 0] },
  some { k:=.strct [(22,0,1),(24,1,1)],size:=2,bytes:=32,zero:=.agg #[.slice none 0 0,.int .i64 0] },
  some { k:=.strct [(203,0,2)],size:=2,bytes:=32,zero:=.agg #[.slice none 0 0,.int .i64 0] },
  some { k:=.strct [(203,0,2)],size:=2,bytes:=32,zero:=.agg #[.slice none 0 0,.int .i64 0] },
  none,
  none,
  none,
  none,
  none,
  none,
  none,
  none,
  none,
  some { k:=.slice 5,size:=1,bytes:=24,zero:=.slice none 0 0 },
  some { k:=.strct [(215,0,1)],size:=1,bytes:=24,zero:=.agg #[.slice none 0 0] },
  some { k:=.strct [(215,0,1)],size:=1,bytes:=24,zero:=.agg #[.slice none 0 0] },
  none,
  none,
  none,
  none,
  none,
  some { k:=.ptr 324,size:=1,bytes:=8,zero:=.pointer none },
  none,
  none,
  none,
  none,
  some { k:=.strct [(118,0,2),(58,2,1)],size:=3,bytes:=24,zero:=.agg #[.int .i64 0,.int .i64 0,.int .u64 0] },
  some { k:=.strct [(118,0,2),(58,2,1)],size:=3,bytes:=24,zero:=.agg #[.int .i64 0,.int .i64 0,.int .u64 0] },
  some { k:=.arr 4 229,size:=12,bytes:=96,zero:=.agg #[.int .i64 0,.int .i64 0,.int .u64 0,.int .i64 0,.int .i64 0,.int .u64 0,.int .i64 0,.int .i64 0,.int .u64 0,.int .i64 0,.int .i64 0,.int .u64 0] },
  some { k:=.strct [(223,0,1),(105,1,1),(110,2,1),(123,3,1),(230,4,12)],size:=16,bytes:=128,zero:=.agg #[.pointer none,.pointer none,.pointer none,.pointer none,.int .i64 0,.int .i64 0,.int .u64 0,.int .i64 0,.int .i64 0,.int .u64 0,.int .i64 0,.int .i64 0,.int .u64 0,.int .i64 0,.int .i64 0,.int .u64 0] },
  some { k:=.strct [(223,0,1),(105,1,1),(110,2,1),(123,3,1),(230,4,12)],size:=16,bytes:=128,zero:=.agg #[.pointer none,.pointer none,.pointer none,.pointer none,.int .i64 0,.int .i64 0,.int .u64 0,.int .i64 0,.int .i64 0,.int .u64 0,.int .i64 0,.int .i64 0,.int .u64 0,.int .i64 0,.int .i64 0,.int .u64 0] },
  some { k:=.map 97 92,size:=1,bytes:=8,zero:=.map none },
  some { k:=.map 3 92,size:=1,bytes:=8,zero:=.map none },
  some { k:=.strct [(100,0,36),(233,36,1),(234,37,1)],size:=38,bytes:=80,zero:=.agg #[.int .i64 0,.int .i64 0,.int .i64 0,.int .i64 0,.int .u8 0,.int .u8 0,.int .u8 0,.int .u8 0,.int .u8 0,.int .u8 0,.int .u8 0,.int .u8 0,.int .u8 0,.int .u8 0,.int .u8 0,.int .u8 0,.int .u8 0,.int .u8 0,.int .u8 0,.int .u8 0,.int .u8 0,.int .u8 0,.int .u8 0,.int .u8 0,.int .u8 0,.int .u8 0,.int .u8 0,.int .u8 0,.int .u8 0,.int .u8 0,.int .u8 0,.int .u8 0,.int .u8 0,.int .u8 0,.int .u8 0,.int .u8 0,.map none,.map none] },
  some { k:=.strct [(100,0,36),(233,36,1),(234,37,1)],size:=38,bytes:=80,zero:=.agg #[.int .i64 0,.int .i64 0,.int .i64 0,.int .i64 0,.int .u8 0,.int .u8 0,.int .u8 0,.int .u8 0,.int .u8 0,.int .u8 0,.int .u8 0,.int .u8 0,.int .u8 0,.int .u8 0,.int .u8 0,.int .u8 0,.int .u8 0,.int .u8 0,.int .u8 0,.int .u8 0,.int .u8 0,.int .u8 0,.int .u8 0,.int .u8 0,.int .u8 0,.int .u8 0,.int .u8 0,.int .u8 0,.int .u8 0,.int .u8 0,.int .u8 0,.int .u8 0,.int .u8 0,.int .u8 0,.int .u8 0,.int .u8 0,.map none,.map none] },
  none,
  none,
  none,
  some { k:=.ptr 245,size:=1,bytes:=8,zero:=.pointer none },
  some { k:=.map 97 240,size:=1,bytes:=8,zero:=.map none },
  some { k:=.strct [(241,0,1)],size:=1,bytes:=8,zero:=.agg #[.map none] },
  some { k:=.strct [(241,0,1)],size:=1,bytes:=8,zero:=.agg #[.map none] },
  some { k:=.strct [(229,0,3),(92,3,1),(3,4,1)],size:=5,bytes:=40,zero:=.agg #[.int .i64 0,.int .i64 0,.int .u64 0,.pointer none,.int .i64 0] },
  some { k:=.strct [(229,0,3),(92,3,1),(3,4,1)],size:=5,bytes:=40,zero:=.agg #[.int .i64 0,.int .i64 0,.int .u64 0,.pointer none,.int .i64 0] },
  none,
  none,
  none,
  none,
  none,
  none,
  none,
  some { k:=.fn,size:=1,bytes:=8,zero:=.nilFunc },
  some { k:=.arr 4 253,size:=4,bytes:=32,zero:=.agg #[.nilFunc,.nilFunc,.nilFunc,.nilFunc] },
  none,
  none,
  none,
  some { k:=.arr 16 3,size:=16,bytes:=128,zero:=.agg #[.int .i64 0,.int .i64 0,.int .i64 0,.int .i64 0,.int .i64 0,.int .i64 0,.int .i64 0,.int .i64 0,.int .i64 0,.int .i64 0,.int .i64 0,.int .i64 0,.int .i64 0,.int .i64 0,.int .i64 0,.int .i64 0] },
  none,
  none,
  none,
  none,
  some { k:=.slice 347,size:=1,bytes:=24,zero:=.slice none 0 0 },
  some { k:=.slice 140,size:=1,bytes:=24,zero:=.slice none 0 0 },
  some { k:=.arr 4 264,size:=4,bytes:=96,zero:=.agg #[.slice none 0 0,.slice none 0 0,.slice none 0 0,.slice none 0 0] },
  some { k:=.strct [(127,0,4),(98,4,32),(3,36,1),(3,37,1),(263,38,1),(265,39,4),(48,43,4),(3,47,1)],size:=48,bytes:=304,zero:=.agg #[.int .i64 0,.int .i64 0,.int .i64 0,.int .i64 0,.int .u8 0,.int .u8 0,.int .u8 0,.int .u8 0,.int .u8 0,.int .u8 0,.int .u8 0,.int .u8 0,.int .u8 0,.int .u8 0,.int .u8 0,.int .u8 0,.int .u8 0,.int .u8 0,.int .u8 0,.int .u8 0,.int .u8 0,.int .u8 0,.int .u8 0,.int .u8 0,.int .u8 0,.int .u8 0,.int .u8 0,.int .u8 0,.int .u8 0,.int .u8 0,.int .u8 0,.int .u8 0,.int .u8 0,.int .u8 0,.int .u8 0,.int .u8 0,.int .i64 0,.int .i64 0,.slice none 0 0,.slice none 0 0,.slice none 0 0,.slice none 0 0,.slice none 0 0,.slice none 0 0,.slice none 0 0,.slice none 0 0,.slice none 0 0,.int .i64 0] },
  some { k:=.strct [(127,0,4),(98,4,32),(3,36,1),(3,37,1),(263,38,1),(265,39,4),(48,43,4),(3,47,1)],size:=48,bytes:=304,zero:=.agg #[.int .i64 0,.int .i64 0,.int .i64 0,.int .i64 0,.int .u8 0,.int .u8 0,.int .u8 0,.int .u8 0,.int .u8 0,.int .u8 0,.int .u8 0,.int .u8 0,.int .u8 0,.int .u8 0,.int .u8 0,.int .u8 0,.int .u8 0,.int .u8 0,.int .u8 0,.int .u8 0,.int .u8 0,.int .u8 0,.int .u8 0,.int .u8 0,.int .u8 0,.int .u8 0,.int .u8 0,.int .u8 0,.int .u8 0,.int .u8 0,.int .u8 0,.int .u8 0,.int .u8 0,.int .u8 0,.int .u8 0,.int .u8 0,.int .i64 0,.int .i64 0,.slice none 0 0,.slice none 0 0,.slice none 0 0,.slice none 0 0,.slice none 0 0,.slice none 0 0,.slice none 0 0,.slice none 0 0,.slice none 0 0,.int .i64 0] },
  none,
  none,
  none,
  none,
  none,
  none,
  some { k:=.strct [(94,0,1),(3,1,1),(3,2,1),(3,3,1),(3,4,1),(157,5,1)],size:=6,bytes:=64,zero:=.agg #[.pointer none,.int .i64 0,.int .i64 0,.int .i64 0,.int .i64 0,.slice none 0 0] },
  some { k:=.strct [(94,0,1),(3,1,1),(3,2,1),(3,3,1),(3,4,1),(157,5,1)],size:=6,bytes:=64,zero:=.agg #[.pointer none,.int .i64 0,.int .i64 0,.int .i64 0,.int .i64 0,.slice none 0 0] },
  none,
  none,
  none,
  none,
  none,
  none,
  none,
  none,
  none,
  none,
  none,
  some { k:=.strct [(22,0,1),(24,1,1)],size:=2,bytes:=32,zero:=.agg #[.slice none 0 0,.int .i64 0] },
  some { k:=.ptr 287,size:=1,bytes:=8,zero:=.pointer none },
  none,
  none,
  none,
  none,
  some { k:=.strct [(3,0,1),(3,1,1),(22,2,1)],size:=3,bytes:=40,zero:=.agg #[.int .i64 0,.int .i64 0,.slice none 0 0] },
  none,
  none,
  some { k:=.fn,size:=1,bytes:=8,zero:=.nilFunc },
  some { k:=.fn,size:=1,bytes:=8,zero:=.nilFunc },
  none,
  none,
  none,
  none,
  none,
  none,
  none,
  none,
  none,
  some { k:=.ptr 203,size:=1,bytes:=8,zero:=.pointer none },
  none,
  some { k:=.strct [(54,0,8)],size:=8,bytes:=32,zero:=.agg #[.int .u32 0,.int .u32 0,.int .u32 0,.int .u32 0,.int .u32 0,.int .u32 0,.int .u32 0,.int .u32 0] },
  some { k:=.strct [(54,0,8)],size:=8,bytes:=32,zero:=.agg #[.int .u32 0,.int .u32 0,.int .u32 0,.int .u32 0,.int .u32 0,.int .u32 0,.int .u32 0,.int .u32 0] },
  some { k:=.strct [(310,0,8),(4,8,1),(22,9,1),(3,10,1)],size:=11,bytes:=72,zero:=.agg #[.int .u32 0,.int .u32 0,.int .u32 0,.int .u32 0,.int .u32 0,.int .u32 0,.int .u32 0,.int .u32 0,.bool false,.slice none 0 0,.int .i64 0] },
  some { k:=.strct [(310,0,8),(4,8,1),(22,9,1),(3,10,1)],size:=11,bytes:=72,zero:=.agg #[.int .u32 0,.int .u32 0,.int .u32 0,.int .u32 0,.int .u32 0,.int .u32 0,.int .u32 0,.int .u32 0,.bool false,.slice none 0 0,.int .i64 0] },
  some { k:=.ptr 312,size:=1,bytes:=8,zero:=.pointer none },
  none,
  some { k:=.int .u64,size:=1,bytes:=8,zero:=.int .u64 0 },
  none,
  none,
  none,
  none,
  none,
  none,
  none,
  some { k:=.strct [(118,0,2)],size:=2,bytes:=16,zero:=.agg #[.int .i64 0,.int .i64 0] },
  some { k:=.strct [(118,0,2)],size:=2,bytes:=16,zero:=.agg #[.int .i64 0,.int .i64 0] },
  some { k:=.strct [(3,0,1),(258,1,16)],size:=17,bytes:=136,zero:=.agg #[.int .i64 0,.int .i64 0,.int .i64 0,.int .i64 0,.int .i64 0,.int .i64 0,.int .i64 0,.int .i64 0,.int .i64 0,.int .i64 0,.int .i64 0,.int .i64 0,.int .i64 0,.int .i64 0,.int .i64 0,.int .i64 0,.int .i64 0] },
  some { k:=.strct [(3,0,1),(258,1,16)],size:=17,bytes:=136,zero:=.agg #[.int .i64 0,.int .i64 0,.int .i64 0,.int .i64 0,.int .i64 0,.int .i64 0,.int .i64 0,.int .i64 0,.int .i64 0,.int .i64 0,.int .i64 0,.int .i64 0,.int .i64 0,.int .i64 0,.int .i64 0,.int .i64 0,.int .i64 0] },
  none,
  some { k:=.strct [(3,0,1),(3,1,1),(3,2,1)],size:=3,bytes:=24,zero:=.agg #[.int .i64 0,.int .i64 0,.int .i64 0] },
  some { k:=.strct [(3,0,1),(3,1,1),(3,2,1)],size:=3,bytes:=24,zero:=.agg #[.int .i64 0,.int .i64 0,.int .i64 0] },
  some { k:=.arr 4 329,size:=12,bytes:=96,zero:=.agg #[.int .i64 0,.int .i64 0,.int .i64 0,.int .i64 0,.int .i64 0,.int .i64 0,.int .i64 0,.int .i64 0,.int .i64 0,.int .i64 0,.int .i64 0,.int .i64 0] },
  none,
  none,
  none,
  some { k:=.strct [(73,0,1)],size:=1,bytes:=8,zero:=.agg #[.pointer none] },
  some { k:=.strct [(73,0,1)],size:=1,bytes:=8,zero:=.agg #[.pointer none] },
  none,
  none,
  none,
  none,
  none,
  some { k:=.slice 24,size:=1,bytes:=24,zero:=.slice none 0 0 },
  none,
  none,
  none,
  none,
  some { k:=.strct [(127,0,4),(4,4,1),(3,5,1),(22,6,1),(264,7,1)],size:=8,bytes:=96,zero:=.agg #[.int .i64 0,.int .i64 0,.int .i64 0,.int .i64 0,.bool false,.int .i64 0,.slice none 0 0,.slice none 0 0] },
  some { k:=.strct [(127,0,4),(4,4,1),(3,5,1),(22,6,1),(264,7,1)],size:=8,bytes:=96,zero:=.agg #[.int .i64 0,.int .i64 0,.int .i64 0,.int .i64 0,.bool false,.int .i64 0,.slice none 0 0,.slice none 0 0] },
  none,
  none,
  none,
  none,
  none,
  none,
  none,
  none,
  none,
  none,
  none,
  none,
  none,
  none,
  none,
  none,
  none,
  none,
  some { k:=.int .i64,size:=1,bytes:=8,zero:=.int .i64 0 },
  none,
  none,
  none,
  none,
  none,
  none,
  none,
  none,
  some { k:=.fn,size:=1,bytes:=8,zero:=.nilFunc },
  none,
  none,
  none,
  none,
  none,
  none,
  none,
  none,
  none,
  none,
  none,
  none,
  none,
  none,
  some { k:=.slice 293,size:=1,bytes:=24,zero:=.slice none 0 0 },
  none,
  none,
  some { k:=.ptr 310,size:=1,bytes:=8,zero:=.pointer none },
  some { k:=.int .u64,size:=1,bytes:=8,zero:=.int .u64 0 },
  none,
  none,
  none,
  some { k:=.ptr 3,size:=1,bytes:=8,zero:=.pointer none },
  none,
  some { k:=.ptr 229,size:=1,bytes:=8,zero:=.pointer none },
  none,
  none,
  none,
  none,
  none,
  none,
  none,
  none,
  none,
  none,
  none,
  some { k:=.fn,size:=1,bytes:=8,zero:=.nilFunc },
  some { k:=.ptr 394,size:=1,bytes:=8,zero:=.pointer none },
  none,
  none,
  none,
  none,
  none,
  none,
  none,
  none,
  none,
  none,
  none,
  none,
  none,
  none,
  none,
  none,
  none,
  none,
  none,
  none,
  none,
  none,
  none,
  none,
  none,
  none,
  none,
  none,
  some { k:=.int .u8,size:=1,bytes:=1,zero:=.int .u8 0 },
  some { k:=.int .u8,size:=1,bytes:=1,zero:=.int .u8 0 },
  some { k:=.fn,size:=1,bytes:=8,zero:=.nilFunc },
  some { k:=.ptr 5,size:=1,bytes:=8,zero:=.pointer none },
  some { k:=.int .i32,size:=1,bytes:=4,zero:=.int .i32 0 },
  some { k:=.int .i32,size:=1,bytes:=4,zero:=.int .i32 0 },
  none,
  none,
  none,
  none,
  none]
set_option maxRecDepth 100000 in
theorem rowsGood:TGoods Tryz.prog 0 rowsTab :=
  ⟨⟨⟨_,_,_,Tryz.underlying1⟩,Tryz.sizeOf1,Tryz.zeroValue1,trivial,by kernel_rfl⟩,
   ⟨Tryz.underlying2,Tryz.sizeOf2,Tryz.zeroValue2,trivial,by kernel_rfl⟩,
   ⟨Tryz.underlying3,Tryz.sizeOf3,Tryz.zeroValue3,trivial,by kernel_rfl⟩,
   ⟨Tryz.underlying4,Tryz.sizeOf4,Tryz.zeroValue4,trivial,by kernel_rfl⟩,
   ⟨Tryz.underlying5,Tryz.sizeOf5,Tryz.zeroValue5,trivial,by kernel_rfl⟩,
   ⟨Tryz.underlying6,Tryz.sizeOf6,Tryz.zeroValue6,trivial,by kernel_rfl⟩,
   ⟨Tryz.underlying9,Tryz.sizeOf9,Tryz.zeroValue9,trivial,by kernel_rfl⟩,
   ⟨Tryz.underlying10,Tryz.sizeOf10,Tryz.zeroValue10,trivial,by kernel_rfl⟩,
   ⟨Tryz.underlying11,Tryz.sizeOf11,Tryz.zeroValue11,trivial,by kernel_rfl⟩,
   ⟨Tryz.underlying12,Tryz.sizeOf12,Tryz.zeroValue12,trivial,by kernel_rfl⟩,
   ⟨Tryz.underlying15,Tryz.sizeOf15,Tryz.zeroValue15,trivial,by kernel_rfl⟩,
   ⟨Tryz.underlying16,Tryz.sizeOf16,Tryz.zeroValue16,trivial,by kernel_rfl⟩,
   ⟨Tryz.underlying17,Tryz.sizeOf17,Tryz.zeroValue17,trivial,by kernel_rfl⟩,
   ⟨Tryz.underlying21,Tryz.sizeOf21,Tryz.zeroValue21,trivial,by kernel_rfl⟩,
   ⟨Tryz.underlying22,Tryz.sizeOf22,Tryz.zeroValue22,trivial,by kernel_rfl⟩,
   ⟨Tryz.underlying23,Tryz.sizeOf23,Tryz.zeroValue23,trivial,by kernel_rfl⟩,
   ⟨Tryz.underlying24,Tryz.sizeOf24,Tryz.zeroValue24,trivial,by kernel_rfl⟩,
   ⟨⟨_,_,_,Tryz.underlying26⟩,Tryz.sizeOf26,Tryz.zeroValue26,trivial,by kernel_rfl⟩,
   ⟨Tryz.underlying27,Tryz.sizeOf27,Tryz.zeroValue27,trivial,by kernel_rfl⟩,
   ⟨⟨_,_,_,Tryz.underlying29⟩,Tryz.sizeOf29,Tryz.zeroValue29,trivial,by kernel_rfl⟩,
   ⟨⟨_,_,_,Tryz.underlying31⟩,Tryz.sizeOf31,Tryz.zeroValue31,trivial,by kernel_rfl⟩,
   ⟨⟨_,_,_,Tryz.underlying32⟩,Tryz.sizeOf32,Tryz.zeroValue32,trivial,by kernel_rfl⟩,
   ⟨Tryz.underlying35,Tryz.sizeOf35,Tryz.zeroValue35,trivial,by kernel_rfl⟩,
   ⟨Tryz.underlying39,Tryz.sizeOf39,Tryz.zeroValue39,trivial,by kernel_rfl⟩,
   ⟨Tryz.underlying40,Tryz.sizeOf40,Tryz.zeroValue40,trivial,by kernel_rfl⟩,
   ⟨Tryz.underlying41,Tryz.sizeOf41,Tryz.zeroValue41,trivial,by kernel_rfl⟩,
   ⟨Tryz.underlying42,Tryz.sizeOf42,Tryz.zeroValue42,trivial,by kernel_rfl⟩,
   ⟨Tryz.underlying46,Tryz.sizeOf46,Tryz.zeroValue46,trivial,by kernel_rfl⟩,
   ⟨⟨_,Tryz.underlying47,rfl,rfl,Tryz.sizeOf40,rfl,trivial⟩,Tryz.sizeOf47,Tryz.zeroValue47,(by show Tryz.prog.stoodInHeld 47=false;kernel_rfl),by kernel_rfl⟩,
   ⟨⟨_,Tryz.underlying48,rfl,rfl,Tryz.sizeOf40,rfl,trivial⟩,Tryz.sizeOf48,Tryz.zeroValue48,(by show Tryz.prog.stoodInHeld 48=false;kernel_rfl),by kernel_rfl⟩,
   ⟨Tryz.underlying49,Tryz.sizeOf49,Tryz.zeroValue49,trivial,by kernel_rfl⟩,
   ⟨⟨_,Tryz.underlying50,rfl,rfl,Tryz.sizeOf48,rfl,rfl,rfl,Tryz.sizeOf49,rfl,rfl,rfl,Tryz.sizeOf3,rfl,rfl,rfl,Tryz.sizeOf4,rfl,trivial⟩,Tryz.sizeOf50,Tryz.zeroValue50,(by show Tryz.prog.stoodInHeld 50=false;kernel_rfl),by kernel_rfl⟩,
   ⟨⟨_,Tryz.underlying51,rfl,rfl,Tryz.sizeOf48,rfl,rfl,rfl,Tryz.sizeOf49,rfl,rfl,rfl,Tryz.sizeOf3,rfl,rfl,rfl,Tryz.sizeOf4,rfl,trivial⟩,Tryz.sizeOf51,Tryz.zeroValue51,(by show Tryz.prog.stoodInHeld 51=false;kernel_rfl),by kernel_rfl⟩,
   ⟨Tryz.underlying52,Tryz.sizeOf52,Tryz.zeroValue52,trivial,by kernel_rfl⟩,
   ⟨Tryz.underlying53,Tryz.sizeOf53,Tryz.zeroValue53,trivial,by kernel_rfl⟩,
   ⟨Tryz.underlying54,Tryz.sizeOf54,Tryz.zeroValue54,trivial,by kernel_rfl⟩,
   ⟨⟨_,Tryz.underlying55,rfl,rfl,Tryz.sizeOf53,rfl,rfl,rfl,Tryz.sizeOf54,rfl,trivial⟩,Tryz.sizeOf55,Tryz.zeroValue55,(by show Tryz.prog.stoodInHeld 55=false;kernel_rfl),by kernel_rfl⟩,
   ⟨⟨_,Tryz.underlying56,rfl,rfl,Tryz.sizeOf53,rfl,rfl,rfl,Tryz.sizeOf54,rfl,trivial⟩,Tryz.sizeOf56,Tryz.zeroValue56,(by show Tryz.prog.stoodInHeld 56=false;kernel_rfl),by kernel_rfl⟩,
   ⟨Tryz.underlying58,Tryz.sizeOf58,Tryz.zeroValue58,trivial,by kernel_rfl⟩,
   ⟨⟨_,Tryz.underlying59,rfl,rfl,Tryz.sizeOf3,rfl,rfl,rfl,Tryz.sizeOf3,rfl,rfl,rfl,Tryz.sizeOf3,rfl,rfl,rfl,Tryz.sizeOf3,rfl,rfl,rfl,Tryz.sizeOf27,rfl,rfl,rfl,Tryz.sizeOf22,rfl,trivial⟩,Tryz.sizeOf59,Tryz.zeroValue59,(by show Tryz.prog.stoodInHeld 59=false;kernel_rfl),by kernel_rfl⟩,
   ⟨⟨_,Tryz.underlying60,rfl,rfl,Tryz.sizeOf3,rfl,rfl,rfl,Tryz.sizeOf3,rfl,rfl,rfl,Tryz.sizeOf3,rfl,rfl,rfl,Tryz.sizeOf3,rfl,rfl,rfl,Tryz.sizeOf27,rfl,rfl,rfl,Tryz.sizeOf22,rfl,trivial⟩,Tryz.sizeOf60,Tryz.zeroValue60,(by show Tryz.prog.stoodInHeld 60=false;kernel_rfl),by kernel_rfl⟩,
   ⟨Tryz.underlying67,Tryz.sizeOf67,Tryz.zeroValue67,trivial,by kernel_rfl⟩,
   ⟨Tryz.underlying68,Tryz.sizeOf68,Tryz.zeroValue68,trivial,by kernel_rfl⟩,
   ⟨⟨_,Tryz.underlying69,rfl,rfl,Tryz.sizeOf68,rfl,rfl,rfl,Tryz.sizeOf27,rfl,trivial⟩,Tryz.sizeOf69,Tryz.zeroValue69,(by show Tryz.prog.stoodInHeld 69=false;kernel_rfl),by kernel_rfl⟩,
   ⟨Tryz.underlying73,Tryz.sizeOf73,Tryz.zeroValue73,trivial,by kernel_rfl⟩,
   ⟨⟨_,Tryz.underlying75,rfl,rfl,Tryz.sizeOf68,rfl,rfl,rfl,Tryz.sizeOf40,rfl,trivial⟩,Tryz.sizeOf75,Tryz.zeroValue75,(by show Tryz.prog.stoodInHeld 75=false;kernel_rfl),by kernel_rfl⟩,
   ⟨⟨_,Tryz.underlying76,rfl,rfl,Tryz.sizeOf68,rfl,rfl,rfl,Tryz.sizeOf40,rfl,trivial⟩,Tryz.sizeOf76,Tryz.zeroValue76,(by show Tryz.prog.stoodInHeld 76=false;kernel_rfl),by kernel_rfl⟩,
   ⟨Tryz.underlying86,Tryz.sizeOf86,Tryz.zeroValue86,trivial,by kernel_rfl⟩,
   ⟨Tryz.underlying87,Tryz.sizeOf87,Tryz.zeroValue87,trivial,by kernel_rfl⟩,
   ⟨⟨_,_,_,Tryz.underlying89⟩,Tryz.sizeOf89,Tryz.zeroValue89,trivial,by kernel_rfl⟩,
   ⟨Tryz.underlying91,Tryz.sizeOf91,Tryz.zeroValue91,trivial,by kernel_rfl⟩,
   ⟨Tryz.underlying92,Tryz.sizeOf92,Tryz.zeroValue92,trivial,by kernel_rfl⟩,
   ⟨Tryz.underlying94,Tryz.sizeOf94,Tryz.zeroValue94,trivial,by kernel_rfl⟩,
   ⟨Tryz.underlying95,Tryz.sizeOf95,Tryz.zeroValue95,trivial,by kernel_rfl⟩,
   ⟨⟨_,Tryz.underlying96,rfl,rfl,Tryz.sizeOf3,rfl,rfl,rfl,Tryz.sizeOf3,rfl,rfl,rfl,Tryz.sizeOf3,rfl,rfl,rfl,Tryz.sizeOf3,rfl,trivial⟩,Tryz.sizeOf96,Tryz.zeroValue96,(by show Tryz.prog.stoodInHeld 96=false;kernel_rfl),by kernel_rfl⟩,
   ⟨⟨_,Tryz.underlying97,rfl,rfl,Tryz.sizeOf3,rfl,rfl,rfl,Tryz.sizeOf3,rfl,rfl,rfl,Tryz.sizeOf3,rfl,rfl,rfl,Tryz.sizeOf3,rfl,trivial⟩,Tryz.sizeOf97,Tryz.zeroValue97,(by show Tryz.prog.stoodInHeld 97=false;kernel_rfl),by kernel_rfl⟩,
   ⟨Tryz.underlying98,Tryz.sizeOf98,Tryz.zeroValue98,trivial,by kernel_rfl⟩,
   ⟨⟨_,Tryz.underlying99,rfl,rfl,Tryz.sizeOf97,rfl,rfl,rfl,Tryz.sizeOf98,rfl,trivial⟩,Tryz.sizeOf99,Tryz.zeroValue99,(by show Tryz.prog.stoodInHeld 99=false;kernel_rfl),by kernel_rfl⟩,
   ⟨⟨_,Tryz.underlying100,rfl,rfl,Tryz.sizeOf97,rfl,rfl,rfl,Tryz.sizeOf98,rfl,trivial⟩,Tryz.sizeOf100,Tryz.zeroValue100,(by show Tryz.prog.stoodInHeld 100=false;kernel_rfl),by kernel_rfl⟩,
   ⟨Tryz.underlying105,Tryz.sizeOf105,Tryz.zeroValue105,trivial,by kernel_rfl⟩,
   ⟨Tryz.underlying110,Tryz.sizeOf110,Tryz.zeroValue110,trivial,by kernel_rfl⟩,
   ⟨⟨_,Tryz.underlying115,rfl,rfl,Tryz.sizeOf3,rfl,rfl,rfl,Tryz.sizeOf3,rfl,rfl,rfl,Tryz.sizeOf22,rfl,trivial⟩,Tryz.sizeOf115,Tryz.zeroValue115,(by show Tryz.prog.stoodInHeld 115=false;kernel_rfl),by kernel_rfl⟩,
   ⟨⟨_,Tryz.underlying116,rfl,rfl,Tryz.sizeOf3,rfl,rfl,rfl,Tryz.sizeOf3,rfl,rfl,rfl,Tryz.sizeOf22,rfl,trivial⟩,Tryz.sizeOf116,Tryz.zeroValue116,(by show Tryz.prog.stoodInHeld 116=false;kernel_rfl),by kernel_rfl⟩,
   ⟨⟨_,Tryz.underlying117,rfl,rfl,Tryz.sizeOf3,rfl,rfl,rfl,Tryz.sizeOf3,rfl,trivial⟩,Tryz.sizeOf117,Tryz.zeroValue117,(by show Tryz.prog.stoodInHeld 117=false;kernel_rfl),by kernel_rfl⟩,
   ⟨⟨_,Tryz.underlying118,rfl,rfl,Tryz.sizeOf3,rfl,rfl,rfl,Tryz.sizeOf3,rfl,trivial⟩,Tryz.sizeOf118,Tryz.zeroValue118,(by show Tryz.prog.stoodInHeld 118=false;kernel_rfl),by kernel_rfl⟩,
   ⟨⟨_,Tryz.underlying119,rfl,rfl,Tryz.sizeOf3,rfl,rfl,rfl,Tryz.sizeOf97,rfl,rfl,rfl,Tryz.sizeOf3,rfl,rfl,rfl,Tryz.sizeOf118,rfl,rfl,rfl,Tryz.sizeOf22,rfl,rfl,rfl,Tryz.sizeOf98,rfl,trivial⟩,Tryz.sizeOf119,Tryz.zeroValue119,(by show Tryz.prog.stoodInHeld 119=false;kernel_rfl),by kernel_rfl⟩,
   ⟨⟨_,Tryz.underlying120,rfl,rfl,Tryz.sizeOf3,rfl,rfl,rfl,Tryz.sizeOf97,rfl,rfl,rfl,Tryz.sizeOf3,rfl,rfl,rfl,Tryz.sizeOf118,rfl,rfl,rfl,Tryz.sizeOf22,rfl,rfl,rfl,Tryz.sizeOf98,rfl,trivial⟩,Tryz.sizeOf120,Tryz.zeroValue120,(by show Tryz.prog.stoodInHeld 120=false;kernel_rfl),by kernel_rfl⟩,
   ⟨Tryz.underlying123,Tryz.sizeOf123,Tryz.zeroValue123,trivial,by kernel_rfl⟩,
   ⟨⟨_,Tryz.underlying127,rfl,rfl,Tryz.sizeOf3,rfl,rfl,rfl,Tryz.sizeOf3,rfl,rfl,rfl,Tryz.sizeOf3,rfl,rfl,rfl,Tryz.sizeOf3,rfl,trivial⟩,Tryz.sizeOf127,Tryz.zeroValue127,(by show Tryz.prog.stoodInHeld 127=false;kernel_rfl),by kernel_rfl⟩,
   ⟨Tryz.underlying129,Tryz.sizeOf129,Tryz.zeroValue129,trivial,by kernel_rfl⟩,
   ⟨Tryz.underlying132,Tryz.sizeOf132,Tryz.zeroValue132,trivial,by kernel_rfl⟩,
   ⟨Tryz.underlying137,Tryz.sizeOf137,Tryz.zeroValue137,trivial,by kernel_rfl⟩,
   ⟨⟨_,Tryz.underlying138,rfl,rfl,Tryz.sizeOf129,rfl,rfl,rfl,Tryz.sizeOf3,rfl,rfl,rfl,Tryz.sizeOf3,rfl,rfl,rfl,Tryz.sizeOf3,rfl,rfl,rfl,Tryz.sizeOf3,rfl,rfl,rfl,Tryz.sizeOf137,rfl,trivial⟩,Tryz.sizeOf138,Tryz.zeroValue138,(by show Tryz.prog.stoodInHeld 138=false;kernel_rfl),by kernel_rfl⟩,
   ⟨⟨_,Tryz.underlying140,rfl,rfl,Tryz.sizeOf3,rfl,rfl,rfl,Tryz.sizeOf3,rfl,trivial⟩,Tryz.sizeOf140,Tryz.zeroValue140,(by show Tryz.prog.stoodInHeld 140=false;kernel_rfl),by kernel_rfl⟩,
   ⟨⟨_,Tryz.underlying141,rfl,rfl,Tryz.sizeOf3,rfl,rfl,rfl,Tryz.sizeOf127,rfl,rfl,rfl,Tryz.sizeOf3,rfl,rfl,rfl,Tryz.sizeOf140,rfl,rfl,rfl,Tryz.sizeOf22,rfl,rfl,rfl,Tryz.sizeOf98,rfl,trivial⟩,Tryz.sizeOf141,Tryz.zeroValue141,(by show Tryz.prog.stoodInHeld 141=false;kernel_rfl),by kernel_rfl⟩,
   ⟨⟨_,Tryz.underlying142,rfl,rfl,Tryz.sizeOf3,rfl,rfl,rfl,Tryz.sizeOf127,rfl,rfl,rfl,Tryz.sizeOf3,rfl,rfl,rfl,Tryz.sizeOf140,rfl,rfl,rfl,Tryz.sizeOf22,rfl,rfl,rfl,Tryz.sizeOf98,rfl,trivial⟩,Tryz.sizeOf142,Tryz.zeroValue142,(by show Tryz.prog.stoodInHeld 142=false;kernel_rfl),by kernel_rfl⟩,
   ⟨⟨_,Tryz.underlying143,rfl,rfl,Tryz.sizeOf3,rfl,rfl,rfl,Tryz.sizeOf3,rfl,rfl,rfl,Tryz.sizeOf3,rfl,rfl,rfl,Tryz.sizeOf142,rfl,trivial⟩,Tryz.sizeOf143,Tryz.zeroValue143,(by show Tryz.prog.stoodInHeld 143=false;kernel_rfl),by kernel_rfl⟩,
   ⟨Tryz.underlying157,Tryz.sizeOf157,Tryz.zeroValue157,trivial,by kernel_rfl⟩,
   ⟨Tryz.underlying161,Tryz.sizeOf161,Tryz.zeroValue161,trivial,by kernel_rfl⟩,
   ⟨⟨_,Tryz.underlying163,rfl,rfl,Tryz.sizeOf3,rfl,rfl,rfl,Tryz.sizeOf3,rfl,rfl,rfl,Tryz.sizeOf27,rfl,trivial⟩,Tryz.sizeOf163,Tryz.zeroValue163,(by show Tryz.prog.stoodInHeld 163=false;kernel_rfl),by kernel_rfl⟩,
   ⟨⟨_,Tryz.underlying164,rfl,rfl,Tryz.sizeOf3,rfl,rfl,rfl,Tryz.sizeOf3,rfl,rfl,rfl,Tryz.sizeOf27,rfl,trivial⟩,Tryz.sizeOf164,Tryz.zeroValue164,(by show Tryz.prog.stoodInHeld 164=false;kernel_rfl),by kernel_rfl⟩,
   ⟨⟨_,Tryz.underlying165,rfl,rfl,Tryz.sizeOf35,rfl,rfl,rfl,Tryz.sizeOf161,rfl,rfl,rfl,Tryz.sizeOf3,rfl,rfl,rfl,Tryz.sizeOf4,rfl,trivial⟩,Tryz.sizeOf165,Tryz.zeroValue165,(by show Tryz.prog.stoodInHeld 165=false;kernel_rfl),by kernel_rfl⟩,
   ⟨⟨_,Tryz.underlying166,rfl,rfl,Tryz.sizeOf35,rfl,rfl,rfl,Tryz.sizeOf161,rfl,rfl,rfl,Tryz.sizeOf3,rfl,rfl,rfl,Tryz.sizeOf4,rfl,trivial⟩,Tryz.sizeOf166,Tryz.zeroValue166,(by show Tryz.prog.stoodInHeld 166=false;kernel_rfl),by kernel_rfl⟩,
   ⟨⟨_,Tryz.underlying183,rfl,rfl,Tryz.sizeOf3,rfl,rfl,rfl,Tryz.sizeOf3,rfl,rfl,rfl,Tryz.sizeOf27,rfl,trivial⟩,Tryz.sizeOf183,Tryz.zeroValue183,(by show Tryz.prog.stoodInHeld 183=false;kernel_rfl),by kernel_rfl⟩,
   ⟨⟨_,Tryz.underlying184,rfl,rfl,Tryz.sizeOf3,rfl,rfl,rfl,Tryz.sizeOf3,rfl,rfl,rfl,Tryz.sizeOf27,rfl,trivial⟩,Tryz.sizeOf184,Tryz.zeroValue184,(by show Tryz.prog.stoodInHeld 184=false;kernel_rfl),by kernel_rfl⟩,
   ⟨⟨_,Tryz.underlying186,rfl,rfl,Tryz.sizeOf3,rfl,rfl,rfl,Tryz.sizeOf3,rfl,rfl,rfl,Tryz.sizeOf22,rfl,trivial⟩,Tryz.sizeOf186,Tryz.zeroValue186,(by show Tryz.prog.stoodInHeld 186=false;kernel_rfl),by kernel_rfl⟩,
   ⟨⟨_,Tryz.underlying190,rfl,rfl,Tryz.sizeOf40,rfl,trivial⟩,Tryz.sizeOf190,Tryz.zeroValue190,(by show Tryz.prog.stoodInHeld 190=false;kernel_rfl),by kernel_rfl⟩,
   ⟨⟨_,Tryz.underlying191,rfl,rfl,Tryz.sizeOf40,rfl,trivial⟩,Tryz.sizeOf191,Tryz.zeroValue191,(by show Tryz.prog.stoodInHeld 191=false;kernel_rfl),by kernel_rfl⟩,
   ⟨⟨_,Tryz.underlying202,rfl,rfl,Tryz.sizeOf22,rfl,rfl,rfl,Tryz.sizeOf24,rfl,trivial⟩,Tryz.sizeOf202,Tryz.zeroValue202,(by show Tryz.prog.stoodInHeld 202=false;kernel_rfl),by kernel_rfl⟩,
   ⟨⟨_,Tryz.underlying203,rfl,rfl,Tryz.sizeOf22,rfl,rfl,rfl,Tryz.sizeOf24,rfl,trivial⟩,Tryz.sizeOf203,Tryz.zeroValue203,(by show Tryz.prog.stoodInHeld 203=false;kernel_rfl),by kernel_rfl⟩,
   ⟨⟨_,Tryz.underlying204,rfl,rfl,Tryz.sizeOf203,rfl,trivial⟩,Tryz.sizeOf204,Tryz.zeroValue204,(by show Tryz.prog.stoodInHeld 204=false;kernel_rfl),by kernel_rfl⟩,
   ⟨⟨_,Tryz.underlying205,rfl,rfl,Tryz.sizeOf203,rfl,trivial⟩,Tryz.sizeOf205,Tryz.zeroValue205,(by show Tryz.prog.stoodInHeld 205=false;kernel_rfl),by kernel_rfl⟩,
   ⟨Tryz.underlying215,Tryz.sizeOf215,Tryz.zeroValue215,trivial,by kernel_rfl⟩,
   ⟨⟨_,Tryz.underlying216,rfl,rfl,Tryz.sizeOf215,rfl,trivial⟩,Tryz.sizeOf216,Tryz.zeroValue216,(by show Tryz.prog.stoodInHeld 216=false;kernel_rfl),by kernel_rfl⟩,
   ⟨⟨_,Tryz.underlying217,rfl,rfl,Tryz.sizeOf215,rfl,trivial⟩,Tryz.sizeOf217,Tryz.zeroValue217,(by show Tryz.prog.stoodInHeld 217=false;kernel_rfl),by kernel_rfl⟩,
   ⟨Tryz.underlying223,Tryz.sizeOf223,Tryz.zeroValue223,trivial,by kernel_rfl⟩,
   ⟨⟨_,Tryz.underlying228,rfl,rfl,Tryz.sizeOf118,rfl,rfl,rfl,Tryz.sizeOf58,rfl,trivial⟩,Tryz.sizeOf228,Tryz.zeroValue228,(by show Tryz.prog.stoodInHeld 228=false;kernel_rfl),by kernel_rfl⟩,
   ⟨⟨_,Tryz.underlying229,rfl,rfl,Tryz.sizeOf118,rfl,rfl,rfl,Tryz.sizeOf58,rfl,trivial⟩,Tryz.sizeOf229,Tryz.zeroValue229,(by show Tryz.prog.stoodInHeld 229=false;kernel_rfl),by kernel_rfl⟩,
   ⟨Tryz.underlying230,Tryz.sizeOf230,Tryz.zeroValue230,trivial,by kernel_rfl⟩,
   ⟨⟨_,Tryz.underlying231,rfl,rfl,Tryz.sizeOf223,rfl,rfl,rfl,Tryz.sizeOf105,rfl,rfl,rfl,Tryz.sizeOf110,rfl,rfl,rfl,Tryz.sizeOf123,rfl,rfl,rfl,Tryz.sizeOf230,rfl,trivial⟩,Tryz.sizeOf231,Tryz.zeroValue231,(by show Tryz.prog.stoodInHeld 231=false;kernel_rfl),by kernel_rfl⟩,
   ⟨⟨_,Tryz.underlying232,rfl,rfl,Tryz.sizeOf223,rfl,rfl,rfl,Tryz.sizeOf105,rfl,rfl,rfl,Tryz.sizeOf110,rfl,rfl,rfl,Tryz.sizeOf123,rfl,rfl,rfl,Tryz.sizeOf230,rfl,trivial⟩,Tryz.sizeOf232,Tryz.zeroValue232,(by show Tryz.prog.stoodInHeld 232=false;kernel_rfl),by kernel_rfl⟩,
   ⟨Tryz.underlying233,Tryz.sizeOf233,Tryz.zeroValue233,trivial,by kernel_rfl⟩,
   ⟨Tryz.underlying234,Tryz.sizeOf234,Tryz.zeroValue234,trivial,by kernel_rfl⟩,
   ⟨⟨_,Tryz.underlying235,rfl,rfl,Tryz.sizeOf100,rfl,rfl,rfl,Tryz.sizeOf233,rfl,rfl,rfl,Tryz.sizeOf234,rfl,trivial⟩,Tryz.sizeOf235,Tryz.zeroValue235,(by show Tryz.prog.stoodInHeld 235=false;kernel_rfl),by kernel_rfl⟩,
   ⟨⟨_,Tryz.underlying236,rfl,rfl,Tryz.sizeOf100,rfl,rfl,rfl,Tryz.sizeOf233,rfl,rfl,rfl,Tryz.sizeOf234,rfl,trivial⟩,Tryz.sizeOf236,Tryz.zeroValue236,(by show Tryz.prog.stoodInHeld 236=false;kernel_rfl),by kernel_rfl⟩,
   ⟨Tryz.underlying240,Tryz.sizeOf240,Tryz.zeroValue240,trivial,by kernel_rfl⟩,
   ⟨Tryz.underlying241,Tryz.sizeOf241,Tryz.zeroValue241,trivial,by kernel_rfl⟩,
   ⟨⟨_,Tryz.underlying242,rfl,rfl,Tryz.sizeOf241,rfl,trivial⟩,Tryz.sizeOf242,Tryz.zeroValue242,(by show Tryz.prog.stoodInHeld 242=false;kernel_rfl),by kernel_rfl⟩,
   ⟨⟨_,Tryz.underlying243,rfl,rfl,Tryz.sizeOf241,rfl,trivial⟩,Tryz.sizeOf243,Tryz.zeroValue243,(by show Tryz.prog.stoodInHeld 243=false;kernel_rfl),by kernel_rfl⟩,
   ⟨⟨_,Tryz.underlying244,rfl,rfl,Tryz.sizeOf229,rfl,rfl,rfl,Tryz.sizeOf92,rfl,rfl,rfl,Tryz.sizeOf3,rfl,trivial⟩,Tryz.sizeOf244,Tryz.zeroValue244,(by show Tryz.prog.stoodInHeld 244=false;kernel_rfl),by kernel_rfl⟩,
   ⟨⟨_,Tryz.underlying245,rfl,rfl,Tryz.sizeOf229,rfl,rfl,rfl,Tryz.sizeOf92,rfl,rfl,rfl,Tryz.sizeOf3,rfl,trivial⟩,Tryz.sizeOf245,Tryz.zeroValue245,(by show Tryz.prog.stoodInHeld 245=false;kernel_rfl),by kernel_rfl⟩,
   ⟨⟨_,_,_,Tryz.underlying253⟩,Tryz.sizeOf253,Tryz.zeroValue253,trivial,by kernel_rfl⟩,
   ⟨Tryz.underlying254,Tryz.sizeOf254,Tryz.zeroValue254,trivial,by kernel_rfl⟩,
   ⟨Tryz.underlying258,Tryz.sizeOf258,Tryz.zeroValue258,trivial,by kernel_rfl⟩,
   ⟨Tryz.underlying263,Tryz.sizeOf263,Tryz.zeroValue263,trivial,by kernel_rfl⟩,
   ⟨Tryz.underlying264,Tryz.sizeOf264,Tryz.zeroValue264,trivial,by kernel_rfl⟩,
   ⟨Tryz.underlying265,Tryz.sizeOf265,Tryz.zeroValue265,trivial,by kernel_rfl⟩,
   ⟨⟨_,Tryz.underlying266,rfl,rfl,Tryz.sizeOf127,rfl,rfl,rfl,Tryz.sizeOf98,rfl,rfl,rfl,Tryz.sizeOf3,rfl,rfl,rfl,Tryz.sizeOf3,rfl,rfl,rfl,Tryz.sizeOf263,rfl,rfl,rfl,Tryz.sizeOf265,rfl,rfl,rfl,Tryz.sizeOf48,rfl,rfl,rfl,Tryz.sizeOf3,rfl,trivial⟩,Tryz.sizeOf266,Tryz.zeroValue266,(by show Tryz.prog.stoodInHeld 266=false;kernel_rfl),by kernel_rfl⟩,
   ⟨⟨_,Tryz.underlying267,rfl,rfl,Tryz.sizeOf127,rfl,rfl,rfl,Tryz.sizeOf98,rfl,rfl,rfl,Tryz.sizeOf3,rfl,rfl,rfl,Tryz.sizeOf3,rfl,rfl,rfl,Tryz.sizeOf263,rfl,rfl,rfl,Tryz.sizeOf265,rfl,rfl,rfl,Tryz.sizeOf48,rfl,rfl,rfl,Tryz.sizeOf3,rfl,trivial⟩,Tryz.sizeOf267,Tryz.zeroValue267,(by show Tryz.prog.stoodInHeld 267=false;kernel_rfl),by kernel_rfl⟩,
   ⟨⟨_,Tryz.underlying274,rfl,rfl,Tryz.sizeOf94,rfl,rfl,rfl,Tryz.sizeOf3,rfl,rfl,rfl,Tryz.sizeOf3,rfl,rfl,rfl,Tryz.sizeOf3,rfl,rfl,rfl,Tryz.sizeOf3,rfl,rfl,rfl,Tryz.sizeOf157,rfl,trivial⟩,Tryz.sizeOf274,Tryz.zeroValue274,(by show Tryz.prog.stoodInHeld 274=false;kernel_rfl),by kernel_rfl⟩,
   ⟨⟨_,Tryz.underlying275,rfl,rfl,Tryz.sizeOf94,rfl,rfl,rfl,Tryz.sizeOf3,rfl,rfl,rfl,Tryz.sizeOf3,rfl,rfl,rfl,Tryz.sizeOf3,rfl,rfl,rfl,Tryz.sizeOf3,rfl,rfl,rfl,Tryz.sizeOf157,rfl,trivial⟩,Tryz.sizeOf275,Tryz.zeroValue275,(by show Tryz.prog.stoodInHeld 275=false;kernel_rfl),by kernel_rfl⟩,
   ⟨⟨_,Tryz.underlying287,rfl,rfl,Tryz.sizeOf22,rfl,rfl,rfl,Tryz.sizeOf24,rfl,trivial⟩,Tryz.sizeOf287,Tryz.zeroValue287,(by show Tryz.prog.stoodInHeld 287=false;kernel_rfl),by kernel_rfl⟩,
   ⟨Tryz.underlying288,Tryz.sizeOf288,Tryz.zeroValue288,trivial,by kernel_rfl⟩,
   ⟨⟨_,Tryz.underlying293,rfl,rfl,Tryz.sizeOf3,rfl,rfl,rfl,Tryz.sizeOf3,rfl,rfl,rfl,Tryz.sizeOf22,rfl,trivial⟩,Tryz.sizeOf293,Tryz.zeroValue293,(by show Tryz.prog.stoodInHeld 293=false;kernel_rfl),by kernel_rfl⟩,
   ⟨⟨_,_,_,Tryz.underlying296⟩,Tryz.sizeOf296,Tryz.zeroValue296,trivial,by kernel_rfl⟩,
   ⟨⟨_,_,_,Tryz.underlying297⟩,Tryz.sizeOf297,Tryz.zeroValue297,trivial,by kernel_rfl⟩,
   ⟨Tryz.underlying307,Tryz.sizeOf307,Tryz.zeroValue307,trivial,by kernel_rfl⟩,
   ⟨⟨_,Tryz.underlying309,rfl,rfl,Tryz.sizeOf54,rfl,trivial⟩,Tryz.sizeOf309,Tryz.zeroValue309,(by show Tryz.prog.stoodInHeld 309=false;kernel_rfl),by kernel_rfl⟩,
   ⟨⟨_,Tryz.underlying310,rfl,rfl,Tryz.sizeOf54,rfl,trivial⟩,Tryz.sizeOf310,Tryz.zeroValue310,(by show Tryz.prog.stoodInHeld 310=false;kernel_rfl),by kernel_rfl⟩,
   ⟨⟨_,Tryz.underlying311,rfl,rfl,Tryz.sizeOf310,rfl,rfl,rfl,Tryz.sizeOf4,rfl,rfl,rfl,Tryz.sizeOf22,rfl,rfl,rfl,Tryz.sizeOf3,rfl,trivial⟩,Tryz.sizeOf311,Tryz.zeroValue311,(by show Tryz.prog.stoodInHeld 311=false;kernel_rfl),by kernel_rfl⟩,
   ⟨⟨_,Tryz.underlying312,rfl,rfl,Tryz.sizeOf310,rfl,rfl,rfl,Tryz.sizeOf4,rfl,rfl,rfl,Tryz.sizeOf22,rfl,rfl,rfl,Tryz.sizeOf3,rfl,trivial⟩,Tryz.sizeOf312,Tryz.zeroValue312,(by show Tryz.prog.stoodInHeld 312=false;kernel_rfl),by kernel_rfl⟩,
   ⟨Tryz.underlying313,Tryz.sizeOf313,Tryz.zeroValue313,trivial,by kernel_rfl⟩,
   ⟨Tryz.underlying315,Tryz.sizeOf315,Tryz.zeroValue315,trivial,by kernel_rfl⟩,
   ⟨⟨_,Tryz.underlying323,rfl,rfl,Tryz.sizeOf118,rfl,trivial⟩,Tryz.sizeOf323,Tryz.zeroValue323,(by show Tryz.prog.stoodInHeld 323=false;kernel_rfl),by kernel_rfl⟩,
   ⟨⟨_,Tryz.underlying324,rfl,rfl,Tryz.sizeOf118,rfl,trivial⟩,Tryz.sizeOf324,Tryz.zeroValue324,(by show Tryz.prog.stoodInHeld 324=false;kernel_rfl),by kernel_rfl⟩,
   ⟨⟨_,Tryz.underlying325,rfl,rfl,Tryz.sizeOf3,rfl,rfl,rfl,Tryz.sizeOf258,rfl,trivial⟩,Tryz.sizeOf325,Tryz.zeroValue325,(by show Tryz.prog.stoodInHeld 325=false;kernel_rfl),by kernel_rfl⟩,
   ⟨⟨_,Tryz.underlying326,rfl,rfl,Tryz.sizeOf3,rfl,rfl,rfl,Tryz.sizeOf258,rfl,trivial⟩,Tryz.sizeOf326,Tryz.zeroValue326,(by show Tryz.prog.stoodInHeld 326=false;kernel_rfl),by kernel_rfl⟩,
   ⟨⟨_,Tryz.underlying328,rfl,rfl,Tryz.sizeOf3,rfl,rfl,rfl,Tryz.sizeOf3,rfl,rfl,rfl,Tryz.sizeOf3,rfl,trivial⟩,Tryz.sizeOf328,Tryz.zeroValue328,(by show Tryz.prog.stoodInHeld 328=false;kernel_rfl),by kernel_rfl⟩,
   ⟨⟨_,Tryz.underlying329,rfl,rfl,Tryz.sizeOf3,rfl,rfl,rfl,Tryz.sizeOf3,rfl,rfl,rfl,Tryz.sizeOf3,rfl,trivial⟩,Tryz.sizeOf329,Tryz.zeroValue329,(by show Tryz.prog.stoodInHeld 329=false;kernel_rfl),by kernel_rfl⟩,
   ⟨Tryz.underlying330,Tryz.sizeOf330,Tryz.zeroValue330,trivial,by kernel_rfl⟩,
   ⟨⟨_,Tryz.underlying334,rfl,rfl,Tryz.sizeOf73,rfl,trivial⟩,Tryz.sizeOf334,Tryz.zeroValue334,(by show Tryz.prog.stoodInHeld 334=false;kernel_rfl),by kernel_rfl⟩,
   ⟨⟨_,Tryz.underlying335,rfl,rfl,Tryz.sizeOf73,rfl,trivial⟩,Tryz.sizeOf335,Tryz.zeroValue335,(by show Tryz.prog.stoodInHeld 335=false;kernel_rfl),by kernel_rfl⟩,
   ⟨Tryz.underlying341,Tryz.sizeOf341,Tryz.zeroValue341,trivial,by kernel_rfl⟩,
   ⟨⟨_,Tryz.underlying346,rfl,rfl,Tryz.sizeOf127,rfl,rfl,rfl,Tryz.sizeOf4,rfl,rfl,rfl,Tryz.sizeOf3,rfl,rfl,rfl,Tryz.sizeOf22,rfl,rfl,rfl,Tryz.sizeOf264,rfl,trivial⟩,Tryz.sizeOf346,Tryz.zeroValue346,(by show Tryz.prog.stoodInHeld 346=false;kernel_rfl),by kernel_rfl⟩,
   ⟨⟨_,Tryz.underlying347,rfl,rfl,Tryz.sizeOf127,rfl,rfl,rfl,Tryz.sizeOf4,rfl,rfl,rfl,Tryz.sizeOf3,rfl,rfl,rfl,Tryz.sizeOf22,rfl,rfl,rfl,Tryz.sizeOf264,rfl,trivial⟩,Tryz.sizeOf347,Tryz.zeroValue347,(by show Tryz.prog.stoodInHeld 347=false;kernel_rfl),by kernel_rfl⟩,
   ⟨Tryz.underlying366,Tryz.sizeOf366,Tryz.zeroValue366,trivial,by kernel_rfl⟩,
   ⟨⟨_,_,_,Tryz.underlying375⟩,Tryz.sizeOf375,Tryz.zeroValue375,trivial,by kernel_rfl⟩,
   ⟨Tryz.underlying390,Tryz.sizeOf390,Tryz.zeroValue390,trivial,by kernel_rfl⟩,
   ⟨Tryz.underlying393,Tryz.sizeOf393,Tryz.zeroValue393,trivial,by kernel_rfl⟩,
   ⟨Tryz.underlying394,Tryz.sizeOf394,Tryz.zeroValue394,trivial,by kernel_rfl⟩,
   ⟨Tryz.underlying398,Tryz.sizeOf398,Tryz.zeroValue398,trivial,by kernel_rfl⟩,
   ⟨Tryz.underlying400,Tryz.sizeOf400,Tryz.zeroValue400,trivial,by kernel_rfl⟩,
   ⟨⟨_,_,_,Tryz.underlying412⟩,Tryz.sizeOf412,Tryz.zeroValue412,trivial,by kernel_rfl⟩,
   ⟨Tryz.underlying413,Tryz.sizeOf413,Tryz.zeroValue413,trivial,by kernel_rfl⟩,
   ⟨Tryz.underlying442,Tryz.sizeOf442,Tryz.zeroValue442,trivial,by kernel_rfl⟩,
   ⟨Tryz.underlying443,Tryz.sizeOf443,Tryz.zeroValue443,trivial,by kernel_rfl⟩,
   ⟨⟨_,_,_,Tryz.underlying444⟩,Tryz.sizeOf444,Tryz.zeroValue444,trivial,by kernel_rfl⟩,
   ⟨Tryz.underlying445,Tryz.sizeOf445,Tryz.zeroValue445,trivial,by kernel_rfl⟩,
   ⟨Tryz.underlying446,Tryz.sizeOf446,Tryz.zeroValue446,trivial,by kernel_rfl⟩,
   ⟨Tryz.underlying447,Tryz.sizeOf447,Tryz.zeroValue447,trivial,by kernel_rfl⟩,
   trivial⟩
set_option maxRecDepth 100000 in
theorem fnsGood:FGoods Tryz.prog [6,26,32,33,34,35,36,37,38,39,40,41,42,43,44,45,46,47,71,76,96,98,99,100,106,107,108,109,110,111,112,113,114,115,116,117,118,119,120,121,122,123,124,125,126,127,128,129,130,131,146,147,148,151,163,165,166,168,169,170,171,172,173,174,175,176,177,178,179,180,181,182,183,184,185,186,187,188,189,200,202,203,210,211,212,213,214,216,217,218,219,220,221,222,223,224,225,226,227,228,229,230,231,232,233,234,235,236,237,238,239,247,248,249,251,252,253,254,255,256,257,259,260,261,269,270,271,272,273,274,281] :=
  ⟨enters_of Tryz.func6 (by kernel_rfl) rfl,
   enters_of Tryz.func26 (by kernel_rfl) rfl,
   enters_of Tryz.func32 (by kernel_rfl) rfl,
   enters_of Tryz.func33 (by kernel_rfl) rfl,
   enters_of Tryz.func34 (by kernel_rfl) rfl,
   enters_of Tryz.func35 (by kernel_rfl) rfl,
   enters_of Tryz.func36 (by kernel_rfl) rfl,
   enters_of Tryz.func37 (by kernel_rfl) rfl,
   enters_of Tryz.func38 (by kernel_rfl) rfl,
   enters_of Tryz.func39 (by kernel_rfl) rfl,
   enters_of Tryz.func40 (by kernel_rfl) rfl,
   enters_of Tryz.func41 (by kernel_rfl) rfl,
   enters_of Tryz.func42 (by kernel_rfl) rfl,
   enters_of Tryz.func43 (by kernel_rfl) rfl,
   enters_of Tryz.func44 (by kernel_rfl) rfl,
   enters_of Tryz.func45 (by kernel_rfl) rfl,
   enters_of Tryz.func46 (by kernel_rfl) rfl,
   enters_of Tryz.func47 (by kernel_rfl) rfl,
   enters_of Tryz.func71 (by kernel_rfl) rfl,
   enters_of Tryz.func76 (by kernel_rfl) rfl,
   enters_of Tryz.func96 (by kernel_rfl) rfl,
   enters_of Tryz.func98 (by kernel_rfl) rfl,
   enters_of Tryz.func99 (by kernel_rfl) rfl,
   enters_of Tryz.func100 (by kernel_rfl) rfl,
   enters_of Tryz.func106 (by kernel_rfl) rfl,
   enters_of Tryz.func107 (by kernel_rfl) rfl,
   enters_of Tryz.func108 (by kernel_rfl) rfl,
   enters_of Tryz.func109 (by kernel_rfl) rfl,
   enters_of Tryz.func110 (by kernel_rfl) rfl,
   enters_of Tryz.func111 (by kernel_rfl) rfl,
   enters_of Tryz.func112 (by kernel_rfl) rfl,
   enters_of Tryz.func113 (by kernel_rfl) rfl,
   enters_of Tryz.func114 (by kernel_rfl) rfl,
   enters_of Tryz.func115 (by kernel_rfl) rfl,
   enters_of Tryz.func116 (by kernel_rfl) rfl,
   enters_of Tryz.func117 (by kernel_rfl) rfl,
   enters_of Tryz.func118 (by kernel_rfl) rfl,
   enters_of Tryz.func119 (by kernel_rfl) rfl,
   enters_of Tryz.func120 (by kernel_rfl) rfl,
   enters_of Tryz.func121 (by kernel_rfl) rfl,
   enters_of Tryz.func122 (by kernel_rfl) rfl,
   enters_of Tryz.func123 (by kernel_rfl) rfl,
   enters_of Tryz.func124 (by kernel_rfl) rfl,
   enters_of Tryz.func125 (by kernel_rfl) rfl,
   enters_of Tryz.func126 (by kernel_rfl) rfl,
   enters_of Tryz.func127 (by kernel_rfl) rfl,
   enters_of Tryz.func128 (by kernel_rfl) rfl,
   enters_of Tryz.func129 (by kernel_rfl) rfl,
   enters_of Tryz.func130 (by kernel_rfl) rfl,
   enters_of Tryz.func131 (by kernel_rfl) rfl,
   enters_of Tryz.func146 (by kernel_rfl) rfl,
   enters_of Tryz.func147 (by kernel_rfl) rfl,
   enters_of Tryz.func148 (by kernel_rfl) rfl,
   enters_of Tryz.func151 (by kernel_rfl) rfl,
   enters_of Tryz.func163 (by kernel_rfl) rfl,
   enters_of Tryz.func165 (by kernel_rfl) rfl,
   enters_of Tryz.func166 (by kernel_rfl) rfl,
   enters_of Tryz.func168 (by kernel_rfl) rfl,
   enters_of Tryz.func169 (by kernel_rfl) rfl,
   enters_of Tryz.func170 (by kernel_rfl) rfl,
   enters_of Tryz.func171 (by kernel_rfl) rfl,
   enters_of Tryz.func172 (by kernel_rfl) rfl,
   enters_of Tryz.func173 (by kernel_rfl) rfl,
   enters_of Tryz.func174 (by kernel_rfl) rfl,
   enters_of Tryz.func175 (by kernel_rfl) rfl,
   enters_of Tryz.func176 (by kernel_rfl) rfl,
   enters_of Tryz.func177 (by kernel_rfl) rfl,
   enters_of Tryz.func178 (by kernel_rfl) rfl,
   enters_of Tryz.func179 (by kernel_rfl) rfl,
   enters_of Tryz.func180 (by kernel_rfl) rfl,
   enters_of Tryz.func181 (by kernel_rfl) rfl,
   enters_of Tryz.func182 (by kernel_rfl) rfl,
   enters_of Tryz.func183 (by kernel_rfl) rfl,
   enters_of Tryz.func184 (by kernel_rfl) rfl,
   enters_of Tryz.func185 (by kernel_rfl) rfl,
   enters_of Tryz.func186 (by kernel_rfl) rfl,
   enters_of Tryz.func187 (by kernel_rfl) rfl,
   enters_of Tryz.func188 (by kernel_rfl) rfl,
   enters_of Tryz.func189 (by kernel_rfl) rfl,
   enters_of Tryz.func200 (by kernel_rfl) rfl,
   enters_of Tryz.func202 (by kernel_rfl) rfl,
   enters_of Tryz.func203 (by kernel_rfl) rfl,
   enters_of Tryz.func210 (by kernel_rfl) rfl,
   enters_of Tryz.func211 (by kernel_rfl) rfl,
   enters_of Tryz.func212 (by kernel_rfl) rfl,
   enters_of Tryz.func213 (by kernel_rfl) rfl,
   enters_of Tryz.func214 (by kernel_rfl) rfl,
   enters_of Tryz.func216 (by kernel_rfl) rfl,
   enters_of Tryz.func217 (by kernel_rfl) rfl,
   enters_of Tryz.func218 (by kernel_rfl) rfl,
   enters_of Tryz.func219 (by kernel_rfl) rfl,
   enters_of Tryz.func220 (by kernel_rfl) rfl,
   enters_of Tryz.func221 (by kernel_rfl) rfl,
   enters_of Tryz.func222 (by kernel_rfl) rfl,
   enters_of Tryz.func223 (by kernel_rfl) rfl,
   enters_of Tryz.func224 (by kernel_rfl) rfl,
   enters_of Tryz.func225 (by kernel_rfl) rfl,
   enters_of Tryz.func226 (by kernel_rfl) rfl,
   enters_of Tryz.func227 (by kernel_rfl) rfl,
   enters_of Tryz.func228 (by kernel_rfl) rfl,
   enters_of Tryz.func229 (by kernel_rfl) rfl,
   enters_of Tryz.func230 (by kernel_rfl) rfl,
   enters_of Tryz.func231 (by kernel_rfl) rfl,
   enters_of Tryz.func232 (by kernel_rfl) rfl,
   enters_of Tryz.func233 (by kernel_rfl) rfl,
   enters_of Tryz.func234 (by kernel_rfl) rfl,
   enters_of Tryz.func235 (by kernel_rfl) rfl,
   enters_of Tryz.func236 (by kernel_rfl) rfl,
   enters_of Tryz.func237 (by kernel_rfl) rfl,
   enters_of Tryz.func238 (by kernel_rfl) rfl,
   enters_of Tryz.func239 (by kernel_rfl) rfl,
   enters_of Tryz.func247 (by kernel_rfl) rfl,
   enters_of Tryz.func248 (by kernel_rfl) rfl,
   enters_of Tryz.func249 (by kernel_rfl) rfl,
   enters_of Tryz.func251 (by kernel_rfl) rfl,
   enters_of Tryz.func252 (by kernel_rfl) rfl,
   enters_of Tryz.func253 (by kernel_rfl) rfl,
   enters_of Tryz.func254 (by kernel_rfl) rfl,
   enters_of Tryz.func255 (by kernel_rfl) rfl,
   enters_of Tryz.func256 (by kernel_rfl) rfl,
   enters_of Tryz.func257 (by kernel_rfl) rfl,
   enters_of Tryz.func259 (by kernel_rfl) rfl,
   enters_of Tryz.func260 (by kernel_rfl) rfl,
   enters_of Tryz.func261 (by kernel_rfl) rfl,
   enters_of Tryz.func269 (by kernel_rfl) rfl,
   enters_of Tryz.func270 (by kernel_rfl) rfl,
   enters_of Tryz.func271 (by kernel_rfl) rfl,
   enters_of Tryz.func272 (by kernel_rfl) rfl,
   enters_of Tryz.func273 (by kernel_rfl) rfl,
   enters_of Tryz.func274 (by kernel_rfl) rfl,
   enters_of Tryz.func281 (by kernel_rfl) rfl,trivial⟩
theorem mixGood:Tryz.prog.follows .mixedOrders=true:=by kernel_rfl
def tb:Tb Tryz.prog:={ rows:=rowsTab,good:=rowsGood,fns:=[6,26,32,33,34,35,36,37,38,39,40,41,42,43,44,45,46,47,71,76,96,98,99,100,106,107,108,109,110,111,112,113,114,115,116,117,118,119,120,121,122,123,124,125,126,127,128,129,130,131,146,147,148,151,163,165,166,168,169,170,171,172,173,174,175,176,177,178,179,180,181,182,183,184,185,186,187,188,189,200,202,203,210,211,212,213,214,216,217,218,219,220,221,222,223,224,225,226,227,228,229,230,231,232,233,234,235,236,237,238,239,247,248,249,251,252,253,254,255,256,257,259,260,261,269,270,271,272,273,274,281],fgood:=fnsGood,mix:=mixGood,deep:=Nat.le_of_ble_eq_true (by kernel_rfl) }
set_option maxRecDepth 100000
def u8V (x:Int):List Value:=[.int .u8 x]
theorem u8V_len (x:Int):(u8V x).length=1:=rfl
theorem fl_u8 (bs:List Int):fl u8V bs=u8s bs:=by
  unfold fl u8s
  induction bs with
  | nil=>rfl
  | cons a l ih=>simp only [List.map_cons,List.flatten_cons,ih];rfl
def Byt (bs:List Int):Prop:=∀ x∈bs,0≤x∧x≤255
theorem rot_ok (x k s p q:Int) (h:andI .u64 (IntKind.u64.wrap k) 31=s) (h0:0 < s) (h1:s < 32) (hq:pw s.toNat=q) (hp:pw (32 - s).toNat=p):CallP Tryz.prog 273 [.int .u32 x,.int .i64 k] (.int .u32 (rotr x p q)):=by
  refine enterP (tb:=tb) Tryz.func273 rfl Tryz.ntmps273 rfl fun w=>?_
  have hs32:s.toNat≤IntKind.u32.bits:=by show s.toNat≤32;omega
  have hs33:(32 - s).toNat≤IntKind.u32.bits:=by show (32 - s).toNat≤32;omega
  repeat' (first|(apply R.is1;first|(apply R.isBin;(apply R.pure;exact rfl;first|(apply Ok1.andE;exact rfl;exact rfl;exact h)|(apply Ok1.subU;exact rfl;exact rfl;omega;omega)|(apply Ok1.shl;exact rfl;exact rfl;omega;exact hs32;exact hq)|(apply Ok1.shr;exact rfl;exact rfl;omega;exact hs33;exact hp)|(apply Ok1.orK;exact rfl;exact rfl)))|(apply R.pure;exact rfl;first|(apply Ok1.move;exact rfl)|(apply Ok1.assign;exact rfl)|(apply Ok1.conv;(iterate 5 exact rfl))))|apply R.nil|(apply T.is;first|apply T.seq|apply T.region|apply T.ret))
  (apply RetOk.t;exact rfl)
  rfl
theorem turnedA_ok (x:Int):CallP Tryz.prog 272 [.int .u32 x,.int .i64 6,.int .i64 11,.int .i64 25] (.int .u32 (turned x 64 67108864 2048 2097152 33554432 128)):=by
  refine enterP (tb:=tb) Tryz.func272 rfl Tryz.ntmps272 rfl fun w=>?_
  repeat' (first|(apply R.is1;first|(apply R.isBin;(apply R.pure;exact rfl;(apply Ok1.xorK;exact rfl;exact rfl)))|(apply R.isCall;first|apply R.callP rfl rfl rfl (rot_ok x (IntKind.i64.wrap (0 - 6)) 26 64 67108864 (by decide +kernel) (by decide) (by decide) rfl rfl)|apply R.callP rfl rfl rfl (rot_ok x (IntKind.i64.wrap (0 - 11)) 21 2048 2097152 (by decide +kernel) (by decide) (by decide) rfl rfl)|apply R.callP rfl rfl rfl (rot_ok x (IntKind.i64.wrap (0 - 25)) 7 33554432 128 (by decide +kernel) (by decide) (by decide) rfl rfl))|(apply R.pure;exact rfl;first|(apply Ok1.move;exact rfl)|(apply Ok1.assign;exact rfl)|(apply Ok1.neg;exact rfl)))|apply R.nil|(apply T.is;first|apply T.seq|apply T.region|apply T.ret))
  (apply RetOk.t;exact rfl)
  rfl
theorem turnedB_ok (x:Int):CallP Tryz.prog 272 [.int .u32 x,.int .i64 2,.int .i64 13,.int .i64 22] (.int .u32 (turned x 4 1073741824 8192 524288 4194304 1024)):=by
  refine enterP (tb:=tb) Tryz.func272 rfl Tryz.ntmps272 rfl fun w=>?_
  repeat' (first|(apply R.is1;first|(apply R.isBin;(apply R.pure;exact rfl;(apply Ok1.xorK;exact rfl;exact rfl)))|(apply R.isCall;first|apply R.callP rfl rfl rfl (rot_ok x (IntKind.i64.wrap (0 - 2)) 30 4 1073741824 (by decide +kernel) (by decide) (by decide) rfl rfl)|apply R.callP rfl rfl rfl (rot_ok x (IntKind.i64.wrap (0 - 13)) 19 8192 524288 (by decide +kernel) (by decide) (by decide) rfl rfl)|apply R.callP rfl rfl rfl (rot_ok x (IntKind.i64.wrap (0 - 22)) 10 4194304 1024 (by decide +kernel) (by decide) (by decide) rfl rfl))|(apply R.pure;exact rfl;first|(apply Ok1.move;exact rfl)|(apply Ok1.assign;exact rfl)|(apply Ok1.neg;exact rfl)))|apply R.nil|(apply T.is;first|apply T.seq|apply T.region|apply T.ret))
  (apply RetOk.t;exact rfl)
  rfl
theorem table_ok:CallP Tryz.prog 271 [] (.agg ⟨u32s kI⟩):=by
  refine enterP (tb:=tb) Tryz.func271 rfl Tryz.ntmps271 rfl fun w=>?_
  repeat' (first|(apply R.is1;first|(apply R.pure;exact rfl;(apply Ok1.buildA;(iterate 6 exact rfl)))|(apply R.alloc;(iterate 3 exact rfl);intro))|(apply R.is0;(apply R.store;(iterate 6 exact rfl);exact Upd.head;exact rfl))|apply R.nil|(apply T.is;first|apply T.seq|apply T.region|apply T.ret))
  (apply RetOk.c;exact rfl;((apply Ld.ownk;exact rfl;exact rfl;exact At.head;exact rfl)))
  rfl
theorem begun_ok:CallP Tryz.prog 210 [] (.agg ⟨h0I.v⟩):=by
  refine enterP (tb:=tb) Tryz.func210 rfl Tryz.ntmps210 rfl fun w=>?_
  repeat' (first|(apply R.is1;first|(apply R.pure;exact rfl;first|(apply Ok1.build;(iterate 5 exact rfl))|(apply Ok1.buildA;(iterate 6 exact rfl)))|(apply R.alloc;(iterate 3 exact rfl);intro))|(apply R.is0;(apply R.store;(iterate 6 exact rfl);exact Upd.head;exact rfl))|apply R.nil|(apply T.is;first|apply T.seq|apply T.region|apply T.ret))
  (apply RetOk.c;exact rfl;((apply Ld.ownk;exact rfl;exact rfl;exact At.head;exact rfl)))
  rfl
theorem byt_get {bs:List Int} (hb:Byt bs) {i:Nat} (h:i < bs.length):∃ x,bs[i]? = some x∧bs.getD i 0=x∧0≤x∧x≤255:=⟨bs[i],List.getElem?_eq_getElem h,by simp [h],hb _ (List.getElem_mem h)⟩
theorem word_ok (p:Option Addr) (n cap:Nat) (bs:List Int) (hn:n=bs.length) (hl:4≤bs.length) (hb:Byt bs) (w:World) (hp:RdSl w p u8V bs):CallW Tryz.prog 281 [.slice p n cap] w fun v _=>v = .int .u32 (wordI (bs.getD 0 0) (bs.getD 1 0) (bs.getD 2 0) (bs.getD 3 0)):=by
  subst hn
  obtain ⟨x0,h0,g0,l0,u0⟩:=byt_get hb (i:=0) (by omega)
  obtain ⟨x1,h1,g1,l1,u1⟩:=byt_get hb (i:=1) (by omega)
  obtain ⟨x2,h2,g2,l2,u2⟩:=byt_get hb (i:=2) (by omega)
  obtain ⟨x3,h3,g3,l3,u3⟩:=byt_get hb (i:=3) (by omega)
  rw [g0,g1,g2,g3]
  obtain ⟨b,o,hpe,H0⟩:=hp.at h0
  replace H0:=H0 1 u8V_len
  obtain ⟨b',o',hpe1,H1⟩:=hp.at h1
  replace H1:=H1 1 u8V_len
  rw [hpe] at hpe1;cases hpe1
  obtain ⟨b',o',hpe1,H2⟩:=hp.at h2
  replace H2:=H2 1 u8V_len
  rw [hpe] at hpe1;cases hpe1
  obtain ⟨b',o',hpe1,H3⟩:=hp.at h3
  replace H3:=H3 1 u8V_len
  rw [hpe] at hpe1;cases hpe1
  refine enterW (tb:=tb) Tryz.func281 rfl Tryz.ntmps281 rfl ?_
  repeat' (first|(apply R.is1;(apply R.pure;exact rfl;(apply Ok1.assign;exact rfl)))|apply R.nil|(apply T.is;first|(apply T.drawC (id:=1) [] (by decide);((apply A.tk 0;exact rfl;kernel_rfl;(apply Ok1.move;exact rfl))<;>(apply A.tk 1;exact rfl;kernel_rfl;(apply Ok1.indexAddrP;(iterate 4 exact rfl);exact hpe;exact rfl;omega;omega))<;>(apply A.tk 2;exact rfl;kernel_rfl;(apply Ok1.load;exact rfl;apply Ld.row0 H0;exact rfl;exact List.not_mem_nil;(iterate 3 exact rfl)))<;>(apply A.tk 3;exact rfl;kernel_rfl;(apply Ok1.convU32;(iterate 5 exact rfl);omega;omega))<;>(apply A.tk 4;exact rfl;kernel_rfl;(apply Ok1.shl;exact rfl;exact rfl;omega;exact Nat.le_of_ble_eq_true rfl;exact rfl))<;>(apply A.tk 5;exact rfl;kernel_rfl;(apply Ok1.move;exact rfl))<;>(apply A.tk 6;exact rfl;kernel_rfl;(apply Ok1.indexAddrP;(iterate 4 exact rfl);exact hpe;exact rfl;omega;omega))<;>(apply A.tk 7;exact rfl;kernel_rfl;(apply Ok1.load;exact rfl;apply Ld.row0 H1;exact rfl;exact List.not_mem_nil;(iterate 3 exact rfl)))<;>(apply A.tk 8;exact rfl;kernel_rfl;(apply Ok1.convU32;(iterate 5 exact rfl);omega;omega))<;>(apply A.tk 9;exact rfl;kernel_rfl;(apply Ok1.shl;exact rfl;exact rfl;omega;exact Nat.le_of_ble_eq_true rfl;exact rfl))<;>(apply A.tk 10;exact rfl;kernel_rfl;(apply Ok1.orK;exact rfl;exact rfl))<;>(apply A.tk 11;exact rfl;kernel_rfl;(apply Ok1.move;exact rfl))<;>(apply A.tk 12;exact rfl;kernel_rfl;(apply Ok1.indexAddrP;(iterate 4 exact rfl);exact hpe;exact rfl;omega;omega))<;>(apply A.tk 13;exact rfl;kernel_rfl;(apply Ok1.load;exact rfl;apply Ld.row0 H2;exact rfl;exact List.not_mem_nil;(iterate 3 exact rfl)))<;>(apply A.tk 14;exact rfl;kernel_rfl;(apply Ok1.convU32;(iterate 5 exact rfl);omega;omega))<;>(apply A.tk 15;exact rfl;kernel_rfl;(apply Ok1.shl;exact rfl;exact rfl;omega;exact Nat.le_of_ble_eq_true rfl;exact rfl))<;>(apply A.tk 16;exact rfl;kernel_rfl;(apply Ok1.orK;exact rfl;exact rfl))<;>(apply A.tk 17;exact rfl;kernel_rfl;(apply Ok1.move;exact rfl))<;>(apply A.tk 18;exact rfl;kernel_rfl;(apply Ok1.indexAddrP;(iterate 4 exact rfl);exact hpe;exact rfl;omega;omega))<;>(apply A.tk 19;exact rfl;kernel_rfl;(apply Ok1.load;exact rfl;apply Ld.row0 H3;exact rfl;exact List.not_mem_nil;(iterate 3 exact rfl)))<;>(apply A.tk 20;exact rfl;kernel_rfl;(apply Ok1.convU32;(iterate 5 exact rfl);omega;omega))<;>(apply A.tk 21;exact rfl;kernel_rfl;(apply Ok1.orK;exact rfl;exact rfl))<;>(apply A.tk 22;exact rfl;kernel_rfl;(apply Ok1.assign;exact rfl))<;>(apply A.done;kernel_rfl)))|apply T.seq|apply T.region|apply T.ret))
  (apply RetOk.t;exact rfl)
  exact congrArg _ (word_or ⟨l0,u0⟩ ⟨l1,u1⟩ ⟨l2,u2⟩ ⟨l3,u3⟩)
theorem u32s_app (a b:List Int):u32s (a++b)=u32s a++u32s b:=by simp [u32s]
theorem u32s_one (a:List Int):(u32s a).all Value.oneCell'=true:=by rw [List.all_eq_true];intro x hx;obtain ⟨y,_,rfl⟩:=List.mem_map.1 hx;rfl
theorem u32s_len (a:List Int):(u32s a).length=a.length:=by simp [u32s]
theorem arr_get {l:List Int} {zs:List Value} {k:Nat} (h:k < l.length):(u32s l++zs)[0+k * 1]? = some (.int .u32 (l.getD k 0)):=by
  rw [Nat.zero_add,Nat.mul_one,List.getElem?_append_left (by rw [u32s_len];exact h)]
  simp [u32s,h]
theorem arr_put (l:List Int) (x:Int) (z:Value) {k:Nat}:setE (u32s l++List.replicate (k+1) z) (0+l.length * 1) [.int .u32 x]=some (u32s (l++[x])++List.replicate k z):=by
  have:=setE_mid (u32s l) (vs:=[.int .u32 x]) (junk:=List.replicate (k+1) z) (by simp)
  rw [u32s_len] at this
  rw [Nat.zero_add,Nat.mul_one,this,u32s_app]
  rfl
theorem spread_ok (p:Option Addr) (n cap:Nat) (b:List Int) (hn:n=b.length) (hl:b.length=64) (hcap:n≤cap) (hb:Byt b) (w:World) (hp:RdSl w p u8V b):CallW Tryz.prog 270 [.slice p n cap] w fun v _=>v = .agg ⟨u32s (schedI b 64)⟩:=by
  refine enterW (tb:=tb) Tryz.func270 rfl Tryz.ntmps270 rfl ?_
  repeat' (first|(apply R.is1;first|(apply R.pure;exact rfl;(apply Ok1.move;exact rfl))|(apply R.alloc;(iterate 3 exact rfl);intro))|apply R.nil|(apply T.is;first|apply T.seq|apply T.region|apply T.block))
  rename_i b2 b3
  apply T.loopK (α:=Nat) (I:=fun i=>i≤64) (σi:=fun i=>[(0,.slice p n cap),(2,.pointer (some ⟨b2,0,none⟩)),(3,.pointer (some ⟨b3,0,none⟩)),(9,.int .i64 i)]) (Li:=fun i=>[(b3,.cells ⟨u32s (schedI b i)++List.replicate (64 - i) (.int .u32 0)⟩ 53 (0,0)),(b2,.cells ⟨List.replicate 64 (.int .u32 0)⟩ 53 (0,0))]) (μ:=fun i=>64 - i) (i0:=0)
  · exact Nat.zero_le _
  · exact ⟨rfl,rfl,rfl,rfl,trivial⟩
  · (focus (repeat' first|exact Keep.nil _|exact Ext.one _ _|apply Keep.cons);done)
  · intro i hi
    have hsl:=sched_len b i
    have hsn:schedI b (i+1)=schedI b i++[nextI b (schedI b i)]:=rfl
    have hnx:nextI b (schedI b i)=nextI b (schedI b i):=rfl
    conv at hnx=>rhs;unfold nextI
    generalize hleq:schedI b i=l at *
    rcases Nat.lt_or_ge i 64 with hlt|hge
    · obtain ⟨k,hk⟩:∃ k,64 - i=k+1:=⟨63 - i,by omega⟩
      have hput:=fun x=>arr_put l x (.int .u32 0) (k:=k)
      rw [hsl] at hput
      rw [hk]
      rcases Nat.lt_or_ge i 16 with h16|h16
      · rw [if_pos (by omega),hsl] at hnx
        have hwd:∀ w1,Chg [] w w1→CallW Tryz.prog 281 [.slice (sufP p cap (4 * i) 1) (n - 4 * i) (cap - 4 * i)] w1 fun v _=>v = .int .u32 (nextI b l):=by
          intro w1 hc
          have:=word_ok (sufP p cap (4 * i) 1) (n - 4 * i) (cap - 4 * i) (b.drop (4 * i)) (by rw [List.length_drop,hn]) (by rw [List.length_drop];omega) (fun x hx=>hb x (List.mem_of_mem_drop hx)) w1 ((hp.suf u8V_len (by omega) (by omega)).chg hc (Off.nil _))
          rw [hnx]
          simpa only [List.getD_eq_getElem?_getD,List.getElem?_drop,Nat.add_zero] using this
        repeat' (first|(apply R.is1;first|(apply R.isBin;(apply R.pure;exact rfl;first|(apply Ok1.add64;exact rfl;exact rfl;omega;omega)|(apply Ok1.lss_t;exact rfl;exact rfl;omega)|(apply Ok1.mul64;exact rfl;exact rfl;omega;omega)))|(apply R.isCall;(apply R.callV;(iterate 3 exact rfl);intro w1 hw1;exact hwd w1 hw1.chg))|(apply R.pure;exact rfl;first|(apply Ok1.sufR (i:=4 * i) (sz:=1);(iterate 6 exact rfl);omega;omega)|(apply Ok1.move;exact rfl)|(apply Ok1.assign;exact rfl)|(apply Ok1.indexAddrA;(iterate 5 exact rfl);omega;omega)))|(apply R.is0;(apply R.store;(iterate 6 exact rfl);exact Upd.head;exact hput _))|apply R.nil|(apply T.is;first|apply T.seq|apply T.region|apply T.block|apply T.skip|apply T.exit|(apply T.cond_t;exact rfl)))
        refine ⟨i+1,by omega,by omega,⟨rfl,rfl,rfl,rfl,trivial⟩,?_⟩
        rw [hsn,show 64 - (i+1)=k by omega]
        (focus (repeat' first|exact Keep.nil _|exact Ext.one _ _|apply Keep.cons);done)
      · rw [if_neg (by omega),hsl] at hnx
        have e15:((i:Int) - 15).toNat=i - 15:=by omega
        have e2:((i:Int) - 2).toNat=i - 2:=by omega
        have e16:((i:Int) - 16).toNat=i - 16:=by omega
        have e7:((i:Int) - 7).toNat=i - 7:=by omega
        have g15:(u32s l++List.replicate (k+1) (.int .u32 0))[0+((i:Int) - 15).toNat * 1]? = some (.int .u32 (l.getD (i - 15) 0)):=by rw [e15];exact arr_get (by omega)
        have g2:(u32s l++List.replicate (k+1) (.int .u32 0))[0+((i:Int) - 2).toNat * 1]? = some (.int .u32 (l.getD (i - 2) 0)):=by rw [e2];exact arr_get (by omega)
        have g16:(u32s l++List.replicate (k+1) (.int .u32 0))[0+((i:Int) - 16).toNat * 1]? = some (.int .u32 (l.getD (i - 16) 0)):=by rw [e16];exact arr_get (by omega)
        have g7:(u32s l++List.replicate (k+1) (.int .u32 0))[0+((i:Int) - 7).toNat * 1]? = some (.int .u32 (l.getD (i - 7) 0)):=by rw [e7];exact arr_get (by omega)
        generalize l.getD (i - 15) 0=x15 at *
        generalize l.getD (i - 2) 0=x2 at *
        generalize l.getD (i - 16) 0=x16 at *
        generalize l.getD (i - 7) 0=x7 at *
        repeat' (first|(apply R.is1;first|(apply R.isBin;(apply R.pure;exact rfl;first|(apply Ok1.xorK;exact rfl;exact rfl)|(apply Ok1.add64;exact rfl;exact rfl;omega;omega)|(apply Ok1.lss_t;exact rfl;exact rfl;omega)|(apply Ok1.lss_f;exact rfl;exact rfl;omega)|(apply Ok1.shr;exact rfl;exact rfl;omega;exact Nat.le_of_ble_eq_true rfl;(first|exact pwE3|exact rfl))))|(apply R.isCall;first|apply R.callP rfl rfl rfl (rot_ok x15 (-7) 25 128 33554432 (by decide +kernel) (by decide) (by decide) rfl rfl)|apply R.callP rfl rfl rfl (rot_ok x15 (-18) 14 262144 16384 (by decide +kernel) (by decide) (by decide) rfl rfl)|apply R.callP rfl rfl rfl (rot_ok x2 (-17) 15 131072 32768 (by decide +kernel) (by decide) (by decide) rfl rfl)|apply R.callP rfl rfl rfl (rot_ok x2 (-19) 13 524288 8192 (by decide +kernel) (by decide) (by decide) rfl rfl))|(apply R.pure;exact rfl;first|(apply Ok1.move;exact rfl)|(apply Ok1.assign;exact rfl)))|apply R.nil|(apply T.is;first|(apply T.drawC (id:=7) [0] (by decide);((apply A.tk 0;exact rfl;kernel_rfl;(apply Ok1.move;exact rfl))<;>(apply A.tk 1;exact rfl;kernel_rfl;(apply Ok1.sub64;exact rfl;exact rfl;omega;omega))<;>(apply A.tk 2;exact rfl;kernel_rfl;(apply Ok1.indexAddrA;(iterate 5 exact rfl);omega;omega))<;>(apply A.tk 3;exact rfl;kernel_rfl;(apply Ok1.load;exact rfl;apply Ld.own1;exact rfl;exact rfl;exact At.head;with_reducible (exact g15)))<;>(apply A.tk 4;exact rfl;kernel_rfl;(apply Ok1.move;exact rfl))<;>(apply A.tk 5;exact rfl;kernel_rfl;(apply Ok1.sub64;exact rfl;exact rfl;omega;omega))<;>(apply A.tk 6;exact rfl;kernel_rfl;(apply Ok1.indexAddrA;(iterate 5 exact rfl);omega;omega))<;>(apply A.tk 7;exact rfl;kernel_rfl;(apply Ok1.load;exact rfl;apply Ld.own1;exact rfl;exact rfl;exact At.head;with_reducible (exact g2)))<;>(apply A.tk 8;exact rfl;kernel_rfl;(apply Ok1.assign;exact rfl))<;>(apply A.tk 9;exact rfl;kernel_rfl;(apply Ok1.assign;exact rfl))<;>(apply A.done;kernel_rfl)))|(apply T.drawC (id:=10) [] (by decide);((apply A.tk 0;exact rfl;kernel_rfl;(apply Ok1.move;exact rfl))<;>(apply A.tk 1;exact rfl;kernel_rfl;(apply Ok1.move;exact rfl))<;>(apply A.tk 2;exact rfl;kernel_rfl;(apply Ok1.sub64;exact rfl;exact rfl;omega;omega))<;>(apply A.tk 3;exact rfl;kernel_rfl;(apply Ok1.indexAddrA;(iterate 5 exact rfl);omega;omega))<;>(apply A.tk 5;exact rfl;kernel_rfl;(apply Ok1.move;exact rfl))<;>(apply A.tk 7;exact rfl;kernel_rfl;(apply Ok1.move;exact rfl))<;>(apply A.tk 8;exact rfl;kernel_rfl;(apply Ok1.sub64;exact rfl;exact rfl;omega;omega))<;>(apply A.tk 9;exact rfl;kernel_rfl;(apply Ok1.indexAddrA;(iterate 5 exact rfl);omega;omega))<;>(apply A.tk 12;exact rfl;kernel_rfl;(apply Ok1.move;exact rfl))<;>(apply A.two 4 10;kernel_rfl;exact rfl;exact rfl;rotate_left 1;(focus (((((apply R.pure;exact rfl;(apply Ok1.load;exact rfl;apply Ld.own1;exact rfl;exact rfl;exact At.head;with_reducible (exact g7)))));apply R.nil;refine ⟨?_,?_⟩;(focus ((repeat' (exact trivial)))))<;>(apply A.one 4;kernel_rfl;exact rfl;(((apply R.pure;exact rfl;(apply Ok1.load;exact rfl;apply Ld.own1;exact rfl;exact rfl;exact At.head;with_reducible (exact g16)))));apply R.nil;refine ⟨?_,?_⟩;(focus ((repeat' (exact trivial)))))<;>(apply A.tk 6;exact rfl;kernel_rfl;(apply Ok1.add32;exact rfl;exact rfl))<;>(apply A.tk 11;exact rfl;kernel_rfl;(apply Ok1.add32;exact rfl;exact rfl))<;>(apply A.tk 13;exact rfl;kernel_rfl;(apply Ok1.add32;exact rfl;exact rfl))<;>(apply A.tk 14;exact rfl;kernel_rfl;(apply Ok1.indexAddrA;(iterate 5 exact rfl);omega;omega))<;>(apply A.one 15;kernel_rfl;exact rfl;(((apply R.store;(iterate 6 exact rfl);exact Upd.head;exact hput _)));apply R.nil;refine ⟨?_,?_⟩;(focus ((repeat' (exact trivial)))))<;>(apply A.done;kernel_rfl)));rotate_right 1;(focus (((((apply R.pure;exact rfl;(apply Ok1.load;exact rfl;apply Ld.own1;exact rfl;exact rfl;exact At.head;with_reducible (exact g16)))));apply R.nil;refine ⟨?_,?_⟩;(focus ((repeat' (exact trivial)))))<;>(apply A.tk 6;exact rfl;kernel_rfl;(apply Ok1.add32;exact rfl;exact rfl))<;>(apply A.one 10;kernel_rfl;exact rfl;(((apply R.pure;exact rfl;(apply Ok1.load;exact rfl;apply Ld.own1;exact rfl;exact rfl;exact At.head;with_reducible (exact g7)))));apply R.nil;refine ⟨?_,?_⟩;(focus ((repeat' (exact trivial)))))<;>(apply A.tk 11;exact rfl;kernel_rfl;(apply Ok1.add32;exact rfl;exact rfl))<;>(apply A.tk 13;exact rfl;kernel_rfl;(apply Ok1.add32;exact rfl;exact rfl))<;>(apply A.tk 14;exact rfl;kernel_rfl;(apply Ok1.indexAddrA;(iterate 5 exact rfl);omega;omega))<;>(apply A.one 15;kernel_rfl;exact rfl;(((apply R.store;(iterate 6 exact rfl);exact Upd.head;exact hput _)));apply R.nil;refine ⟨?_,?_⟩;(focus ((repeat' (exact trivial)))))<;>(apply A.done;kernel_rfl))))))|apply T.seq|apply T.region|apply T.block|apply T.skip|(apply T.cond_t;exact rfl)|(apply T.cond_f;exact rfl)))
        all_goals refine ⟨i+1,by omega,by omega,⟨rfl,rfl,rfl,rfl,trivial⟩,?_⟩
        all_goals rw [hsn,hnx,show 64 - (i+1)=k by omega]
        all_goals (focus (repeat' first|exact Keep.nil _|exact Ext.one _ _|apply Keep.cons);done)
    · have him:i=64:=by omega
      subst him
      rw [Nat.sub_self,List.replicate_zero,List.append_nil]
      rw [hleq]
      have hls:=u32s_len l
      rw [hsl] at hls
      have hsub:=subE_all hls
      have hset:∀ cs:List Value,cs.length=64→setE cs 0 (u32s l)=some (u32s l):=fun cs h=>setE_all (by rw [hls,h])
      have hone:=u32s_one l
      generalize u32s l=us at *
      repeat' (first|(apply R.is1;first|(apply R.isBin;(apply R.pure;exact rfl;(apply Ok1.lss_f;exact rfl;exact rfl;omega)))|(apply R.pure;exact rfl;(apply Ok1.load;exact rfl;apply Ld.ownk;exact rfl;exact rfl;exact At.head;exact hsub)))|(apply R.is0;(apply R.store;(iterate 4 exact rfl);exact hls;exact hone;(focus (repeat' first|exact Upd.head|apply Upd.tail);done);exact hset _ rfl))|apply R.nil|(apply T.is;first|apply T.seq|apply T.region|apply T.exit|apply T.ret|(apply T.cond_f;exact rfl)))
      apply RetOk.c
      exact rfl
      apply Ld.ownk
      exact rfl
      exact rfl
      (focus (repeat' first|exact At.head|apply At.tail);done)
      exact hsub
      rfl
/-- What a block's rounds hold. -/
theorem mix_ok (r:Nat) (s:H8) (rest:List Value) (e:TypeId) (p:Option Addr) (n cap:Nat) (b:List Int) (hn:n=b.length) (hl:b.length=64) (hcap:n≤cap) (hb:Byt b) (w:World) (hp:RdSl w p u8V b) (hoff:Off p [r]) :
    CallM Tryz.prog 251 [.pointer (some ⟨r,0,none⟩),.slice p n cap] [(r,.cells ⟨s.v++rest⟩ e (0,0))] w fun v L=>v = .tuple #[]∧L=[(r,.cells ⟨(mixI kI b s).v++rest⟩ e (0,0))]:=by
  refine enterK (tb:=tb) Tryz.func251 rfl Tryz.ntmps251 rfl ?_
  have hls:=u32s_len (schedI b 64)
  have hsl:=sched_len b 64
  rw [hsl] at hls
  have hset:∀ cs:List Value,cs.length=64→setE cs 0 (u32s (schedI b 64))=some (u32s (schedI b 64)):=fun cs h=>setE_all (by rw [hls,h])
  have hgw:∀ i,i < 64→(u32s (schedI b 64))[0+i * 1]? = some (.int .u32 ((schedI b 64).getD i 0)):=fun i hi=>by have:=arr_get (l:=schedI b 64) (zs:=[]) (k:=i) (by omega);rwa [List.append_nil] at this
  have hgk:∀ i,i < 64→(u32s kI)[0+i * 1]? = some (.int .u32 (kI.getD i 0)):=fun i hi=>by have:=arr_get (l:=kI) (zs:=[]) (k:=i) (by rw [kI_len];exact hi);rwa [List.append_nil] at this
  have hmix:mixI kI b s=addH s (roundsI kI (schedI b 64) s 64):=rfl
  have hr0:roundsI kI (schedI b 64) s 0=s:=rfl
  have hrs:∀ i,roundsI kI (schedI b 64) s (i+1)=stepI (roundsI kI (schedI b 64) s i) (kI.getD i 0) ((schedI b 64).getD i 0):=fun _=>rfl
  have hset2:∀ cs:List Value,cs.length=64→setE cs 0 (u32s kI)=some (u32s kI):=fun cs h=>setE_all (by rw [u32s_len,kI_len,h])
  have hspr:∀ w1,Chg [r] w w1→CallW Tryz.prog 270 [.slice p n cap] w1 fun v _=>v = .agg ⟨u32s (schedI b 64)⟩:=fun w1 hc=>spread_ok p n cap b hn hl hcap hb w1 (hp.chg hc hoff)
  have htab:=table_ok
  have hsv:subE (s.v++rest) 0 8=some s.v:=subE_app _ _ rfl
  have hset8:∀ cs:List Value,cs.length=8→setE cs 0 s.v=some s.v:=fun cs h=>setE_all (by rw [h];rfl)
  have hone:=u32s_one (schedI b 64)
  have hone2:=u32s_one kI
  have hkl:(u32s kI).length=64:=by rw [u32s_len,kI_len]
  generalize hK:u32s kI=ks at *
  generalize roundsI kI (schedI b 64) s=rs at *
  generalize hW:u32s (schedI b 64)=us at *
  repeat' (first|(apply R.is1;first|(apply R.isCall;first|(apply R.callV;(iterate 3 exact rfl);intro w1 hw1;exact hspr w1 hw1.chg)|apply R.callP rfl rfl rfl htab)|(apply R.pure;exact rfl;first|(apply Ok1.load;exact rfl;apply Ld.ownk;exact rfl;exact rfl;(focus (repeat' first|exact At.head|apply At.tail);done);exact hsv)|(apply Ok1.move;exact rfl)|(apply Ok1.fieldAddr;(iterate 5 exact rfl))|(apply Ok1.assign;exact rfl)|(apply Ok1.nilCheck;exact rfl))|(apply R.alloc;(iterate 3 exact rfl);intro))|(apply R.is0;first|(apply R.store;(iterate 4 exact rfl);exact hls;exact hone;(focus (repeat' first|exact Upd.head|apply Upd.tail);done);exact hset _ rfl)|(apply R.store;(iterate 4 exact rfl);exact hkl;exact hone2;exact Upd.head;exact hset2 _ rfl)|(apply R.store;(iterate 6 exact rfl);exact Upd.head;exact hset8 _ rfl))|apply R.nil|(apply T.is;first|apply T.seq|apply T.region|apply T.block))
  rename_i b4 b5 b6
  apply T.loopK (α:=Nat) (I:=fun i=>i≤64) (σi:=fun i=>[(0,.pointer (some ⟨r,0,none⟩)),(4,.pointer (some ⟨b4,0,none⟩)),(5,.pointer (some ⟨b5,0,none⟩)),(6,.pointer (some ⟨b6,0,none⟩)),(7,.func (.func 272) #[] #[]),(19,.int .i64 i)])
    (Li:=fun i=>[(b6,.cells ⟨(rs i).v⟩ 54 (0,0)),(b5,.cells ⟨ks⟩ 53 (0,0)),(b4,.cells ⟨us⟩ 53 (0,0)),(r,.cells ⟨s.v++rest⟩ e (0,0))]) (μ:=fun i=>64 - i) (i0:=0)
  · exact Nat.zero_le _
  · exact ⟨rfl,rfl,rfl,rfl,rfl,rfl,trivial⟩
  · rw [hr0];(focus (repeat' first|exact Keep.nil _|exact Ext.one _ _|apply Keep.cons);done)
  · intro i hi
    rcases Nat.lt_or_ge i 64 with hlt|hge
    · have g1:=hgk i hlt
      have g2:=hgw i hlt
      have hst:=hrs i
      generalize kI.getD i 0=ki at *
      generalize (schedI b 64).getD i 0=wi at *
      generalize rs i=st at *
      repeat' (first|(apply R.is1;first|(apply R.isBin;(apply R.pure;exact rfl;first|(apply Ok1.add32;exact rfl;exact rfl)|(apply Ok1.add64;exact rfl;exact rfl;omega;omega)|(apply Ok1.lss_t;exact rfl;exact rfl;omega)))|(apply R.pure;exact rfl;first|(apply Ok1.move;exact rfl)|(apply Ok1.load;exact rfl;(apply Ld.own1;exact rfl;exact rfl;exact At.head;exact rfl))|(apply Ok1.assign;exact rfl)|(apply Ok1.indexAddrA;(iterate 5 exact rfl);omega;omega)|(apply Ok1.buildA;(iterate 6 exact rfl))))|(apply R.is0;(apply R.store;(iterate 6 exact rfl);exact Upd.head;exact setE_all rfl))|apply R.nil|(apply T.is;first|(apply T.drawC (id:=6) [0,1,2] (by decide);(((apply A.tk 0;exact rfl;kernel_rfl;(apply Ok1.indexAddrA;(iterate 5 exact rfl);omega;omega));refine A.cast (listed':=#[true,false,false,false,false,false,false,false,false,false,false,false,false,false,false,false,false,false,false,false,false,false,false,false,false,false,false,false,false]) (by kernel_rfl) ?_)<;>((apply A.tk 1;exact rfl;kernel_rfl;(apply Ok1.load;exact rfl;(apply Ld.own1;exact rfl;exact rfl;exact At.head;exact rfl)));refine A.cast (listed':=#[true,true,false,false,false,false,false,false,false,false,false,false,false,false,false,false,false,false,false,false,false,false,false,false,false,false,false,false,false]) (by kernel_rfl) ?_)<;>((apply A.tk 2;exact rfl;kernel_rfl;(apply Ok1.move;exact rfl));refine A.cast (listed':=#[true,true,true,false,false,false,false,false,false,false,false,false,false,false,false,false,false,false,false,false,false,false,false,false,false,false,false,false,false]) (by kernel_rfl) ?_)<;>((apply A.tk 3;exact rfl;kernel_rfl;(apply Ok1.indexAddrA;(iterate 5 exact rfl);omega;omega));refine A.cast (listed':=#[true,true,true,true,false,false,false,false,false,false,false,false,false,false,false,false,false,false,false,false,false,false,false,false,false,false,false,false,false]) (by kernel_rfl) ?_)<;>((apply A.tk 4;exact rfl;kernel_rfl;(apply Ok1.load;exact rfl;(apply Ld.own1;exact rfl;exact rfl;exact At.head;exact rfl)));refine A.cast (listed':=#[true,true,true,true,true,false,false,false,false,false,false,false,false,false,false,false,false,false,false,false,false,false,false,false,false,false,false,false,false]) (by kernel_rfl) ?_)<;>((apply A.tk 7;exact rfl;kernel_rfl;(apply Ok1.indexAddrA;(iterate 5 exact rfl);omega;omega));refine A.cast (listed':=#[true,true,true,true,true,false,false,true,false,false,false,false,false,false,false,false,false,false,false,false,false,false,false,false,false,false,false,false,false]) (by kernel_rfl) ?_)<;>((apply A.tk 8;exact rfl;kernel_rfl;(apply Ok1.load;exact rfl;(apply Ld.own1;exact rfl;exact rfl;exact At.head;exact rfl)));refine A.cast (listed':=#[true,true,true,true,true,false,false,true,true,false,false,false,false,false,false,false,false,false,false,false,false,false,false,false,false,false,false,false,false]) (by kernel_rfl) ?_)<;>((apply A.tk 9;exact rfl;kernel_rfl;(apply Ok1.indexAddrA;(iterate 5 exact rfl);omega;omega));refine A.cast (listed':=#[true,true,true,true,true,false,false,true,true,true,false,false,false,false,false,false,false,false,false,false,false,false,false,false,false,false,false,false,false]) (by kernel_rfl) ?_)<;>((apply A.tk 10;exact rfl;kernel_rfl;(apply Ok1.load;exact rfl;(apply Ld.own1;exact rfl;exact rfl;exact At.head;exact rfl)));refine A.cast (listed':=#[true,true,true,true,true,false,false,true,true,true,true,false,false,false,false,false,false,false,false,false,false,false,false,false,false,false,false,false,false]) (by kernel_rfl) ?_)<;>((apply A.tk 11;exact rfl;kernel_rfl;(apply Ok1.andK;exact rfl;exact rfl));refine A.cast (listed':=#[true,true,true,true,true,false,false,true,true,true,true,true,false,false,false,false,false,false,false,false,false,false,false,false,false,false,false,false,false]) (by kernel_rfl) ?_)<;>((apply A.tk 12;exact rfl;kernel_rfl;(apply Ok1.indexAddrA;(iterate 5 exact rfl);omega;omega));refine A.cast (listed':=#[true,true,true,true,true,false,false,true,true,true,true,true,true,false,false,false,false,false,false,false,false,false,false,false,false,false,false,false,false]) (by kernel_rfl) ?_)<;>((apply A.tk 13;exact rfl;kernel_rfl;(apply Ok1.load;exact rfl;(apply Ld.own1;exact rfl;exact rfl;exact At.head;exact rfl)));refine A.cast (listed':=#[true,true,true,true,true,false,false,true,true,true,true,true,true,true,false,false,false,false,false,false,false,false,false,false,false,false,false,false,false]) (by kernel_rfl) ?_)<;>((apply A.tk 14;exact rfl;kernel_rfl;(apply Ok1.cplK;exact rfl;exact rfl));refine A.cast (listed':=#[true,true,true,true,true,false,false,true,true,true,true,true,true,true,true,false,false,false,false,false,false,false,false,false,false,false,false,false,false]) (by kernel_rfl) ?_)<;>((apply A.tk 15;exact rfl;kernel_rfl;(apply Ok1.indexAddrA;(iterate 5 exact rfl);omega;omega));refine A.cast (listed':=#[true,true,true,true,true,false,false,true,true,true,true,true,true,true,true,true,false,false,false,false,false,false,false,false,false,false,false,false,false]) (by kernel_rfl) ?_)<;>((apply A.tk 16;exact rfl;kernel_rfl;(apply Ok1.load;exact rfl;(apply Ld.own1;exact rfl;exact rfl;exact At.head;exact rfl)));refine A.cast (listed':=#[true,true,true,true,true,false,false,true,true,true,true,true,true,true,true,true,true,false,false,false,false,false,false,false,false,false,false,false,false]) (by kernel_rfl) ?_)<;>((apply A.tk 17;exact rfl;kernel_rfl;(apply Ok1.andK;exact rfl;exact rfl));refine A.cast (listed':=#[true,true,true,true,true,false,false,true,true,true,true,true,true,true,true,true,true,true,false,false,false,false,false,false,false,false,false,false,false]) (by kernel_rfl) ?_)<;>((apply A.tk 18;exact rfl;kernel_rfl;(apply Ok1.xorK;exact rfl;exact rfl));refine A.cast (listed':=#[true,true,true,true,true,false,false,true,true,true,true,true,true,true,true,true,true,true,true,false,false,false,false,false,false,false,false,false,false]) (by kernel_rfl) ?_)<;>((apply A.tk 20;exact rfl;kernel_rfl;(apply Ok1.move;exact rfl));refine A.cast (listed':=#[true,true,true,true,true,false,false,true,true,true,true,true,true,true,true,true,true,true,true,false,true,false,false,false,false,false,false,false,false]) (by kernel_rfl) ?_)<;>((apply A.tk 21;exact rfl;kernel_rfl;(apply Ok1.indexAddrA;(iterate 5 exact rfl);omega;omega));refine A.cast (listed':=#[true,true,true,true,true,false,false,true,true,true,true,true,true,true,true,true,true,true,true,false,true,true,false,false,false,false,false,false,false]) (by kernel_rfl) ?_)<;>((apply A.tk 22;exact rfl;kernel_rfl;(apply Ok1.load;exact rfl;apply Ld.own1;exact rfl;exact rfl;(focus (repeat' first|exact At.head|apply At.tail);done);exact g1));refine A.cast (listed':=#[true,true,true,true,true,false,false,true,true,true,true,true,true,true,true,true,true,true,true,false,true,true,true,false,false,false,false,false,false]) (by kernel_rfl) ?_)<;>((apply A.tk 24;exact rfl;kernel_rfl;(apply Ok1.move;exact rfl));refine A.cast (listed':=#[true,true,true,true,true,false,false,true,true,true,true,true,true,true,true,true,true,true,true,false,true,true,true,false,true,false,false,false,false]) (by kernel_rfl) ?_)<;>((apply A.tk 25;exact rfl;kernel_rfl;(apply Ok1.indexAddrA;(iterate 5 exact rfl);omega;omega));refine A.cast (listed':=#[true,true,true,true,true,false,false,true,true,true,true,true,true,true,true,true,true,true,true,false,true,true,true,false,true,true,false,false,false]) (by kernel_rfl) ?_)<;>((apply A.tk 26;exact rfl;kernel_rfl;(apply Ok1.load;exact rfl;apply Ld.own1;exact rfl;exact rfl;(focus (repeat' first|exact At.head|apply At.tail);done);exact g2));refine A.cast (listed':=#[true,true,true,true,true,false,false,true,true,true,true,true,true,true,true,true,true,true,true,false,true,true,true,false,true,true,true,false,false]) (by kernel_rfl) ?_)<;>(apply A.one 5;kernel_rfl;exact rfl;(((apply R.callFP (fa:=[]) (cb:=[]);(iterate 4 exact rfl);exact turnedA_ok _)));apply R.nil;refine ⟨?_,?_⟩;(focus (repeat' first|exact trivial|exact At.head|apply At.tail|refine ⟨?_,?_⟩)))<;>((apply A.tk 6;exact rfl;kernel_rfl;(apply Ok1.add32;exact rfl;exact rfl));refine A.cast (listed':=#[true,true,true,true,true,true,true,true,true,true,true,true,true,true,true,true,true,true,true,false,true,true,true,false,true,true,true,false,false]) (by kernel_rfl) ?_)<;>((apply A.tk 19;exact rfl;kernel_rfl;(apply Ok1.add32;exact rfl;exact rfl));refine A.cast (listed':=#[true,true,true,true,true,true,true,true,true,true,true,true,true,true,true,true,true,true,true,true,true,true,true,false,true,true,true,false,false]) (by kernel_rfl) ?_)<;>((apply A.tk 23;exact rfl;kernel_rfl;(apply Ok1.add32;exact rfl;exact rfl));refine A.cast (listed':=#[true,true,true,true,true,true,true,true,true,true,true,true,true,true,true,true,true,true,true,true,true,true,true,true,true,true,true,false,false]) (by kernel_rfl) ?_)<;>((apply A.tk 27;exact rfl;kernel_rfl;(apply Ok1.add32;exact rfl;exact rfl));refine A.cast (listed':=#[true,true,true,true,true,true,true,true,true,true,true,true,true,true,true,true,true,true,true,true,true,true,true,true,true,true,true,true,false]) (by kernel_rfl) ?_)<;>((apply A.tk 28;exact rfl;kernel_rfl;(apply Ok1.assign;exact rfl));refine A.cast (listed':=#[true,true,true,true,true,true,true,true,true,true,true,true,true,true,true,true,true,true,true,true,true,true,true,true,true,true,true,true,true]) (by kernel_rfl) ?_)<;>(apply A.done;kernel_rfl)))|(apply T.drawC (id:=7) [0,1,2] (by decide);((apply A.tk 0;exact rfl;kernel_rfl;(apply Ok1.move;exact rfl))<;>(apply A.tk 1;exact rfl;kernel_rfl;(apply Ok1.indexAddrA;(iterate 5 exact rfl);omega;omega))<;>(apply A.tk 2;exact rfl;kernel_rfl;(apply Ok1.load;exact rfl;(apply Ld.own1;exact rfl;exact rfl;exact At.head;exact rfl)))<;>(apply A.tk 4;exact rfl;kernel_rfl;(apply Ok1.indexAddrA;(iterate 5 exact rfl);omega;omega))<;>(apply A.tk 5;exact rfl;kernel_rfl;(apply Ok1.load;exact rfl;(apply Ld.own1;exact rfl;exact rfl;exact At.head;exact rfl)))<;>(apply A.tk 6;exact rfl;kernel_rfl;(apply Ok1.indexAddrA;(iterate 5 exact rfl);omega;omega))<;>(apply A.tk 7;exact rfl;kernel_rfl;(apply Ok1.load;exact rfl;(apply Ld.own1;exact rfl;exact rfl;exact At.head;exact rfl)))<;>(apply A.tk 8;exact rfl;kernel_rfl;(apply Ok1.andK;exact rfl;exact rfl))<;>(apply A.tk 9;exact rfl;kernel_rfl;(apply Ok1.indexAddrA;(iterate 5 exact rfl);omega;omega))<;>(apply A.tk 10;exact rfl;kernel_rfl;(apply Ok1.load;exact rfl;(apply Ld.own1;exact rfl;exact rfl;exact At.head;exact rfl)))<;>(apply A.tk 11;exact rfl;kernel_rfl;(apply Ok1.indexAddrA;(iterate 5 exact rfl);omega;omega))<;>(apply A.tk 12;exact rfl;kernel_rfl;(apply Ok1.load;exact rfl;(apply Ld.own1;exact rfl;exact rfl;exact At.head;exact rfl)))<;>(apply A.tk 13;exact rfl;kernel_rfl;(apply Ok1.andK;exact rfl;exact rfl))<;>(apply A.tk 14;exact rfl;kernel_rfl;(apply Ok1.xorK;exact rfl;exact rfl))<;>(apply A.tk 15;exact rfl;kernel_rfl;(apply Ok1.indexAddrA;(iterate 5 exact rfl);omega;omega))<;>(apply A.tk 16;exact rfl;kernel_rfl;(apply Ok1.load;exact rfl;(apply Ld.own1;exact rfl;exact rfl;exact At.head;exact rfl)))<;>(apply A.tk 17;exact rfl;kernel_rfl;(apply Ok1.indexAddrA;(iterate 5 exact rfl);omega;omega))<;>(apply A.tk 18;exact rfl;kernel_rfl;(apply Ok1.load;exact rfl;(apply Ld.own1;exact rfl;exact rfl;exact At.head;exact rfl)))<;>(apply A.tk 19;exact rfl;kernel_rfl;(apply Ok1.andK;exact rfl;exact rfl))<;>(apply A.tk 20;exact rfl;kernel_rfl;(apply Ok1.xorK;exact rfl;exact rfl))<;>(apply A.one 3;kernel_rfl;exact rfl;(((apply R.callFP (fa:=[]) (cb:=[]);(iterate 4 exact rfl);exact turnedB_ok _)));apply R.nil;refine ⟨?_,?_⟩;(focus (repeat' first|exact trivial|exact At.head|apply At.tail|refine ⟨?_,?_⟩)))<;>(apply A.tk 21;exact rfl;kernel_rfl;(apply Ok1.add32;exact rfl;exact rfl))<;>(apply A.tk 22;exact rfl;kernel_rfl;(apply Ok1.assign;exact rfl))<;>(apply A.done;kernel_rfl)))|apply T.seq|apply T.region|apply T.block|apply T.skip|(apply T.cond_t;exact rfl)))
      refine ⟨i+1,by omega,by omega,⟨rfl,rfl,rfl,rfl,rfl,rfl,trivial⟩,?_⟩
      rw [hst]
      (focus (repeat' first|exact Keep.nil _|exact Ext.one _ _|apply Keep.cons);done)
    · have him:i=64:=by omega
      subst him
      rw [hmix]
      generalize rs 64=t at *
      clear hset hset2 hgk hgw hspr
      simp only [H8.v,H8.l,u32s,List.map_cons,List.map_nil,List.cons_append,List.nil_append]
      repeat' (first|(apply R.is1;first|(apply R.isBin;(apply R.pure;exact rfl;first|(apply Ok1.add64;exact rfl;exact rfl;omega;omega)|(apply Ok1.lss_t;exact rfl;exact rfl;omega)|(apply Ok1.lss_f;exact rfl;exact rfl;omega)))|(apply R.pure;exact rfl;first|(apply Ok1.move;exact rfl)|(apply Ok1.assign;exact rfl)))|apply R.nil|(apply T.is;first|apply T.rounds 9|(apply T.drawC (id:=13) [0] (by decide);((apply A.tk 0;exact rfl;kernel_rfl;(apply Ok1.move;exact rfl))<;>(apply A.tk 1;exact rfl;kernel_rfl;(apply Ok1.move;exact rfl))<;>(apply A.tk 2;exact rfl;kernel_rfl;(apply Ok1.nilCheck;exact rfl))<;>(apply A.tk 3;exact rfl;kernel_rfl;(apply Ok1.fieldAddr;(iterate 5 exact rfl)))<;>(apply A.tk 4;exact rfl;kernel_rfl;(apply Ok1.indexAddrA;(iterate 5 exact rfl);omega;omega))<;>(apply A.tk 6;exact rfl;kernel_rfl;(apply Ok1.move;exact rfl))<;>(apply A.tk 7;exact rfl;kernel_rfl;(apply Ok1.indexAddrA;(iterate 5 exact rfl);omega;omega))<;>(apply A.tk 8;exact rfl;kernel_rfl;(apply Ok1.load;exact rfl;(apply Ld.own1;exact rfl;exact rfl;exact At.head;exact rfl)))<;>(apply A.tk 10;exact rfl;kernel_rfl;(apply Ok1.nilCheck;exact rfl))<;>(apply A.tk 11;exact rfl;kernel_rfl;(apply Ok1.fieldAddr;(iterate 5 exact rfl)))<;>(apply A.one 5;kernel_rfl;exact rfl;(((apply R.pure;exact rfl;(apply Ok1.load;exact rfl;(apply Ld.own1;exact rfl;exact rfl;(focus (repeat' first|exact At.head|apply At.tail);done);exact rfl)))));apply R.nil;refine ⟨?_,?_⟩;(focus ((repeat' (first|exact trivial|(refine ⟨?_,?_⟩;exact At.head))))))<;>(apply A.tk 9;exact rfl;kernel_rfl;(apply Ok1.add32;exact rfl;exact rfl))<;>(apply A.tk 12;exact rfl;kernel_rfl;(apply Ok1.indexAddrA;(iterate 5 exact rfl);omega;omega))<;>(apply A.one 13;kernel_rfl;exact rfl;((first|(apply R.store;(iterate 6 exact rfl);(focus (repeat' first|exact Upd.head|apply Upd.tail);done);exact rfl)|(apply R.store;(iterate 6 exact rfl);(focus (repeat' first|exact Upd.head|apply Upd.tail);done);exact setE_one (by simp only [List.length_cons];omega))));apply R.nil;refine ⟨?_,?_⟩;(focus ((repeat' (first|exact trivial|(refine ⟨?_,?_⟩;exact At.head))))))<;>(apply A.done;kernel_rfl)))|apply T.seq|apply T.region|apply T.block|apply T.skip|apply T.exit|(apply T.cond_t;exact rfl)|(apply T.cond_f;exact rfl)))
      all_goals (apply RetOk.n)
      all_goals refine ⟨_,?_,rfl,rfl⟩
      all_goals (focus (repeat' first|exact Keep.nil _|exact Ext.one _ _|apply Keep.cons|apply Ext.cons);done)
theorem u8s_app (a b:List Int):u8s (a++b)=u8s a++u8s b:=by simp [u8s]
theorem u8s_len (a:List Int):(u8s a).length=a.length:=by simp [u8s]
theorem u8s_one (a:List Int):(u8s a).all Value.oneCell'=true:=by rw [List.all_eq_true];intro x hx;obtain ⟨y,_,rfl⟩:=List.mem_map.1 hx;rfl
theorem Byt.app {a b:List Int} (h1:Byt a) (h2:Byt b):Byt (a++b):=fun x hx=>by rcases List.mem_append.1 hx with h|h;exact h1 x h;exact h2 x h
theorem Byt.drop {a:List Int} (h:Byt a) (i:Nat):Byt (a.drop i):=fun x hx=>h x (List.mem_of_mem_drop hx)
theorem Byt.take {a:List Int} (h:Byt a) (i:Nat):Byt (a.take i):=fun x hx=>h x (List.mem_of_mem_take hx)
/-- p' reads as p does,from k on. -/
structure Sfx (p p':Option Addr) (n k:Nat):Prop where
  rd:∀ (W:World) (xs:List Int),xs.length=n→RdSl W p u8V xs→RdSl W p' u8V (xs.drop k)
  off:∀ S,Off p S→Off p' S
theorem Sfx.refl (p:Option Addr) (n:Nat):Sfx p p n 0:=⟨fun W xs _ h=>h,fun _ h=>h⟩
theorem Sfx.suf {p p':Option Addr} {n k c i:Nat} (h:Sfx p p' n k) (h1:k+i≤n) (h2:n - k≤c):Sfx p (sufP p' c i 1) n (k+i) :=
  ⟨fun W xs hl hp=>by
    have:=(h.rd W xs hl hp).suf u8V_len (cap:=c) (i:=i) (by rw [List.length_drop];omega) (by rw [List.length_drop];omega)
    rwa [List.drop_drop] at this,fun S ho=>(h.off S ho).suf _ _ _⟩
theorem allI_step (b:List Int) (s:H8) {i:Nat} (h:64 * i+64≤b.length):allI kI (i+1) b s=mixI kI ((b.drop (64 * i)).take 64) (allI kI i b s):=by
  induction i generalizing b s with
  | zero=>rfl
  | succ i ih =>
    rw [allI,ih (b.drop 64) (mixI kI (b.take 64) s) (by rw [List.length_drop];omega),List.drop_drop,show 64+64 * i=64 * (i+1) by omega]
    rfl
theorem all_ok (r:Nat) (s:H8) (rest:List Value) (e:TypeId) (p:Option Addr) (n cap:Nat) (b:List Int) (hn:n=b.length) (hcap:n≤cap) (hbig:n≤1073741824) (hb:Byt b) (w:World) (hp:RdSl w p u8V b) (hoff:Off p [r]) :
    CallM Tryz.prog 211 [.pointer (some ⟨r,0,none⟩),.slice p n cap] [(r,.cells ⟨s.v++rest⟩ e (0,0))] w fun v L=>∃ p' cap',v = .slice p' (n - 64 * (n / 64)) cap' ∧ n - 64 * (n / 64)≤cap' ∧ Sfx p p' n (64 * (n / 64))∧L=[(r,.cells ⟨(allI kI (n / 64) b s).v++rest⟩ e (0,0))]:=by
  refine enterK (tb:=tb) Tryz.func211 rfl Tryz.ntmps211 rfl ?_
  repeat' (first|(apply R.is1;(apply R.pure;exact rfl;(apply Ok1.assign;exact rfl)))|apply R.nil|(apply T.is;first|apply T.seq|apply T.region|apply T.block))
  apply T.loopK (α:=Nat × Option Addr × Nat) (I:=fun x=>64 * x.1≤n∧n - 64 * x.1≤x.2.2∧Sfx p x.2.1 n (64 * x.1)) (σi:=fun x=>[(0,.pointer (some ⟨r,0,none⟩)),(1,.slice x.2.1 (n - 64 * x.1) x.2.2)]) (Li:=fun x=>[(r,.cells ⟨(allI kI x.1 b s).v++rest⟩ e (0,0))]) (μ:=fun x=>n - 64 * x.1) (i0:=(0,p,cap))
  · exact ⟨by omega,by simpa using hcap,Sfx.refl p n⟩
  · exact ⟨rfl,rfl,trivial⟩
  · (focus (repeat' first|exact Keep.nil _|exact Ext.one _ _|apply Keep.cons);done)
  · rintro ⟨i,p1,c1⟩ ⟨hi,hc,hs⟩
    simp only at hi hc hs ⊢
    by_cases hlt:64 * i+64≤n
    · have hst:=allI_step b s (i:=i) (by omega)
      have hmix:∀ w1,Chg [r] w w1→CallM Tryz.prog 251 [.pointer (some ⟨r,0,none⟩),.slice p1 64 c1] [(r,.cells ⟨(allI kI i b s).v++rest⟩ e (0,0))] w1 fun v L=>v = .tuple #[]∧L=[(r,.cells ⟨(allI kI (i+1) b s).v++rest⟩ e (0,0))]:=by
        intro w1 hch
        rw [hst]
        have hrd:=(hs.rd w1 b hn.symm (hp.chg hch hoff)).pre u8V_len 64
        exact mix_ok r _ rest e p1 64 c1 ((b.drop (64 * i)).take 64) (by rw [List.length_take,List.length_drop];omega) (by rw [List.length_take,List.length_drop];omega) (by omega) ((hb.drop _).take _) w1 hrd (hs.off _ hoff)
      have hnew:Sfx p (sufP p1 c1 64 1) n (64 * i+64):=hs.suf (by omega) (by omega)
      repeat' (first|(apply R.is1;first|(apply R.isBin;(apply R.pure;exact rfl;(apply Ok1.geq_t;exact rfl;exact rfl;omega)))|(apply R.isCall;first|(apply R.callE;(iterate 3 exact rfl);exact Ext.all _;intro w1 hw1;exact hmix w1 hw1.chg;rintro v Lo ⟨rfl,rfl⟩)|(apply R.pure;exact rfl;(apply Ok1.lenS;(iterate 3 exact rfl))))|(apply R.pure;exact rfl;first|(apply Ok1.preR (i:=64);(iterate 5 exact rfl);omega)|(apply Ok1.sufR (i:=64) (sz:=1);(iterate 6 exact rfl);omega;omega)|(apply Ok1.move;exact rfl)|(apply Ok1.assign;exact rfl)))|apply R.nil|(apply T.is;first|apply T.seq|apply T.region|apply T.block|apply T.skip|(apply T.cond_t;exact rfl)))
      refine ⟨(i+1,sufP p1 c1 64 1,c1 - 64),⟨by simp only;omega,by simp only;omega,hnew⟩,by simp only;omega,⟨rfl,?_,trivial⟩,by (focus (repeat' first|exact Keep.nil _|exact Ext.one _ _|apply Keep.cons);done)⟩
      rw [show n - 64 * (i+1)=n - 64 * i - 64 by omega]
      rfl
    · have hdiv:n / 64=i:=by omega
      repeat' (first|(apply R.is1;first|(apply R.isBin;(apply R.pure;exact rfl;(apply Ok1.geq_f;exact rfl;exact rfl;omega)))|(apply R.isCall;(apply R.pure;exact rfl;(apply Ok1.lenS;(iterate 3 exact rfl))))|(apply R.pure;exact rfl;first|(apply Ok1.move;exact rfl)|(apply Ok1.assign;exact rfl)))|apply R.nil|(apply T.is;first|apply T.seq|apply T.region|apply T.exit|apply T.ret|(apply T.cond_f;exact rfl)))
      (apply RetOk.t;exact rfl)
      refine ⟨_,?_,p1,c1,by rw [hdiv],by rw [hdiv];exact hc,by rw [hdiv];exact hs,rfl⟩
      rw [hdiv]
      (focus (repeat' first|exact Keep.nil _|exact Ext.one _ _|apply Keep.cons);done)
theorem u8_mod (i:Int):IntKind.u8.wrap i=i % 256:=by simp [IntKind.wrap,IntKind.bits,IntKind.signed]
theorem out_ok (r:Nat) (s:H8) (rest:List Value) (e:TypeId) (fz:Nat × Nat) (w:World) (hb:w.heap[r]? = some (.cells ⟨s.v++rest⟩ e fz)):CallW Tryz.prog 214 [.pointer (some ⟨r,0,none⟩)] w fun v _=>v = .agg ⟨u8s (outI s)⟩:=by
  have hsv:subE (s.v++rest) 0 8=some s.v:=subE_app _ _ rfl
  refine enterW (tb:=tb) Tryz.func214 rfl Tryz.ntmps214 rfl ?_
  repeat' (first|(apply R.is1;first|(apply R.pure;exact rfl;first|(apply Ok1.load;exact rfl;apply Ld.blkk;exact rfl;exact rfl;exact hb;exact List.not_mem_nil;exact hsv)|(apply Ok1.move;exact rfl)|(apply Ok1.fieldAddr;(iterate 5 exact rfl))|(apply Ok1.nilCheck;exact rfl))|(apply R.alloc;(iterate 3 exact rfl);intro))|apply R.nil|(apply T.is;first|apply T.seq|apply T.region|apply T.block))
  simp only [H8.v,H8.l,u32s,List.map_cons,List.map_nil]
  repeat' (first|(apply R.is1;first|(apply R.isBin;(apply R.pure;exact rfl;first|(apply Ok1.add64;exact rfl;exact rfl;omega;omega)|(apply Ok1.lss_t;exact rfl;exact rfl;omega)|(apply Ok1.lss_f;exact rfl;exact rfl;omega)|(apply Ok1.mul64;exact rfl;exact rfl;omega;omega)|(apply Ok1.shr;exact rfl;exact rfl;omega;exact Nat.le_of_ble_eq_true rfl;(first|exact pwE8|exact pwE16|exact pwE24))))|(apply R.pure;exact rfl;first|(apply Ok1.move;exact rfl)|(apply Ok1.load;exact rfl;(apply Ld.ownk;exact rfl;exact rfl;exact At.head;exact rfl))|(apply Ok1.assign;exact rfl)|(apply Ok1.indexAddrA;(iterate 5 exact rfl);omega;omega)|(apply Ok1.index1;(iterate 6 exact rfl);omega;omega;exact rfl)|(apply Ok1.conv;(iterate 5 exact rfl))))|(apply R.is0;(apply R.store;(iterate 6 exact rfl);(focus (repeat' first|exact Upd.head|apply Upd.tail);done);exact rfl))|apply R.nil|(apply T.is;first|apply T.rounds 9|apply T.seq|apply T.region|apply T.block|apply T.skip|apply T.exit|apply T.ret|(apply T.cond_t;exact rfl)|(apply T.cond_f;exact rfl)))
  (apply RetOk.c;exact rfl;((apply Ld.ownk;exact rfl;exact rfl;(focus (repeat' first|exact At.head|apply At.tail);done);exact rfl)))
  simp only [u8_mod]
  rfl
theorem rdnone {n:Nat} {xs:List Int} {w:World} (hn:n=xs.length) (h:RdSl w none u8V xs):n=0:=by
  rcases h with h|⟨b,o,h,_⟩
  · rw [hn,h];rfl
  · cases h
theorem clone_ok (p:Option Addr) (n cap:Nat) (xs:List Int) (hn:n=xs.length) (hbig:n≤1000000000) (w:World) (hp:RdSl w p u8V xs):CallM Tryz.prog 98 [.slice p n cap] [] w fun v L=>∃ ov,OvOk 1 ov n (u8s xs)∧ov.isSome=p.isSome∧v=slV ov n∧L=blkL 5 ov (u8s xs):=by
  refine enterK (tb:=tb) Tryz.func98 rfl Tryz.ntmps98 rfl ?_
  cases p with
  | none =>
    have h0:=rdnone hn hp
    have hx:xs=[]:=List.eq_nil_of_length_eq_zero (by omega)
    subst hx
    repeat' (first|(apply R.is1;first|(apply R.isBin;(apply R.pure;exact rfl;(apply Ok1.eqlS;(iterate 5 exact rfl))))|(apply R.pure;exact rfl;first|(apply Ok1.move;exact rfl)|(apply Ok1.assign;exact rfl)))|apply R.nil|(apply T.is;first|apply T.seq|apply T.region|apply T.ret|(apply T.cond_t;exact rfl)))
    (apply RetOk.t;exact rfl)
    exact ⟨_,by (focus ((repeat' (exact Keep.nil _));done)),none,by rw [h0];exact OvOk.start 1,rfl,rfl,rfl⟩
  | some a =>
    repeat' (first|(apply R.is1;first|(apply R.buildSlice0;(iterate 4 exact rfl);intro b0)|(apply R.isBin;(apply R.pure;exact rfl;(apply Ok1.eqlS;(iterate 5 exact rfl))))|(apply R.isCall;(apply R.appendRd (xs:=xs) (v:=u8V) (sz:=1) (ov:=some (b0,0,[])) (n:=0) (old:=[]);(iterate 12 exact rfl);exact ⟨rfl,rfl⟩;(focus ((repeat' (exact Ext.one _ _));done));exact hn;exact u8V_len;exact rfl;(intro w1 hw1;exact hp.chg hw1.chg (Off.nil _));(focus (rw [fl_u8];exact u8s_one xs));omega;intro ov1 hov1 hsome))|(apply R.pure;exact rfl;first|(apply Ok1.move;exact rfl)|(apply Ok1.assign;exact rfl)))|apply R.nil|(apply T.is;first|apply T.seq|apply T.region|apply T.skip|apply T.ret|(apply T.cond_f;exact rfl)))
    rw [Nat.zero_add,List.nil_append,fl_u8] at hov1
    rw [Nat.zero_add,List.nil_append,fl_u8]
    repeat' (fail)
    (apply RetOk.t;exact rfl)
    refine ⟨_,?_,ov1,hov1,by rw [hsome rfl];rfl,rfl,rfl⟩
    (focus (repeat' first|exact Ext.here _ _|apply Keep.last);done)
theorem grow_ok (n:Nat) (hbig:n≤1000000000) (w:World):CallM Tryz.prog 146 [.slice none 0 0,.int .i64 n] [] w fun v L=>∃ ov,OvOk 1 ov 0 []∧v=slV ov 0∧L=blkL 5 ov []:=by
  refine enterK (tb:=tb) Tryz.func146 rfl Tryz.ntmps146 rfl ?_
  rcases Nat.eq_zero_or_pos n with h0|h0
  · subst h0
    repeat' (first|(apply R.is1;first|(apply R.isBin;(apply R.pure;exact rfl;first|(apply Ok1.sub64;exact rfl;exact rfl;omega;omega)|(apply Ok1.lss_f;exact rfl;exact rfl;omega)|(apply Ok1.gtr_f;exact rfl;exact rfl;omega)))|(apply R.isCall;(apply R.pure;exact rfl;(apply Ok1.lenS;(iterate 3 exact rfl))))|(apply R.pure;exact rfl;first|(apply Ok1.capS;(iterate 3 exact rfl))|(apply Ok1.move;exact rfl)|(apply Ok1.assign;exact rfl)))|apply R.nil|(apply T.is;first|apply T.seq|apply T.region|apply T.skip|apply T.ret|(apply T.cond_f;exact rfl)))
    (apply RetOk.t;exact rfl)
    exact ⟨_,by (focus ((repeat' (exact Keep.nil _));done)),none,OvOk.start 1,rfl,rfl⟩
  · repeat' (first|(apply R.is1;first|(apply R.isBin;(apply R.pure;exact rfl;first|(apply Ok1.sub64;exact rfl;exact rfl;omega;omega)|(apply Ok1.lss_f;exact rfl;exact rfl;omega)|(apply Ok1.gtr_t;exact rfl;exact rfl;omega)))|(apply R.isCall;first|(apply R.growMk (n:=n);(iterate 12 exact rfl);omega;omega;intro b0 j0)|(apply R.pure;exact rfl;(apply Ok1.lenS;(iterate 3 exact rfl))))|(apply R.pure;exact rfl;first|(apply Ok1.capS;(iterate 3 exact rfl))|(apply Ok1.move;exact rfl)|(apply Ok1.assign;exact rfl)|(apply Ok1.slice0;(iterate 7 exact rfl);(refine ⟨?_,?_,?_⟩<;>omega);(exact Or.inl rfl))|(apply Ok1.sliceTo;(iterate 6 exact rfl);omega;omega;omega;(exact Or.inl rfl))))|apply R.nil|(apply T.is;first|apply T.seq|apply T.region|apply T.skip|apply T.ret|(apply T.cond_t;exact rfl)|(apply T.cond_f;exact rfl)))
    (apply RetOk.t;exact rfl)
    refine ⟨_,?_,some (b0,n+j0,List.replicate (n+j0) (.int .u8 0)),⟨rfl,by simp⟩,by simp [slV];omega,rfl⟩
    simp only [blkL,List.nil_append]
    (focus (repeat' first|exact Keep.nil _|exact Ext.one _ _|apply Keep.cons);done)
/-- A part: a slice of bytes. -/
structure Pt where
  p:Option Addr
  cap:Nat
  xs:List Int
deriving Inhabited
def Pt.v (x:Pt):List Value:=[.slice x.p x.xs.length x.cap]
theorem Pt.v_len (x:Pt):x.v.length=1:=rfl
def cat (ps:List Pt):List Int:=ps.flatMap (·.xs)
theorem cat_nil:cat []=[]:=rfl
theorem cat_snoc {ps:List Pt} {i:Nat} {x:Pt} (h:ps[i]? = some x):cat (ps.take (i+1))=cat (ps.take i)++x.xs:=by
  unfold cat
  rw [List.take_add_one,h,List.flatMap_append]
  simp
theorem cat_le (ps:List Pt) (i:Nat):(cat (ps.take i)).length≤(cat ps).length:=by
  conv=>rhs;rw [← List.take_append_drop i ps]
  unfold cat
  rw [List.flatMap_append,List.length_append]
  omega
theorem concat_ok (p:Option Addr) (n cap:Nat) (ps:List Pt) (hn:n=ps.length) (hbig:(cat ps).length≤1000000000) (hbig2:n≤1000000000) (w:World) (hp:RdSl w p Pt.v ps) (hall:∀ x∈ps,RdSl w x.p u8V x.xs) :
    CallM Tryz.prog 71 [.slice p n cap] [] w fun v L=>∃ ov,OvOk 1 ov (cat ps).length (u8s (cat ps))∧v=slV ov (cat ps).length∧L=blkL 5 ov (u8s (cat ps)):=by
  subst hn
  refine enterK (tb:=tb) Tryz.func71 rfl Tryz.ntmps71 rfl ?_
  repeat' (first|(apply R.is1;first|(apply R.isCall;(apply R.pure;exact rfl;(apply Ok1.lenS;(iterate 3 exact rfl))))|(apply R.pure;exact rfl;first|(apply Ok1.move;exact rfl)|(apply Ok1.assign;exact rfl)))|apply R.nil|(apply T.is;first|apply T.seq|apply T.region|apply T.block))
  apply T.loopK (α:=Nat) (I:=fun i=>i≤ps.length) (σi:=fun i=>[(0,.slice p ps.length cap),(3,.int .i64 (cat (ps.take i)).length),(9,.slice p ps.length cap),(10,.int .i64 ps.length),(11,.int .i64 i)]) (Li:=fun _=>[]) (μ:=fun i=>ps.length - i) (i0:=0)
  · exact Nat.zero_le _
  · exact ⟨rfl,rfl,rfl,rfl,rfl,trivial⟩
  · (focus ((repeat' (exact Keep.nil _));done))
  · intro i hi
    have hle:=cat_le ps i
    rcases Nat.lt_or_ge i ps.length with hlt|hge
    · obtain ⟨x,hx⟩:∃ x,ps[i]? = some x:=⟨_,List.getElem?_eq_getElem (by omega)⟩
      obtain ⟨b,o,hpe,H⟩:=hp.at hx
      replace H:=H 1 Pt.v_len
      have hs:=cat_snoc hx
      have hl:=congrArg List.length hs
      rw [List.length_append] at hl
      have hle2:=cat_le ps (i+1)
      repeat' (first|(apply R.is1;first|(apply R.isBin;(apply R.pure;exact rfl;first|(apply Ok1.add64;exact rfl;exact rfl;omega;omega)|(apply Ok1.lss_t;exact rfl;exact rfl;omega)|(apply Ok1.lss_f;exact rfl;exact rfl;omega)))|(apply R.isCall;(apply R.pure;exact rfl;(apply Ok1.lenS;(iterate 3 exact rfl))))|(apply R.pure;exact rfl;first|(apply Ok1.indexAddrP;(iterate 4 exact rfl);exact hpe;exact rfl;omega;omega)|(apply Ok1.load;exact rfl;apply Ld.row0 H;exact rfl;exact List.not_mem_nil;(iterate 3 exact rfl))|(apply Ok1.move;exact rfl)|(apply Ok1.assign;exact rfl)))|apply R.nil|(apply T.is;first|apply T.seq|apply T.region|apply T.block|apply T.skip|(apply T.cond_t;exact rfl)|(apply T.cond_f;exact rfl)))
      refine ⟨i+1,by omega,by omega,⟨rfl,?_,rfl,rfl,rfl,trivial⟩,by (focus ((repeat' (exact Keep.nil _));done))⟩
      rw [hl]
      rfl
    · have him:i=ps.length:=by omega
      subst him
      rw [List.take_length]
      have hgr:=fun w1=>grow_ok (cat ps).length hbig w1
      repeat' (first|(apply R.is1;first|(apply R.isBin;(apply R.pure;exact rfl;(apply Ok1.lss_f;exact rfl;exact rfl;omega)))|(apply R.isCall;first|(apply R.callE;(iterate 3 exact rfl);exact Ext.none _;intro w1 hw1;exact hgr w1;rintro v Lo ⟨ov0,hov0,rfl,rfl⟩)|(apply R.pure;exact rfl;(apply Ok1.lenS;(iterate 3 exact rfl))))|(apply R.pure;exact rfl;first|(apply Ok1.move;exact rfl)|(apply Ok1.assign;exact rfl)))|apply R.nil|(apply T.is;first|apply T.seq|apply T.region|apply T.block|apply T.exit|(apply T.cond_f;exact rfl)))
      apply T.loopK (α:=Nat × Ov) (I:=fun y=>y.1≤ps.length∧OvOk 1 y.2 (cat (ps.take y.1)).length (u8s (cat (ps.take y.1)))) (σi:=fun y=>[(6,slV y.2 (cat (ps.take y.1)).length),(25,.slice p ps.length cap),(26,.int .i64 ps.length),(27,.int .i64 y.1)]) (Li:=fun y=>blkL 5 y.2 (u8s (cat (ps.take y.1)))) (μ:=fun y=>ps.length - y.1) (i0:=(0,ov0))
      · exact ⟨Nat.zero_le _,hov0⟩
      · exact ⟨rfl,rfl,rfl,rfl,trivial⟩
      · simp only [List.take_zero,cat_nil]
        change Keep _ (blkL 5 ov0 [])
        (focus (repeat' first|exact Ext.here _ _|apply Keep.last);done)
      · rintro ⟨i,ov⟩ ⟨hi,hov⟩
        simp only at hi hov ⊢
        rcases Nat.lt_or_ge i ps.length with hlt|hge
        · obtain ⟨x,hx⟩:∃ x,ps[i]? = some x:=⟨_,List.getElem?_eq_getElem (by omega)⟩
          obtain ⟨b,o,hpe,H⟩:=hp.at hx
          replace H:=H 1 Pt.v_len
          have hs:=cat_snoc hx
          have hl:=congrArg List.length hs
          rw [List.length_append] at hl
          have hle2:=cat_le ps (i+1)
          have hrd:=hall x (List.mem_of_getElem? hx)
          repeat' (first|(apply R.is1;first|(apply R.isBin;(apply R.pure;exact rfl;first|(apply Ok1.add64;exact rfl;exact rfl;omega;omega)|(apply Ok1.lss_t;exact rfl;exact rfl;omega)))|(apply R.isCall;(apply R.appendRd (xs:=x.xs) (v:=u8V) (sz:=1) (ov:=ov) (n:=(cat (ps.take i)).length) (old:=u8s (cat (ps.take i)));(iterate 12 exact rfl);exact hov;(focus ((repeat' (exact Ext.all _));done));exact rfl;exact u8V_len;exact rfl;(intro w1 hw1;exact hrd.chg hw1.chg (Off.nil _));(focus (rw [fl_u8];exact u8s_one x.xs));omega;intro ov1 hov1 hsome))|(apply R.pure;exact rfl;first|(apply Ok1.indexAddrP;(iterate 4 exact rfl);exact hpe;exact rfl;omega;omega)|(apply Ok1.load;exact rfl;apply Ld.row0 H;exact rfl;exact List.not_mem_nil;(iterate 3 exact rfl))|(apply Ok1.move;exact rfl)|(apply Ok1.assign;exact rfl)))|apply R.nil|(apply T.is;first|apply T.seq|apply T.region|apply T.block|apply T.skip|(apply T.cond_t;exact rfl)))
          rw [fl_u8,← u8s_app,← hs,← hl] at hov1
          rw [fl_u8,← u8s_app,← hs,← hl]
          repeat' (fail)
          exact ⟨(i+1,ov1),⟨by simp only;omega,hov1⟩,by simp only;omega,⟨rfl,rfl,rfl,rfl,trivial⟩,by (focus (repeat' first|exact Ext.here _ _|apply Keep.last);done)⟩
        · have him:i=ps.length:=by omega
          subst him
          rw [List.take_length] at hov ⊢
          repeat' (first|(apply R.is1;first|(apply R.isBin;(apply R.pure;exact rfl;(apply Ok1.lss_f;exact rfl;exact rfl;omega)))|(apply R.pure;exact rfl;first|(apply Ok1.move;exact rfl)|(apply Ok1.assign;exact rfl)))|apply R.nil|(apply T.is;first|apply T.seq|apply T.region|apply T.exit|apply T.ret|(apply T.cond_f;exact rfl)))
          (apply RetOk.t;exact rfl)
          exact ⟨_,by (focus (repeat' first|exact Ext.all _|apply Keep.last);done),ov,hov,rfl,rfl⟩
/-- A running digest: on,its words;what is left of it lies in a slice of one's own,from k on. -/
structure RS where
  on:Bool
  s:H8
  ov:Ov
  xs:List Int
  p:Option Addr
  cap:Nat
  k:Nat
  lf:List Int
  n:Nat
def rnC (st:RS):List Value:=[.bool st.on,.slice st.p st.lf.length st.cap,.int .i64 st.n]
def RL (r:Nat) (st:RS):Lst:=(r,.cells ⟨st.s.v++rnC st⟩ 312 (0,0))::blkL 5 st.ov (u8s st.xs)
structure RuI (st:RS) (b:List Int):Prop where
  ov:OvOk 1 st.ov st.xs.length (u8s st.xs)
  sfx:Sfx (ovp st.ov) st.p st.xs.length st.k
  lf:st.lf=st.xs.drop st.k
  cap:st.lf.length≤st.cap
  n:st.n=b.length
  left:st.lf=leftI b
  byt:Byt b
  words:st.on=true→st.s=wordsI b
  off:st.on=false→b=[]
theorem CallM.imp {P:Program} {f:FuncId} {vs:List Value} {L:Lst} {w:World} {R R':Value→Lst→Prop} (h:CallM P f vs L w R) (hr:∀ v L,R v L→R' v L):CallM P f vs L w R' :=
  ⟨fun hw=>(h.run hw).mono fun e w' ⟨v,L',h1,h2,h3⟩=>⟨v,L',h1,hr _ _ h2,h3⟩⟩
theorem all_own (r:Nat) (s:H8) (rest:List Value) (e e2:TypeId) {ov:Ov} (b:List Int) {n:Nat} (hov:OvOk 1 ov n (u8s b)) (hbig:n≤1073741824) (hb:Byt b) {w0 w:World} {S:List Nat} {L Lr:Lst} (hw:Hp w0 S L w) (he:Ext L [(r,.cells ⟨s.v++rest⟩ e (0,0))] Lr) (hin:∀ x∈blkL e2 ov (u8s b),x∈Lr) :
    CallM Tryz.prog 211 [.pointer (some ⟨r,0,none⟩),slV ov n] [(r,.cells ⟨s.v++rest⟩ e (0,0))] w fun v L=>∃ s2 p' cap',s2=allI kI (n / 64) b s∧v = .slice p' (n - 64 * (n / 64)) cap' ∧ n - 64 * (n / 64)≤cap' ∧ Sfx (ovp ov) p' n (64 * (n / 64))∧L=[(r,.cells ⟨s2.v++rest⟩ e (0,0))]:=by
  have hl:n=b.length:=by have:=hov.1;rw [u8s_len] at this;omega
  have hov':=hov
  rw [slV_eq hov]
  rw [← fl_u8] at hov' hin
  subst hl
  refine CallM.imp (all_ok r s rest e (ovp ov) b.length _ b rfl ?_ hbig hb w (RdSl.own' hw (fun x hx=>he.perm.subset (List.mem_append_right _ (hin x hx))) hov' u8V_len) ?_) fun v L ⟨p',cap',h1,h2,h3,h4⟩=>⟨_,p',cap',rfl,h1,h2,h3,h4⟩
  · cases ov with
    | none=>have:b.length=0:=hov.2;simp [ovc,this]
    | some z=>simp [ovc]
  · cases ov with
    | none=>intro a ha;cases ha
    | some z=>obtain ⟨b0,j,junk⟩:=z;intro a ha;cases ha;exact RdSl.off hw he (hin _ List.mem_cons_self)
theorem rAdd_ok (r:Nat) (st:RS) (b:List Int) (hI:RuI st b) (pp:Option Addr) (m cap:Nat) (ps:List Pt) (hm:m=ps.length) (hbyt:Byt (cat ps)) (hbig:(b++cat ps).length≤1000000000) (hm2:m≤1000000000) (w:World) (hp:RdSl w pp Pt.v ps) (hoff:ps≠[]→Off pp (blks (RL r st))) (hall:∀ x∈ps,RdSl w x.p u8V x.xs∧(x.xs≠[]→Off x.p (blks (RL r st)))) :
    CallM Tryz.prog 165 [.pointer (some ⟨r,0,none⟩),.slice pp m cap] (RL r st) w fun v L=>∃ st',v = .pointer (some ⟨r,0,none⟩)∧L=RL r st' ∧ RuI st' (b++cat ps)∧st'.on=true:=by
  subst hm
  refine enterK (tb:=tb) Tryz.func165 rfl Tryz.ntmps165 rfl ?_
  obtain ⟨S,hS⟩:∃ S,S=blks (RL r st):=⟨_,rfl⟩
  rw [← hS] at hoff hall ⊢
  rw [List.length_append] at hbig
  repeat' (first|(apply R.is1;first|(apply R.isBin;(apply R.pure;exact rfl;(apply Ok1.eqlP;(iterate 5 exact rfl))))|(apply R.pure;exact rfl;first|(apply Ok1.move;exact rfl)|(apply Ok1.fieldAddr;(iterate 5 exact rfl))|(apply Ok1.load;exact rfl;(apply Ld.own1;exact rfl;exact rfl;exact At.head;exact rfl))|(apply Ok1.assign;exact rfl)|(apply Ok1.not;exact rfl)|(apply Ok1.nilCheck;exact rfl)))|apply R.nil|(apply T.is;first|(refine T.meetK (x:=.seq (.region 3 _ _) _) (α:=RS) (I:=fun x=>RuI x b∧x.on=true) (σi:=fun x=>[(0,.pointer (some ⟨r,0,none⟩)),(1,.slice pp ps.length cap)]) (Li:=fun x=>RL r x) ?_ ?_)|apply T.seq|apply T.region|apply T.skip|(apply T.cond_f;exact rfl)|(apply T.cond rfl<;>intro)))
  · have hof:st.on=false:=by simpa using ‹(!st.on)=true›
    simp only [RL,rnC,H8.v,H8.l,u32s,List.map_cons,List.map_nil,List.cons_append,List.nil_append]
    repeat' (first|(apply R.is1;first|(apply R.isCall;apply R.callP rfl rfl rfl begun_ok)|(apply R.pure;exact rfl;first|(apply Ok1.fieldAddr;(iterate 5 exact rfl))|(apply Ok1.nilCheck;exact rfl)))|(apply R.is0;(apply R.store;(iterate 6 exact rfl);exact Upd.head;exact rfl))|apply R.nil)
    refine ⟨⟨true,h0I,st.ov,st.xs,st.p,st.cap,st.k,st.lf,st.n⟩,⟨⟨hI.ov,hI.sfx,hI.lf,hI.cap,hI.n,hI.left,hI.byt,fun _=>by rw [hI.off hof];rfl,fun h=>by cases h⟩,rfl⟩,⟨rfl,rfl,trivial⟩,?_⟩
    (focus (repeat' first|exact Ext.one _ _|exact Ext.all _|apply Keep.cons|apply Keep.last);done)
  · have hof:st.on=true:=by simpa using ‹(!st.on)=false›
    exact ⟨st,⟨hI,hof⟩,⟨rfl,rfl,trivial⟩,by (focus (repeat' first|exact Ext.one _ _|exact Ext.all _|apply Keep.cons|apply Keep.last);done)⟩
  · clear hI hS
    rintro st0 ⟨hI0,hon0⟩
    repeat' (first|(apply R.is1;first|(apply R.isCall;(apply R.pure;exact rfl;(apply Ok1.lenS;(iterate 3 exact rfl))))|(apply R.pure;exact rfl;(apply Ok1.move;exact rfl)))|apply R.nil|(apply T.is;first|apply T.seq|apply T.region|apply T.block))
    apply T.loopK (α:=Nat × RS) (I:=fun y=>y.1≤ps.length∧RuI y.2 (b++cat (ps.take y.1))∧y.2.on=true) (σi:=fun y=>[(0,.pointer (some ⟨r,0,none⟩)),(21,.slice pp ps.length cap),(22,.int .i64 ps.length),(23,.int .i64 y.1)]) (Li:=fun y=>RL r y.2) (μ:=fun y=>ps.length - y.1) (i0:=(0,st0))
    · exact ⟨Nat.zero_le _,by simpa [cat_nil] using hI0,hon0⟩
    · exact ⟨rfl,rfl,rfl,rfl,trivial⟩
    · (focus (repeat' first|exact Ext.one _ _|exact Ext.all _|apply Keep.cons|apply Keep.last);done)
    · rintro ⟨i,s1⟩ ⟨hi,hI1,hon1⟩
      simp only at hi hI1 hon1 ⊢
      rcases Nat.lt_or_ge i ps.length with hlt|hge
      · obtain ⟨x,hx⟩:∃ x,ps[i]? = some x:=⟨_,List.getElem?_eq_getElem (by omega)⟩
        obtain ⟨hrd,hxo⟩:=hall x (List.mem_of_getElem? hx)
        obtain ⟨b',o',hpe,H⟩:=hp.at hx
        replace H:=H 1 Pt.v_len
        have hbS:=hoff (by intro h;rw [h] at hlt;simp at hlt) _ hpe
        have hs:=cat_snoc hx
        have hl:=congrArg List.length hs
        rw [List.length_append] at hl
        have hle2:=cat_le ps (i+1)
        have hbx:Byt x.xs:=fun y hy=>hbyt y (List.mem_flatMap.2 ⟨x,List.mem_of_getElem? hx,hy⟩)
        have hB:b++cat (ps.take (i+1))=(b++cat (ps.take i))++x.xs:=by rw [hs,List.append_assoc]
        have hBl:(b++cat (ps.take (i+1))).length=(b++cat (ps.take i)).length+x.xs.length:=by rw [hB,List.length_append]
        have hBle:(b++cat (ps.take (i+1))).length≤1000000000:=by rw [List.length_append];omega
        generalize b++cat (ps.take i)=B at *
        obtain ⟨on,s,ov,xs,p1,cap1,k,lf,n⟩:=s1
        obtain ⟨hov,hsfx,hlf,hcap1,hn,hleft,hbB,hw',_⟩:=hI1
        simp only at hov hsfx hlf hcap1 hn hleft hw' hon1
        subst hon1
        have hfeed:=feed B x.xs
        rw [← hleft,← hw' rfl] at hfeed
        have hll:=left_len B
        rw [← hleft] at hll
        have hbl:Byt (lf++x.xs):=(by rw [hleft];exact hbB.drop _:Byt lf).app hbx
        have hrl:∀ {w0 w1:World} {S:List Nat} {L:Lst},Hp w0 S L w1→(∀ x∈blkL 5 ov (u8s xs),x∈L)→RdSl w1 p1 u8V lf:=fun hw1 hin=>by
          rw [hlf]
          refine hsfx.rd _ xs rfl ?_
          rw [← fl_u8] at hin hov
          exact RdSl.own' hw1 hin hov u8V_len
        have hcat:cat [⟨p1,cap1,lf⟩,x]=lf++x.xs:=by simp [cat]
        have hln:(lf++x.xs).length=lf.length+x.xs.length:=List.length_append
        simp only [RL,rnC,H8.v,H8.l,u32s,List.map_cons,List.map_nil,List.cons_append,List.nil_append]
        repeat' (first|(apply R.is1;first|(apply R.isBin;(apply R.pure;exact rfl;first|(apply Ok1.add64;exact rfl;exact rfl;omega;omega)|(apply Ok1.lss_t;exact rfl;exact rfl;omega)))|(apply R.isCall;(apply R.pure;exact rfl;(apply Ok1.lenS;(iterate 3 exact rfl))))|(apply R.pure;exact rfl;first|(apply Ok1.indexAddrP;(iterate 4 exact rfl);exact hpe;exact rfl;omega;omega)|(apply Ok1.load;exact rfl;apply Ld.row0 H;exact rfl;exact hbS;(iterate 3 exact rfl))|(apply Ok1.move;exact rfl)|(apply Ok1.fieldAddr;(iterate 5 exact rfl))|(apply Ok1.load;exact rfl;(apply Ld.own1;exact rfl;exact rfl;exact At.head;exact rfl))|(apply Ok1.assign;exact rfl)|(apply Ok1.nilCheck;exact rfl)))|(apply R.is0;(apply R.store;(iterate 6 exact rfl);exact Upd.head;exact rfl))|apply R.nil|(apply T.is;first|(apply T.drawC (id:=9) [] (by decide);((apply A.tk 0;exact rfl;kernel_rfl;(apply Ok1.move;exact rfl))<;>(apply A.tk 1;exact rfl;kernel_rfl;(apply Ok1.move;exact rfl))<;>(apply A.tk 2;exact rfl;kernel_rfl;(apply Ok1.nilCheck;exact rfl))<;>(apply A.tk 3;exact rfl;kernel_rfl;(apply Ok1.fieldAddr;(iterate 5 exact rfl)))<;>(apply A.tk 4;exact rfl;kernel_rfl;(apply Ok1.move;exact rfl))<;>(apply A.tk 5;exact rfl;kernel_rfl;(apply Ok1.nilCheck;exact rfl))<;>(apply A.tk 6;exact rfl;kernel_rfl;(apply Ok1.fieldAddr;(iterate 5 exact rfl)))<;>(apply A.tk 8;exact rfl;kernel_rfl;(apply Ok1.move;exact rfl))<;>(apply A.one 7;kernel_rfl;exact rfl;(((apply R.pure;exact rfl;(apply Ok1.load;exact rfl;(apply Ld.own1;exact rfl;exact rfl;exact At.head;exact rfl)))));apply R.nil;refine ⟨?_,?_⟩;(focus ((repeat' (exact trivial)))))<;>(apply A.one 9;kernel_rfl;exact rfl;(((apply R.buildSlice;(iterate 12 exact rfl);intro)));apply R.nil;refine ⟨?_,?_⟩;(focus ((repeat' (exact trivial)))))<;>(apply A.one 10;kernel_rfl;exact rfl;(((apply R.callE;(iterate 3 exact rfl);exact Ext.none _;intro w1 hw1;have h9:=concat_ok (some ⟨_,0,none⟩) 2 2 [⟨p1,cap1,lf⟩,x] rfl (by rw [hcat];omega) (by omega) w1 (RdSl.of (v:=Pt.v) (rs:=[⟨p1,cap1,lf⟩,x]) (junk:=[]) hw1 (by exact At.head) rfl) (by intro y hy;rcases List.mem_cons.1 hy with rfl|hy;exact hrl hw1 (Ext.mem (by (focus (repeat' first|exact Ext.all _|apply Ext.cons);done)));rw [List.mem_singleton.1 hy];exact hrd.chg' hw1.chg hxo);rw [hcat] at h9;exact h9;rintro v Lo ⟨ovc,hovc,rfl,rfl⟩)));apply R.nil;refine ⟨?_,?_⟩;(focus ((repeat' (exact trivial)))))<;>(apply A.one 11;kernel_rfl;exact rfl;(((apply R.callE (Li:=[(r,.cells ⟨s.v++[.bool true,.slice p1 lf.length cap1,.int .i64 (n+x.xs.length)]⟩ 312 (0,0))]);(iterate 3 exact rfl);(focus (repeat' first|exact Ext.one _ _|apply Ext.cons|apply Ext.app);done);intro w1 hw1;exact all_own r s _ _ _ (lf++x.xs) hovc (by omega) hbl hw1 (by (focus (repeat' first|exact Ext.one _ _|apply Ext.cons|apply Ext.app);done)) (Ext.mem (by (focus ((repeat' (exact Ext.here _ _));done))));rintro v Lo ⟨s2,p',cap',hs2,rfl,hc2,hsf2,rfl⟩;simp only [H8.v,H8.l,u32s,List.map_cons,List.map_nil,List.cons_append,List.nil_append])));apply R.nil;refine ⟨?_,?_⟩;(focus ((repeat' (exact trivial)))))<;>(apply A.tk 12;exact rfl;kernel_rfl;(apply Ok1.nilCheck;exact rfl))<;>(apply A.tk 13;exact rfl;kernel_rfl;(apply Ok1.fieldAddr;(iterate 5 exact rfl)))<;>(apply A.one 14;kernel_rfl;exact rfl;(((apply R.store;(iterate 6 exact rfl);exact Upd.head;exact rfl)));apply R.nil;refine ⟨?_,?_⟩;(focus ((repeat' (exact trivial)))))<;>(apply A.done;kernel_rfl)))|apply T.seq|apply T.region|apply T.block|apply T.skip|(apply T.cond_t;exact rfl)))
        rw [← hs2] at hfeed
        refine ⟨(i+1,⟨true,s2,ovc,lf++x.xs,p',cap',64 * ((lf++x.xs).length / 64),(lf++x.xs).drop (64 * ((lf++x.xs).length / 64)),n+x.xs.length⟩),⟨by simp only;omega,?_,rfl⟩,by simp only;omega,⟨rfl,rfl,rfl,rfl,trivial⟩,?_⟩
        · rw [hB]
          exact ⟨hovc,hsf2,rfl,by simp only [List.length_drop];exact hc2,by simp only [List.length_append];omega,hfeed.2,hbB.app hbx,fun _=>hfeed.1,fun h=>by cases h⟩
        · simp only [RL,rnC,H8.v,H8.l,u32s,List.map_cons,List.map_nil,List.cons_append,List.nil_append,List.length_drop,Int.natCast_add]
          (focus (repeat' first|exact Ext.one _ _|exact Ext.here _ _|apply Keep.cons|apply Keep.last);done)
      · have him:i=ps.length:=by omega
        subst him
        rw [List.take_length] at hI1
        repeat' (first|(apply R.is1;first|(apply R.isBin;(apply R.pure;exact rfl;(apply Ok1.lss_f;exact rfl;exact rfl;omega)))|(apply R.pure;exact rfl;first|(apply Ok1.move;exact rfl)|(apply Ok1.assign;exact rfl)))|apply R.nil|(apply T.is;first|apply T.seq|apply T.region|apply T.exit|apply T.ret|(apply T.cond_f;exact rfl)))
        (apply RetOk.t;exact rfl)
        exact ⟨_,by (focus (repeat' first|exact Ext.one _ _|exact Ext.all _|apply Keep.cons|apply Keep.last);done),s1,rfl,rfl,hI1,hon1⟩
theorem rCopy_ok (r:Nat) (st:RS) (b:List Int) (hI:RuI st b) (hbig:b.length≤1000000000) (w:World) (hb:w.heap[r]? = some (.cells ⟨st.s.v++rnC st⟩ 312 (0,0))) (hl:RdSl w st.p u8V st.lf) :
    CallM Tryz.prog 213 [.pointer (some ⟨r,0,none⟩)] [] w fun v L=>∃ r' st',v = .pointer (some ⟨r',0,none⟩)∧L=RL r' st' ∧ RuI st' b:=by
  refine enterK (tb:=tb) Tryz.func213 rfl Tryz.ntmps213 rfl ?_
  have hll:=left_len b
  rw [← hI.left] at hll
  obtain ⟨on,s,ov,xs,p1,cap1,k,lf,n⟩:=st
  simp only [RL,rnC,H8.v,H8.l,u32s,List.map_cons,List.map_nil,List.cons_append,List.nil_append] at hb hl hll ⊢
  have hcl:=fun w1 (hc:Chg [] w w1)=>clone_ok p1 lf.length cap1 lf rfl (by omega) w1 (hl.chg hc (Off.nil _))
  repeat' (first|(apply R.is1;first|(apply R.isBin;(apply R.pure;exact rfl;(apply Ok1.eqlP;(iterate 5 exact rfl))))|(apply R.isCall;(apply R.callE;(iterate 3 exact rfl);exact Ext.none _;intro w1 hw1;exact hcl w1 hw1.chg;rintro v Lo ⟨ov2,hov2,hsome,rfl,rfl⟩;rw [slV_eq hov2]))|(apply R.pure;exact rfl;first|(apply Ok1.move;exact rfl)|(apply Ok1.fieldAddr;(iterate 5 exact rfl))|(apply Ok1.load;exact rfl;first|(apply Ld.blk1;exact rfl;exact rfl;assumption;(exact List.not_mem_nil);exact rfl)|(apply Ld.blkk;exact rfl;exact rfl;assumption;(exact List.not_mem_nil);exact rfl))|(apply Ok1.assign;exact rfl)|(apply Ok1.nilCheck;exact rfl))|(apply R.alloc;(iterate 3 exact rfl);intro))|(apply R.is0;(apply R.store;(iterate 6 exact rfl);(focus (repeat' first|exact Upd.head|apply Upd.right);done);exact rfl))|apply R.nil|(apply T.is;first|apply T.seq|apply T.region|apply T.skip|apply T.ret|(apply T.cond_f;exact rfl)))
  rename_i br
  (apply RetOk.t;exact rfl)
  refine ⟨_,?_,br,⟨on,s,ov2,lf,ovp ov2,ovc ov2 lf.length,0,lf,n⟩,rfl,rfl,⟨hov2,Sfx.refl _ _,rfl,?_,hI.n,hI.left,hI.byt,hI.words,hI.off⟩⟩
  · simp only [RL,rnC,H8.v,H8.l,u32s,List.map_cons,List.map_nil,List.cons_append,List.nil_append]
    (focus (repeat' first|exact Ext.one _ _|exact Ext.here _ _|apply Keep.cons|apply Keep.last|apply Ext.app);done)
  · simp only
    cases ov2 with
    | none=>have:lf.length=0:=hov2.2;simp [ovc,this]
    | some z=>simp [ovc]
theorem rdown {ov:Ov} {xs:List Int} {e:Nat} (hov:OvOk 1 ov xs.length (u8s xs)) {w0 w:World} {S:List Nat} {L:Lst} (hw:Hp w0 S L w) (hin:∀ x∈blkL e ov (u8s xs),x∈L):RdSl w (ovp ov) u8V xs:=by
  rw [← fl_u8] at hov hin
  exact RdSl.own' hw hin hov u8V_len
theorem RuI.rd {st:RS} {b:List Int} (hI:RuI st b) {w0 w:World} {S:List Nat} {L:Lst} (hw:Hp w0 S L w) (hin:∀ x∈blkL 5 st.ov (u8s st.xs),x∈L):RdSl w st.p u8V st.lf:=by
  rw [hI.lf]
  exact hI.sfx.rd _ _ rfl (rdown hI.ov hw hin)
theorem rSum_ok (r:Nat) (st:RS) (b:List Int) (hI:RuI st b) (hbig:b.length≤999999000) (w:World) (hb:w.heap[r]? = some (.cells ⟨st.s.v++rnC st⟩ 312 (0,0))) (hl:RdSl w st.p u8V st.lf) :
    CallW Tryz.prog 166 [.pointer (some ⟨r,0,none⟩)] w fun v _=>v = .agg ⟨u8s (shaI b)⟩:=by
  refine enterW (tb:=tb) Tryz.func166 rfl Tryz.ntmps166 rfl ?_
  have hcopy:=fun w1 (hc:Chg [] w w1)=>rCopy_ok r st b hI (by omega) w1 (hc.heap hb List.not_mem_nil) (hl.chg hc (Off.nil _))
  repeat' (first|(apply R.is1;first|(apply R.isBin;(apply R.pure;exact rfl;(apply Ok1.eqlP;(iterate 5 exact rfl))))|(apply R.isCall;(apply R.callE;(iterate 3 exact rfl);exact Ext.none _;intro w1 hw1;exact hcopy w1 hw1.chg;rintro v Lo ⟨r',st',rfl,rfl,hI'⟩))|(apply R.pure;exact rfl;(apply Ok1.move;exact rfl))|(apply R.alloc;(iterate 3 exact rfl);intro))|apply R.nil|(apply T.is;first|apply T.seq|apply T.region|apply T.skip|(apply T.cond_f;exact rfl)))
  repeat' (first|(apply R.is1;first|(apply R.isCall;(apply R.callE (Li:=RL r' st');(iterate 3 exact rfl);(focus ((repeat' (exact Ext.here _ _));done));intro w1 hw1;exact rAdd_ok r' st' b hI' none 0 0 [] rfl (by intro y hy;cases hy) (by rw [cat_nil,List.append_nil];omega) (by decide) w1 (.inl rfl) (fun h=>absurd rfl h) (by intro y hy;cases hy);rintro v Lo ⟨st2,rfl,rfl,hI2,hon2⟩;rw [cat_nil,List.append_nil] at hI2))|(apply R.pure;exact rfl;(apply Ok1.assign;exact rfl))|(apply R.buildSlice;(iterate 12 exact rfl);intro))|apply R.nil|(apply T.is;first|apply T.seq|apply T.region|apply T.block))
  rename_i bt b4
  have hl2:=left_len b
  rw [← hI2.left] at hl2
  have hIw:=hI2.words hon2
  have hn0:=hI.n
  obtain ⟨on2,s2,ov2,xs2,p2,cap2,k2,lf2,n2⟩:=st2
  obtain ⟨on0,s0,ov0,xs0,p0,cap0,k0,lf0,n0⟩:=st
  simp only at hl2 hIw hn0 hon2
  obtain ⟨Z,hZ⟩:∃ Z,Z=(119 - b.length % 64) % 64:=⟨_,rfl⟩
  simp only [rnC,H8.v,H8.l,u32s,List.map_cons,List.map_nil,List.cons_append,List.nil_append] at hb
  simp only [RL,rnC,H8.v,H8.l,u32s,List.map_cons,List.map_nil,List.cons_append,List.nil_append]
  apply T.loopK (α:=Nat × Ov) (I:=fun x=>x.1≤Z∧OvOk 1 x.2 (1+x.1) (u8s (128::List.replicate x.1 0))) (σi:=fun x=>[(0,.pointer (some ⟨r,0,none⟩)),(2,.pointer (some ⟨bt,0,none⟩)),(3,.pointer (some ⟨r',0,none⟩)),(4,slV x.2 (1+x.1))])
    (Li:=fun x=>(r',.cells ⟨[.int .u32 s2.a,.int .u32 s2.b,.int .u32 s2.c,.int .u32 s2.d,.int .u32 s2.e,.int .u32 s2.f,.int .u32 s2.g,.int .u32 s2.h,.bool on2,.slice p2 lf2.length cap2,.int .i64 n2]⟩ 312 (0,0))::(bt,.cells ⟨List.replicate 32 (.int .u8 0)⟩ 98 (0,0))::(blkL 5 x.2 (u8s (128::List.replicate x.1 0))++blkL 5 ov2 (u8s xs2))) (μ:=fun x=>Z - x.1) (i0:=(0,some (b4,0,[])))
  · exact ⟨Nat.zero_le _,rfl,rfl⟩
  · exact ⟨rfl,rfl,rfl,rfl,trivial⟩
  · (focus (repeat' first|exact Ext.one _ _|exact Ext.here _ _|exact Ext.all _|apply Keep.cons|apply Keep.app|apply Keep.last|apply Ext.cons|apply Ext.app);done)
  · rintro ⟨j,ov⟩ ⟨hj,hov⟩
    simp only at hj hov ⊢
    rcases Nat.lt_or_ge j Z with hlt|hge
    · have hne:((lf2.length:Int)+((1+j:Nat):Int)+8) % 64≠0:=by omega
      repeat' (first|(apply R.is1;first|(apply R.isBin;(apply R.pure;exact rfl;first|(apply Ok1.add64;exact rfl;exact rfl;omega;omega)|(apply Ok1.neq_t;exact rfl;exact rfl;omega)|(apply Ok1.remN;exact rfl;exact rfl;omega;omega)))|(apply R.isCall;first|(apply R.pure;exact rfl;apply Ok1.lenOv;(iterate 3 exact rfl);exact hov)|(apply R.append1;(iterate 12 exact rfl);(focus (repeat' first|exact OwnAt.mid hov|apply OwnAt.tail);done);exact At.head;exact rfl;exact rfl;omega;omega;intro b2 j2 k2 hj2)|(apply R.pure;exact rfl;(apply Ok1.lenS;(iterate 3 exact rfl))))|(apply R.pure;exact rfl;first|(apply Ok1.move;exact rfl)|(apply Ok1.fieldAddr;(iterate 5 exact rfl))|(apply Ok1.load;exact rfl;(apply Ld.own1;exact rfl;exact rfl;exact At.head;exact rfl))|(apply Ok1.assign;exact rfl)|(apply Ok1.nilCheck;exact rfl))|(apply R.buildSlice;(iterate 12 exact rfl);intro))|apply R.nil|(apply T.is;first|apply T.seq|apply T.region|apply T.block|apply T.skip|(apply T.cond_t;exact rfl)))
      have hov':=hov.some (b:=b2) (ys:=[.int .u8 0]) (m:=1) rfl hj2
      have hu:u8s (128::List.replicate (j+1) 0)=u8s (128::List.replicate j 0)++[.int .u8 0]:=by rw [List.replicate_succ'];simp [u8s]
      refine ⟨(j+1,some (b2,j2,k2)),⟨by simp only;omega,by simp only [hu];exact hov'⟩,by simp only;omega,⟨rfl,rfl,rfl,rfl,trivial⟩,?_⟩
      simp only [hu,blkL,List.cons_append,List.nil_append]
      (focus (repeat' first|exact Ext.one _ _|exact Ext.all _|apply Keep.cons|apply Keep.last|apply Ext.cons);done)
    · have hjZ:j=Z:=by omega
      subst j
      have hne:((lf2.length:Int)+((1+Z:Nat):Int)+8) % 64=0:=by omega
      repeat' (first|(apply R.is1;first|(apply R.isBin;(apply R.pure;exact rfl;first|(apply Ok1.add64;exact rfl;exact rfl;omega;omega)|(apply Ok1.neq_f;exact rfl;exact rfl;omega)|(apply Ok1.remN;exact rfl;exact rfl;omega;omega)))|(apply R.isCall;first|(apply R.pure;exact rfl;apply Ok1.lenOv;(iterate 3 exact rfl);exact hov)|(apply R.pure;exact rfl;(apply Ok1.lenS;(iterate 3 exact rfl))))|(apply R.pure;exact rfl;first|(apply Ok1.move;exact rfl)|(apply Ok1.fieldAddr;(iterate 5 exact rfl))|(apply Ok1.load;exact rfl;(apply Ld.own1;exact rfl;exact rfl;exact At.head;exact rfl))|(apply Ok1.assign;exact rfl)|(apply Ok1.nilCheck;exact rfl)))|apply R.nil|(apply T.is;first|apply T.seq|apply T.region|apply T.block|apply T.exit|(apply T.cond_f;exact rfl)))
      apply T.loopK (α:=Nat × Ov) (I:=fun x=>x.1≤8∧OvOk 1 x.2 (1+Z+x.1) (u8s (128::(List.replicate Z 0++(lenI (8 * (n0:Int))).take x.1)))) (σi:=fun x=>[(0,.pointer (some ⟨r,0,none⟩)),(2,.pointer (some ⟨bt,0,none⟩)),(3,.pointer (some ⟨r',0,none⟩)),(4,slV x.2 (1+Z+x.1)),(5,.int .i64 (7 - (x.1:Int)))])
        (Li:=fun x=>(r',.cells ⟨[.int .u32 s2.a,.int .u32 s2.b,.int .u32 s2.c,.int .u32 s2.d,.int .u32 s2.e,.int .u32 s2.f,.int .u32 s2.g,.int .u32 s2.h,.bool on2,.slice p2 lf2.length cap2,.int .i64 n2]⟩ 312 (0,0))::(bt,.cells ⟨List.replicate 32 (.int .u8 0)⟩ 98 (0,0))::(blkL 5 x.2 (u8s (128::(List.replicate Z 0++(lenI (8 * (n0:Int))).take x.1)))++blkL 5 ov2 (u8s xs2))) (μ:=fun x=>8 - x.1) (i0:=(0,ov))
      · exact ⟨Nat.zero_le _,by simpa using hov⟩
      · exact ⟨rfl,rfl,rfl,rfl,rfl,trivial⟩
      · simp only [List.take_zero,List.append_nil]
        (focus (repeat' first|exact Ext.one _ _|exact Ext.here _ _|exact Ext.all _|apply Keep.cons|apply Keep.app|apply Keep.last);done)
      · clear hov hcopy hl
        rintro ⟨m,ov⟩ ⟨hm,hov⟩
        simp only at hm hov ⊢
        rcases Nat.lt_or_ge m 8 with hlt|hge
        · have hmz:m=0 ∨ m=1 ∨ m=2 ∨ m=3 ∨ m=4 ∨ m=5 ∨ m=6 ∨ m=7:=by omega
          have hu:u8s (128::(List.replicate Z 0++(lenI (8 * (n0:Int))).take (m+1)))=u8s (128::(List.replicate Z 0++(lenI (8 * (n0:Int))).take m))++[.int .u8 ((lenI (8 * (n0:Int))).getD m 0)]:=by
            rcases hmz with rfl|rfl|rfl|rfl|rfl|rfl|rfl|rfl<;>simp [lenI,u8s]
          have hpos:(0:Int)≤n0:=by omega
          have hbg:(n0:Int)≤1000000000:=by omega
          obtain ⟨sh,hsh⟩:∃ sh:Int,sh=pw (8 * (7 - m)):=⟨_,rfl⟩
          have hval:IntKind.u8.wrap ((n0:Int) * 8 / sh)=(lenI (8 * (n0:Int))).getD m 0:=by
            rw [u8_mod,Int.mul_comm]
            subst hsh
            rcases hmz with rfl|rfl|rfl|rfl|rfl|rfl|rfl|rfl<;>first|rfl|(simp [lenI,pw])
          have hj8:(8 * (7 - (m:Int))).toNat=8 * (7 - m):=by omega
          have hsh2:pw (8 * (7 - (m:Int))).toNat=sh:=by rw [hj8];exact hsh.symm
          have hb64:(8 * (7 - (m:Int))).toNat≤IntKind.u64.bits:=by rw [hj8];show 8 * (7 - m)≤64;omega
          clear hsh
          repeat' (first|(apply R.is1;first|(apply R.isBin;(apply R.pure;exact rfl;first|(apply Ok1.mulU;exact rfl;exact rfl;omega;omega)|(apply Ok1.shr;exact rfl;exact rfl;omega;exact hb64;exact hsh2)|(apply Ok1.sub64;exact rfl;exact rfl;omega;omega)|(apply Ok1.geq_t;exact rfl;exact rfl;omega)|(apply Ok1.mul64;exact rfl;exact rfl;omega;omega)))|(apply R.isCall;(apply R.append1;(iterate 12 exact rfl);(focus (repeat' first|exact OwnAt.mid hov|apply OwnAt.tail);done);exact At.head;exact rfl;exact rfl;omega;omega;intro b2 j2 k2 hj2))|(apply R.pure;exact rfl;first|(apply Ok1.convU64;(iterate 5 exact rfl);omega;omega)|(apply Ok1.move;exact rfl)|(apply Ok1.fieldAddr;(iterate 5 exact rfl))|(apply Ok1.load;exact rfl;(apply Ld.blk1;exact rfl;exact rfl;assumption;(exact List.not_mem_nil);exact rfl))|(apply Ok1.assign;exact rfl)|(apply Ok1.nilCheck;exact rfl)|(apply Ok1.conv;(iterate 5 exact rfl)))|(apply R.buildSlice;(iterate 12 exact rfl);intro))|apply R.nil|(apply T.is;first|apply T.seq|apply T.region|apply T.block|apply T.skip|(apply T.cond_t;exact rfl)))
          have hov':=hov.some (b:=b2) (ys:=[.int .u8 (IntKind.u8.wrap ((n0:Int) * 8 / sh))]) (m:=1) rfl hj2
          rw [hval,← hu] at hov'
          rw [hval,← hu]
          refine ⟨(m+1,some (b2,j2,k2)),⟨by simp only;omega,hov'⟩,by simp only;omega,⟨rfl,rfl,rfl,rfl,?_,trivial⟩,?_⟩
          · rw [show (7:Int) - ((m+1:Nat):Int)=7 - (m:Int) - 1 by omega]
            rfl
          · simp only [blkL,List.cons_append,List.nil_append]
            (focus (repeat' first|exact Ext.one _ _|exact Ext.all _|apply Keep.cons|apply Keep.last|apply Ext.cons);done)
        · have hm8:m=8:=by omega
          subst hm8
          have hpad:(128::(List.replicate Z 0++(lenI (8 * (n0:Int))).take 8))=padI b.length:=by subst hZ;subst hn0;rfl
          rw [hpad] at hov ⊢
          have hpl:1+Z+8=(padI b.length).length:=by have:=hov.1;rw [u8s_len] at this;omega
          have hbp:Byt (padI b.length):=by
            intro y hy
            rcases List.mem_cons.1 hy with rfl|hy
            · omega
            · rcases List.mem_append.1 hy with hy|hy
              · rw [List.eq_of_mem_replicate hy];omega
              · simp only [lenI,List.mem_cons,List.not_mem_nil,or_false] at hy
                rcases hy with rfl|rfl|rfl|rfl|rfl|rfl|rfl|rfl<;>omega
          have hpb:(padI b.length).length≤80:=by omega
          rw [hpl] at hov ⊢
          cases ov with
          | none=>exact absurd hov.2 (by omega)
          | some z =>
          obtain ⟨be,je,ke⟩:=z
          have hcat:cat [⟨some ⟨be,0,none⟩,(padI b.length).length+je,padI b.length⟩]=padI b.length:=by simp [cat]
          have hsl:=sha_len b
          have hls:(u8s (shaI b)).length=32:=by rw [u8s_len,hsl]
          have hone:=u8s_one (shaI b)
          have hset:∀ cs:List Value,cs.length=32→setE cs 0 (u8s (shaI b))=some (u8s (shaI b)):=fun cs h=>setE_all (by rw [hls,h])
          have hsub:=subE_all hls
          have hsw:=sha_words b
          generalize padI b.length=pd at *
          simp only [slV,blkL,List.cons_append,List.nil_append]
          repeat' (first|(apply R.is1;first|(apply R.isBin;(apply R.pure;exact rfl;(apply Ok1.geq_f;exact rfl;exact rfl;omega)))|(apply R.isCall;(apply R.callE (Li:=RL r' ⟨on2,s2,ov2,xs2,p2,cap2,k2,lf2,n2⟩);(iterate 3 exact rfl);(focus (exact Ext.cons _ (Ext.two _ (Ext.one _ _) (Ext.cons _ (Ext.cons _ (Ext.all _))))));intro w1 hw1;have h9:=rAdd_ok r' ⟨on2,s2,ov2,xs2,p2,cap2,k2,lf2,n2⟩ b hI2 (some ⟨_,0,none⟩) 1 1 [⟨some ⟨be,0,none⟩,pd.length+je,pd⟩] rfl (by rw [hcat];exact hbp) (by rw [hcat,List.length_append];omega) (by decide) w1 (RdSl.of (v:=Pt.v) (rs:=[⟨some ⟨be,0,none⟩,pd.length+je,pd⟩]) (junk:=[]) hw1 (by exact At.head) rfl) (fun _=>Off.of (k:=0) hw1 (Ext.cons _ (Ext.two _ (Ext.one _ _) (Ext.cons _ (Ext.cons _ (Ext.all _))))) (by exact At.head)) (fun y hy=>by rw [List.mem_singleton.1 hy];exact ⟨RdSl.of (v:=u8V) (rs:=pd) (junk:=ke) hw1 (by (focus (repeat' first|exact At.head|apply At.tail);done)) (by rw [fl_u8]),fun _=>Off.of (k:=0) hw1 (Ext.cons _ (Ext.two _ (Ext.one _ _) (Ext.cons _ (Ext.cons _ (Ext.all _))))) (by (focus (repeat' first|exact At.head|apply At.tail);done))⟩);exact h9;rintro v Lo ⟨st3,rfl,rfl,hI3,hon3⟩))|(apply R.pure;exact rfl;first|(apply Ok1.move;exact rfl)|(apply Ok1.fieldAddr;(iterate 5 exact rfl))|(apply Ok1.nilCheck;exact rfl))|(apply R.buildSlice;(iterate 12 exact rfl);intro))|apply R.nil|(apply T.is;first|apply T.seq|apply T.region|apply T.exit|(apply T.cond_f;exact rfl)))
          rw [hcat] at hI3
          have hw3:=hI3.words hon3
          rw [← hw3] at hsw
          simp only [RL,List.cons_append]
          repeat' (first|(apply R.is1;(apply R.isCall;(apply R.callV;(iterate 3 exact rfl);intro w1 hw1;have h9:=out_ok r' st3.s (rnC st3) _ _ w1 (hw1.get _ _ (At.mem (by exact At.head)));rw [← hsw] at h9;exact h9)))|(apply R.is0;(apply R.store;(iterate 4 exact rfl);exact hls;exact hone;(focus (repeat' first|exact Upd.head|apply Upd.tail|apply Upd.right);done);exact hset _ rfl))|apply R.nil|(apply T.is;apply T.ret))
          apply RetOk.c
          exact rfl
          apply Ld.ownk
          exact rfl
          exact rfl
          (focus (repeat' first|exact At.head|apply At.tail|apply At.right);done)
          exact hsub
          rfl
theorem dSum_ok (pp:Option Addr) (m cap:Nat) (ps:List Pt) (hm:m=ps.length) (hbyt:Byt (cat ps)) (hbig:(cat ps).length≤999999000) (hm2:m≤1000000000) (w:World) (hp:RdSl w pp Pt.v ps) (hall:∀ x∈ps,RdSl w x.p u8V x.xs) :
    CallW Tryz.prog 212 [.slice pp m cap] w fun v _=>v = .agg ⟨u8s (shaI (cat ps))⟩:=by
  refine enterW (tb:=tb) Tryz.func212 rfl Tryz.ntmps212 rfl ?_
  obtain ⟨st0,hst0⟩:∃ st0:RS,st0=⟨false,⟨0,0,0,0,0,0,0,0⟩,none,[],none,0,0,[],0⟩:=⟨_,rfl⟩
  have hI0:RuI st0 []:=by subst hst0;exact ⟨OvOk.start 1,Sfx.refl _ _,rfl,Nat.le_refl _,rfl,rfl,(fun x hx=>by cases hx),(fun h=>by cases h),fun _=>rfl⟩
  have hsl:=sha_len (cat ps)
  have hls:(u8s (shaI (cat ps))).length=32:=by rw [u8s_len,hsl]
  have hone:=u8s_one (shaI (cat ps))
  have hset:∀ cs:List Value,cs.length=32→setE cs 0 (u8s (shaI (cat ps)))=some (u8s (shaI (cat ps))):=fun cs h=>setE_all (by rw [hls,h])
  have hsub:=subE_all hls
  repeat' (first|(apply R.is1;first|(apply R.pure;exact rfl;first|(apply Ok1.move;exact rfl)|(apply Ok1.build;(iterate 5 exact rfl)))|(apply R.box;(iterate 3 exact rfl);intro)|(apply R.alloc;(iterate 3 exact rfl);intro))|apply R.nil|(apply T.is;first|apply T.seq|apply T.region))
  rename_i bt br
  repeat' ((apply R.is1;(apply R.isCall;(apply R.callE (Li:=RL br st0);(iterate 3 exact rfl);(focus (subst hst0;exact Ext.one _ _));intro w1 hw1;exact rAdd_ok br st0 [] hI0 pp m cap ps hm hbyt (by simpa using by omega) hm2 w1 (hp.chg' hw1.chg (fun _=>Off.nil _)) (hp.old Pt.v_len (by decide) (fun _=>Off.nil _) hw1 (by subst hst0;exact Ext.one _ _)) (fun y hy=>⟨(hall y hy).chg' hw1.chg (fun _=>Off.nil _),(hall y hy).old u8V_len (by decide) (fun _=>Off.nil _) hw1 (by subst hst0;exact Ext.one _ _)⟩);rintro v Lo ⟨st1,rfl,rfl,hI1,hon1⟩;rw [List.nil_append] at hI1))))
  have hsum:=fun w1 hb hl=>rSum_ok br st1 (cat ps) hI1 hbig w1 hb hl
  simp only [RL,List.cons_append]
  repeat' (first|(apply R.is1;(apply R.isCall;(apply R.callV;(iterate 3 exact rfl);intro w1 hw1;exact hsum w1 (hw1.get _ _ (At.mem (by exact At.head))) (hI1.rd hw1 (Ext.mem (by (focus (repeat' first|exact Ext.here _ _|apply Ext.cons);done)))))))|(apply R.is0;(apply R.store;(iterate 4 exact rfl);exact hls;exact hone;(focus (repeat' first|exact Upd.head|apply Upd.tail|apply Upd.right);done);exact hset _ rfl))|apply R.nil|(apply T.is;apply T.ret))
  apply RetOk.c
  exact rfl
  apply Ld.ownk
  exact rfl
  exact rfl
  (focus (repeat' first|exact At.head|apply At.tail|apply At.right);done)
  exact hsub
  rfl
set_option linter.unusedSectionVars false
theorem Hp.new {w0 w w':World} {S:List Nat} {L:Lst} {o:Obj} (h:Hp w0 S L w) (hc:Chg [] w w') (ho:w'.heap[w.heap.size]? = some o):Hp w0 S ((w.heap.size,o)::L) w':=by
  have h1:=h.step hc
  refine ⟨h1.chg,?_,?_,?_⟩
  · intro b o' hm
    rcases List.mem_cons.1 hm with e|hm
    · cases e;exact ho
    · exact h1.get b o' hm
  · simp only [List.map_cons,List.nodup_cons]
    refine ⟨fun hm=>?_,h.nod⟩
    obtain ⟨⟨b,o'⟩,hm,e⟩:=List.mem_map.1 hm
    have:=h.lt hm
    simp at e;omega
  · intro b o' hm
    rcases List.mem_cons.1 hm with e|hm
    · cases e;exact .inl h.chg.size
    · exact h.own b o' hm
section
variable {X:Cx} {σ:Env} {L L' Li Lr:Lst} {d:Option Nat} {dd c:Nat} {ty:TypeId} {pos:String} {af:Array Edge} {g:Option (Nat × Bool)} {x y:Operand} {t t2 e:TypeId} {r r2 re:TRow}
variable {all:Array Oper} {rest:List Oper} {K:Env→Lst→Prop} {p:Option Addr} {n m cap i b:Nat}
/-- An array's variable,cut to a slice of all of it. -/
theorem Ok1.sliceArr {o:Nat} (ht:X.tb.row t=some r) (hk:r.k = .arr n e) (he:X.tb.row e=some re) (hx:ev σ x=some (.pointer (some ⟨b,o,none⟩))) :
    Ok1 X ⟨d,.slice t x none none none,ty,pos,af,g⟩ σ L (.slice (some ⟨b,o,none⟩) n n):=.mk fun a w ha hw=>by
  have h2:=(X.tb.get ht).is
  rw [hk] at h2
  simp only [TK.is] at h2
  simp [execOp,Instr.sliceAt,run_underlying h2,ha.ev hx,Instr.sureAddr,Instr.sliceBounds,(X.tb.get he).size,Addr.add_none]
theorem copy_run {α:Type} {v:α→List Value} {xs:List α} {P:Program} (tb:Tb P) (ht:tb.row t=some r) (hk:r.k = .slice e) (he:tb.row e=some re) (hs:re.size=1) (hv:∀ a,(v a).length=1) {w:World} {dn dcap:Nat} {cs cs':List Value} {te:TypeId}
    (hp:RdSl w p v xs) (h1:(fl v xs).all Value.oneCell'=true) (hb:w.heap[b]? = some (.cells ⟨cs⟩ te (0,0))) (hc:setE cs 0 (fl v (xs.take dn))=some cs') :
    ∃ w',(Builtin.copy_ #[t,t2] ty #[.slice (some ⟨b,0,none⟩) dn dcap,.slice p xs.length cap]).run P w = .ok (.int .i64 (min xs.length dn:Nat)) w' ∧ w'.heap[b]? = some (.cells ⟨cs'⟩ te (0,0))∧Chg [b] w w':=by
  have hu:P.underlying t=some (.slice e):=by have:=(tb.get ht).is;rw [hk] at this;exact this
  have hone:(fl v (xs.take dn)).all Value.oneCell'=true:=by
    rw [List.all_eq_true] at h1 ⊢
    intro z hz
    rw [← fl_takeG hv] at hz
    exact h1 z (List.mem_of_mem_take hz)
  obtain ⟨w',g1,g2,g3⟩:=run_stores P ⟨b,0,none⟩ rfl te (fl v (xs.take dn)) 0 w cs cs' hone hb hc
  have hf:(Builtin.firstCells 1 (min xs.length dn) (.slice p xs.length cap)).run P w = .ok ⟨fl v (xs.take dn)⟩ w:=by
    by_cases hx:xs.take dn=[]
    · have h9:(xs.take dn).length=0:=by rw [hx];rfl
      have h0:min xs.length dn=0:=by
        rw [List.length_take] at h9
        omega
      rw [hx,h0]
      cases p<;>simp [Builtin.firstCells,loadCells,loadCellsFrom,fl]
    · refine first_run ((hp.pre hv dn).holds hx) ?_
      rw [fl_len hv,List.length_take,Nat.min_comm]
  refine ⟨w',?_,g2,g3⟩
  unfold Builtin.copy_
  simp only [List.getElem?_toArray,List.getElem?_cons_zero,List.getElem?_cons_succ,Sem.run_bind,run_underlying hu,Result.andThen_ok,(tb.get he).size,hs,Sem.run_pure,Builtin.lenOf,show Nat.min xs.length dn=min xs.length dn from rfl,hf,g1,goInt]
theorem R.copyRd {α:Type} {v:α→List Value} {xs:List α} {dn dcap:Nat} {cs cs':List Value} {te:TypeId} (hn:Nat.blt dd X.n=true) (ht:X.tb.row t=some r) (hk:r.k = .slice e) (he:X.tb.row e=some re) (hs:re.size=1)
    (hx:ev σ x=some (.slice (some ⟨b,0,none⟩) dn dcap)) (hy:ev σ y=some (.slice p m cap)) (hm:m=xs.length) (hv:∀ a,(v a).length=1) (hh:∀ w,Hp X.w0 X.S L w→RdSl w p v xs) (h1:(fl v xs).all Value.oneCell'=true)
    (hu:Upd L b (.cells ⟨cs⟩ te (0,0)) (.cells ⟨cs'⟩ te (0,0)) L') (hc:setE cs 0 (fl v (xs.take dn))=some cs') (h:R X all rest K ((dd,.int .i64 (min m dn:Nat))::σ) L') :
    R X all (⟨some dd,.call { callee:=.builtin .copy,args:=#[x,y],argTypes:=#[t,t2] },ty,pos,af,none⟩::rest) K σ L :=
  R.value rfl rfl hn fun a w ha hw=>by
    subst hm
    obtain ⟨w',g1,g2,g3⟩:=copy_run (ty:=ty) (t2:=t2) (dcap:=dcap) (cap:=cap) X.tb ht hk he hs hv (hh w hw) h1 (hw.get _ _ hu.mem) hc
    refine ⟨_,w',L',?_,hw.upd hu g3 g2,h⟩
    simp [execOp,resolve,ha.ev hx,ha.ev hy,invoke,builtin,g1]
/-- A string's bytes. -/
def strI (s:ByteArray):List Int:=s.data.toList.map fun b=>(b.toNat:Int)
theorem R.convBytes {rs:TRow} {src:TypeId} {s:ByteArray} (hn:Nat.blt dd X.n=true) (hs:X.tb.row src=some rs) (hks:rs.k = .string) (ht:X.tb.row t=some r) (hk:r.k = .slice e) (he:X.tb.row e=some re) (hke:re.k = .int .u8) (hx:ev σ x=some (.string s))
    (h:∀ b j junk,R X all rest K ((dd,.slice (some ⟨b,0,none⟩) s.size (s.size+j))::σ) ((b,.cells ⟨(strI s).map (.int .u8)++junk⟩ e (s.size+j,s.size+j+1))::L)) :
    R X all (⟨some dd,.convert src t x,ty,pos,af,none⟩::rest) K σ L :=
  R.value rfl rfl hn fun a w ha hw=>by
    have h1:X.P.underlying src=some .string:=by have:=(X.tb.get hs).is;rw [hks] at this;exact this
    have h2:X.P.underlying t=some (.slice e):=by have:=(X.tb.get ht).is;rw [hk] at this;exact this
    have h3:X.P.underlying e=some (.int .u8):=by have:=(X.tb.get he).is;rw [hke] at this;exact this
    have hrun:=Lib.run_convert_string_bytes w src t e s h1 h2 h3
    obtain ⟨q,hq⟩:∃ q,grownCap w s.size 0 e=s.size+q:=⟨_,rfl⟩
    have hcells:Lib.bytesCells w e s=⟨(strI s).map (.int .u8)++List.replicate q (.int .u8 0)⟩:=by
      apply Array.toList_inj.1
      simp [Lib.bytesCells,hq,strI]
    have hsz:(Lib.bytesCells w e s).size=s.size+q:=by
      rw [hcells]
      simp [strI]
    have hchg:Chg [] w (Lib.bytesWorld w e s):=by
      have hc0:=(Chg.drew [] w).trans (Chg.alloc [] w.drew (.cells (Lib.bytesCells w e s) e))
      have hd:=hc0.drawn
      refine ⟨?_,?_,?_,by rw [Lib.bytesWorld_size];omega,?_,fun k hk _=>Lib.bytesWorld_at_old w e s k hk⟩<;>simp only [Lib.bytesWorld,World.freeze,show ¬ (1:Nat)=0 by decide,if_false]
      · exact hc0.os
      · exact hc0.tape
      · exact hc0.output
      · exact hc0.drawn
    have hnew:=Lib.bytesWorld_at_new w e s
    rw [hsz,hcells] at hnew
    refine ⟨_,Lib.bytesWorld w e s,(w.heap.size,.cells ⟨(strI s).map (.int .u8)++List.replicate q (.int .u8 0)⟩ e (s.size+q,s.size+q+1))::L,?_,?_,h w.heap.size q _⟩
    · rw [← hq]
      simp [execOp,ha.ev hx,hrun]
    · exact hw.new hchg hnew
/-- A function value that may write what it has caught. -/
theorem R.callFE {f:FuncId} {fa vs cb:List Value} {xs:List Operand} {ats:Array TypeId} {R1:Value→Lst→Prop} (hcv:ev σ x=some (.func (.func f) fa.toArray cb.toArray)) (he:X.tb.fns.contains f=true) (hx:evs σ xs=some vs) (hn:Nat.blt dd X.n=true) (hp:Ext L Li Lr) (hc:∀ w,Hp X.w0 X.S L w→CallM X.P f (fa++vs++cb) Li w R1) (h:∀ v Lo,R1 v Lo→R X all rest K ((dd,v)::σ) (Lo++Lr)) :
    R X all ({ dst:=some dd,op:=.call { callee:=.value x,args:=xs.toArray,argTypes:=ats },type:=ty,pos:=pos,after:=af,guard:=none }::rest) K σ L :=
  R.callF (α:=Value × Lst) (v:=fun v=>v.1) (L':=fun v=>v.2++Lr) (I:=fun v=>R1 v.1 v.2) hcv he hx hn (fun w hw=>by
    have hw2:=hw.perm hp.perm
    have hin:Hp w (blks Li) Li w:=⟨.refl _ _,fun b o hm=>hw2.get b o (List.mem_append_left _ hm),(List.nodup_append.1 (by have:=hw2.nod;rwa [List.map_append] at this)).1,fun b o hm=>.inr (List.mem_map.2 ⟨(b,o),hm,rfl⟩)⟩
    exact ((hc w hw).run hin).mono fun e w' ⟨v,Lo,h1,h2,h3⟩=>⟨(v,Lo),h1,hw2.callM h3,h2⟩) fun v hv=>h v.1 v.2 hv
end
section
variable {X:Cx} {all:Array Oper} {C L L':Lst} {fuel fuel':Nat} {listed listed':Array Bool} {K:Env→Lst→Prop} {σ σ':Env}
theorem A.weak (h:A X all C fuel listed K σ' L') (hs:Sub σ' σ) (hk:Keep L L'):A X all C fuel listed K σ L:=⟨fun a w ha hw hC=>h.run a w (ha.sub hs) (hw.keep hk) hC⟩
theorem A.merge (P:Env→Lst→Prop) (fuel':Nat) (listed':Array Bool) (h1:∀ σ L,P σ L→A X all C fuel' listed' K σ L) (h2:(∀ σ L,P σ L→A X all C fuel' listed' K σ L)→A X all C fuel listed K σ L):A X all C fuel listed K σ L:=h2 h1
/-- Those of a list,one by one. -/
def AllOf (X:Cx) (all:Array Oper) (C:Lst) (fuel:Nat) (listed:Array Bool) (K:Env→Lst→Prop) (σ:Env) (L:Lst):List Nat→Prop
  | []=>True
  | i::is=>(∃ o,all[i]? = some o∧R X all [o] (fun σ' L'=>SubL C L' ∧ A X all C fuel (listed.setIfInBounds i true) K σ' L') σ L)∧AllOf X all C fuel listed K σ L is
theorem AllOf.get:∀ {rs:List Nat},AllOf X all C fuel listed K σ L rs→∀ i∈rs,∃ o,all[i]? = some o∧R X all [o] (fun σ' L'=>SubL C L' ∧ A X all C fuel (listed.setIfInBounds i true) K σ' L') σ L
  | [],_,i,hi=>by cases hi
  | j::js,h,i,hi=>by
    rcases List.mem_cons.1 hi with rfl|hi
    · exact h.1
    · exact AllOf.get h.2 i hi
theorem A.multi (rs:List Nat) (hr:Region.ready .any all listed=rs) (hne:rs≠[]) (h:AllOf X all C fuel listed K σ L rs):A X all C (fuel+1) listed K σ L :=
  ⟨fun a w ha hw hC=>wpAnyC_all hr hne fun w' hc i hi=>by
    obtain ⟨o,ho,h2⟩:=h.get i hi
    exact A.step ho h2 ha (hw.step hc) (hC.step hc)⟩
end
section
variable {X:Cx} {σ:Env} {L L':Lst} {d:Option Nat} {dd b:Nat} {ty:TypeId} {pos:String} {af:Array Edge} {g:Option (Nat × Bool)} {x:Operand} {t e:TypeId} {r re:TRow}
variable {all:Array Oper} {rest:List Oper} {K:Env→Lst→Prop}
theorem mark_run {P:Program} (tb:Tb P) (ht:tb.row t=some r) (hk:r.k = .slice e) (he:tb.row e=some re) (hke:re.k = .int .u8) {w:World} {n c:Nat} {cs:List Value} (hb:w.heap[b]? = some (.cells ⟨cs⟩ e (0,0))) :
    ∃ w',(convert t t (.slice (some ⟨b,0,none⟩) n c)).run P w = .ok (.slice (some ⟨b,0,none⟩) n c) w' ∧ w'.heap[b]? = some (.cells ⟨cs⟩ e (cs.length,cs.length+1))∧Chg [b] w w':=by
  have h2:P.underlying t=some (.slice e):=by have:=(tb.get ht).is;rw [hk] at this;exact this
  have h3:P.underlying e=some (.int .u8):=by have:=(tb.get he).is;rw [hke] at this;exact this
  have hsh:w.shape? b=some (e,cs.length):=by simp [World.shape?,hb]
  refine ⟨w.freeze ⟨b,cs.length,none⟩ 1,?_,?_,?_⟩
  · simp [convert,run_underlying h2,run_underlying h3,markStringish,hsh]
  · simp [World.freeze,Array.getElem?_modify,hb]
  · refine ⟨rfl,rfl,rfl,?_,Nat.le_refl _,?_⟩
    · simp [World.freeze]
    · intro k hk hkb
      have hne:b≠k:=fun h=>hkb (by simp [h])
      simp [World.freeze,Array.getElem?_modify,hne]
/-- A constant's bytes get their mark. -/
theorem R.convSame {n c:Nat} {cs:List Value} (hn:Nat.blt dd X.n=true) (ht:X.tb.row t=some r) (hk:r.k = .slice e) (he:X.tb.row e=some re) (hke:re.k = .int .u8) (hx:ev σ x=some (.slice (some ⟨b,0,none⟩) n c))
    (hu:Upd L b (.cells ⟨cs⟩ e (0,0)) (.cells ⟨cs⟩ e (cs.length,cs.length+1)) L') (h:R X all rest K ((dd,.slice (some ⟨b,0,none⟩) n c)::σ) L') :
    R X all (⟨some dd,.convert t t x,ty,pos,af,none⟩::rest) K σ L :=
  R.value rfl rfl hn fun a w ha hw=>by
    obtain ⟨w',g1,g2,g3⟩:=mark_run (n:=n) (c:=c) X.tb ht hk he hke (hw.get _ _ hu.mem)
    refine ⟨_,w',L',?_,hw.upd hu g3 g2,h⟩
    simp [execOp,ha.ev hx,g1]
/-- A slice's first ones as an array. -/
theorem Ok1.arrPtr {p:Option Addr} {n m c:Nat} (ht:X.tb.row t=some r) (hk:r.k = .arr n e) (hx:ev σ x=some (.slice p m c)) (hm:n≤m):Ok1 X ⟨d,.sliceToArrayPointer t x,ty,pos,af,g⟩ σ L (.pointer p):=.mk fun a w ha hw=>by
  have h2:=(X.tb.get ht).is
  rw [hk] at h2
  simp only [TK.is] at h2
  simp [execOp,Instr.arrayAt,run_underlying h2,ha.ev hx,Nat.not_lt.2 hm]
theorem ovsome {sz n:Nat} {ov:Ov} {xs:List Value} (h:OvOk sz ov n xs) (hn:0 < n):∃ b j k,ov=some (b,j,k):=by
  cases ov with
  | none=>have:=h.2;omega
  | some z=>obtain ⟨b,j,k⟩:=z;exact ⟨b,j,k,rfl⟩
end
end Go.Proofs.YtolnagbahceebaaGreat
