/- Texts of the proof: Eng26, Tab, Dg1, Dg4, Dg5, Dg6, Dg7, Eng28, Sm1, Mc4, C1, C2, Eng15, Eng22, L07x, Eng35, Eng16, M1, K1, Cp1, Cp2, Ky3, C3a, D0, Eng17, So1. -/
import Derived.Test.YtijbmkjebidanaaL15pb1
import Derived.Test.YtijbmkjebidanaaProg
import Derived.Lib.ConvBytes
import Derived.ProofKit
import Derived.Deep.Slices
import Derived.OpenShut
import Derived.Sort.Statements
import Derived.Shelf.SlSortCmp.Insertion
import Derived.Shelf.SlSortCmp.WholeK
import Derived.Test.YtijbmkjebidanaaShelf
set_option linter.unusedSimpArgs false
set_option linter.unusedVariables false
set_option linter.unusedSectionVars false
namespace Go.Proofs.Ytijbmkjebidanaa
open Go.RowKit Go.Shelf
theorem subE_app:∀ (xs junk:List Value) {n:Nat},xs.length=n→subE (xs++junk) 0 n=some xs
  | [],junk,n,h=>by simp at h;subst h;cases junk<;>rfl
  | x :: xs,junk,n,h=>by
    cases n with
    | zero=>simp at h
    | succ n =>
      have:=subE_app xs junk (n:=n) (by simpa using h)
      simp only [List.cons_append,subE,this]
theorem subE_all {xs:List Value} {n:Nat} (h:xs.length=n):subE xs 0 n=some xs:=by
  have:=subE_app xs [] h
  rwa [List.append_nil] at this
theorem setE_all {cs vs:List Value} (h:vs.length=cs.length):setE cs 0 vs=some vs:=by
  have:=setE_mid [] (vs:=vs) (junk:=cs) (by omega)
  simpa [h] using this
section
variable {α:Type} {v:α→List Value} {sz:Nat} {xs:List α} {w:World} {p:Option Addr}
theorem RdSl.pre (hv:∀ a,(v a).length=sz) (h:RdSl w p v xs) (i:Nat):RdSl w p v (xs.take i):=by
  rcases h with h|⟨b,o,rfl,h⟩
  · left;rw [h];exact List.take_nil
  · right
    refine ⟨b,o,rfl,fun k hk=>?_⟩
    rw [← fl_takeG hv] at hk ⊢
    rw [List.length_take] at hk
    rw [List.getElem?_take,if_pos (by omega)]
    exact h k (by omega)
theorem RdSl.chg' {w':World} {S:List Nat} (h:RdSl w p v xs) (hc:Chg S w w') (ho:xs≠[]→Off p S):RdSl w' p v xs:=by
  by_cases hx:xs=[]
  · exact .inl hx
  · exact h.chg hc (ho hx)
/-- What is old lies in none of the blocks that are one's own. -/
theorem RdSl.old {w':World} {S:List Nat} {L Li Lr:Lst} (hv:∀ a,(v a).length=sz) (hs:1≤sz) (h:RdSl w p v xs) (ho:xs≠[]→Off p S) (hw:Hp w S L w') (he:Ext L Li Lr):xs≠[]→Off p (blks Li):=by
  intro hx a ha hm
  rcases h with h|⟨b,o,hp,h⟩
  · exact hx h
  · rw [hp] at ha
    cases ha
    obtain ⟨⟨b',ob⟩,hmem,hb'⟩:=List.mem_map.1 hm
    simp only at hb'
    subst hb'
    rcases hw.own b' ob (he.mem _ hmem) with h1|h1
    · have h2:0 < (fl v xs).length:=by
        rw [fl_len hv]
        have:0 < xs.length:=List.length_pos_iff.2 hx
        exact Nat.mul_pos this hs
      have h3:=h 0 h2
      rw [List.getElem?_eq_getElem h2] at h3
      simp only [World.cell?] at h3
      have h4:w.heap[b']? = none:=Array.getElem?_eq_none h1
      rw [h4] at h3
      simp at h3
    · exact ho hx _ hp h1
theorem RdSl.holds {n cap:Nat} (h:RdSl w p v xs) (hne:xs≠[]):Holds w (.slice p n cap) (fl v xs):=by
  rcases h with h|⟨b,o,rfl,h⟩
  · exact absurd h hne
  · exact fun i hi=>h i hi
end
section
variable {X:Cx} {σ:Env} {L Lr:Lst} {d:Option Nat} {dd:Nat} {ty:TypeId} {pos:String} {af:Array Edge} {g:Option (Nat × Bool)} {x y:Operand} {t t2 e:TypeId} {r r2 re:TRow}
variable {all:Array Oper} {rest:List Oper} {K:Env→Lst→Prop} {p:Option Addr} {n cap i:Nat}
theorem Ok1.preR {hi:Operand} (ht:X.tb.row t=some r) (hk:r.k = .slice e) (he:X.tb.row e=some re) (hx:ev σ x=some (.slice p n cap)) (hh:ev σ hi=some (.int .i64 i)) (h1:i≤cap) :
    Ok1 X ⟨d,.slice t x none (some hi) none,ty,pos,af,g⟩ σ L (.slice p i cap):=.mk fun a w ha hw=>by
  rw [slice_run (l:=0) (h:=(i:Int)) (m:=(cap:Int)) X.tb ht hk he ha hx rfl (by simp [bd,hh]) rfl (by omega) (by omega) (by omega) (by omega) (.inl rfl)]
  have:p.map (·.add (0 * re.size))=p:=by cases p<;>simp [Addr.add]
  simp only [Int.toNat_zero,this,ite_self,Int.toNat_natCast,Nat.sub_zero]
/-- append(s,y...): s a slice of one's own,y one that is read. -/
theorem R.appendRd {α:Type} {v:α→List Value} {xs:List α} {sz:Nat} {ov:Ov} {m cap2 e2:Nat} {old zc:List Value} (hn:Nat.blt dd X.n=true) (ht:X.tb.row t=some r) (hk:r.k = .slice e) (he:X.tb.row e=some re) (hz:cellsE re.zero=some zc) (hzl:zc.length=re.size) (ht2:X.tb.row t2=some r2) (hk2:r2.k = .slice e2) (hb1:Nat.ble 1 re.bytes=true) (hb2:Nat.ble re.bytes 65536=true)
    (hx:ev σ x=some (slV ov n)) (hy:ev σ y=some (.slice p m cap2)) (hok:OvOk re.size ov n old) (hp:Ext L (blkL e ov old) Lr) (hm:m=xs.length) (hv:∀ a,(v a).length=sz) (hs:re.size=sz) (hh:∀ w,Hp X.w0 X.S L w→RdSl w p v xs)
    (h1:(fl v xs).all Value.oneCell'=true) (hbig:n+m≤1073741824)
    (h:∀ ov',OvOk re.size ov' (n+m) (old++fl v xs)→(ov.isSome=true→ov'.isSome=true)→R X all rest K ((dd,slV ov' (n+m))::σ) (blkL e ov' (old++fl v xs)++Lr)) :
    R X all (⟨some dd,.call { callee:=.builtin .append,args:=#[x,y],argTypes:=#[t,t2] },ty,pos,af,none⟩::rest) K σ L:=by
  subst hm
  cases xs with
  | nil =>
    refine R.value rfl rfl hn fun a w ha hw=>?_
    have hw2:=hw.perm hp.perm
    have hrun:=append_none X.tb (w:=w) (ty:=ty) (n:=n) (p2:=p) (cap2:=cap2) (ov:=ov) ht hk he ht2 hk2 (fun e=>by subst e;exact hok.2)
    refine ⟨slV ov n,w,blkL e ov (old++[])++Lr,?_,by rw [List.append_nil];exact hw2,h ov (by simpa [fl] using hok) id⟩
    simp [execOp,resolve,ha.ev hx,ha.ev hy,invoke,builtin,hrun]
  | cons x0 xs =>
    refine R.appendH hn ht hk he hz hzl ht2 hk2 hb1 hb2 hx hy rfl hok hp (fun w hw=>(hh w hw).holds (by simp)) ?_ h1 hbig fun ov' h2=>h ov' h2 fun _=>by
      cases ov' with
      | none=>have:=h2.2;simp at this
      | some _=>rfl
    rw [fl_len hv,hs]
end
def rowsTab:List (Option TRow):=[
  none,
  some { k:=.fn,size:=1,bytes:=8,zero:=.nilFunc },
  some { k:=.int .i64,size:=1,bytes:=8,zero:=.int .i64 0 },
  some { k:=.int .i64,size:=1,bytes:=8,zero:=.int .i64 0 },
  some { k:=.bool,size:=1,bytes:=1,zero:=.bool false },
  some { k:=.int .u8,size:=1,bytes:=1,zero:=.int .u8 0 },
  some { k:=.int .u8,size:=1,bytes:=1,zero:=.int .u8 0 },
  none,
  none,
  some { k:=.string,size:=1,bytes:=16,zero:=.string ByteArray.empty },
  none,
  none,
  some { k:=.int .u64,size:=1,bytes:=8,zero:=.int .u64 0 },
  none,
  none,
  some { k:=.ptr 211,size:=1,bytes:=8,zero:=.pointer none },
  some { k:=.ptr 214,size:=1,bytes:=8,zero:=.pointer none },
  some { k:=.ptr 222,size:=1,bytes:=8,zero:=.pointer none },
  none,
  none,
  none,
  some { k:=.int .i32,size:=1,bytes:=4,zero:=.int .i32 0 },
  some { k:=.slice 32,size:=1,bytes:=24,zero:=.slice none 0 0 },
  some { k:=.strct [(3,0,1),(3,1,1),(3,2,1),(3,3,1)],size:=4,bytes:=32,zero:=.agg #[.int .i64 0,.int .i64 0,.int .i64 0,.int .i64 0] },
  some { k:=.strct [(3,0,1),(3,1,1),(3,2,1),(3,3,1)],size:=4,bytes:=32,zero:=.agg #[.int .i64 0,.int .i64 0,.int .i64 0,.int .i64 0] },
  some { k:=.strct [(3,0,1),(3,1,1)],size:=2,bytes:=16,zero:=.agg #[.int .i64 0,.int .i64 0] },
  some { k:=.strct [(3,0,1),(3,1,1)],size:=2,bytes:=16,zero:=.agg #[.int .i64 0,.int .i64 0] },
  some { k:=.ptr 96,size:=1,bytes:=8,zero:=.pointer none },
  none,
  some { k:=.slice 56,size:=1,bytes:=24,zero:=.slice none 0 0 },
  some { k:=.slice 5,size:=1,bytes:=24,zero:=.slice none 0 0 },
  some { k:=.strct [(3,0,1),(3,1,1),(24,2,4),(30,6,1),(26,7,2)],size:=9,bytes:=88,zero:=.agg #[.int .i64 0,.int .i64 0,.int .i64 0,.int .i64 0,.int .i64 0,.int .i64 0,.slice none 0 0,.int .i64 0,.int .i64 0] },
  some { k:=.strct [(3,0,1),(3,1,1),(24,2,4),(30,6,1),(26,7,2)],size:=9,bytes:=88,zero:=.agg #[.int .i64 0,.int .i64 0,.int .i64 0,.int .i64 0,.int .i64 0,.int .i64 0,.slice none 0 0,.int .i64 0,.int .i64 0] },
  some { k:=.int .u64,size:=1,bytes:=8,zero:=.int .u64 0 },
  some { k:=.strct [(3,0,1),(3,1,1),(3,2,1),(3,3,1)],size:=4,bytes:=32,zero:=.agg #[.int .i64 0,.int .i64 0,.int .i64 0,.int .i64 0] },
  none,
  none,
  none,
  some { k:=.int .i64,size:=1,bytes:=8,zero:=.int .i64 0 },
  none,
  none,
  some { k:=.slice 34,size:=1,bytes:=24,zero:=.slice none 0 0 },
  none,
  some { k:=.slice 24,size:=1,bytes:=24,zero:=.slice none 0 0 },
  none,
  none,
  some { k:=.ptr 109,size:=1,bytes:=8,zero:=.pointer none },
  none,
  none,
  none,
  none,
  some { k:=.strct [(3,0,1),(3,1,1)],size:=2,bytes:=16,zero:=.agg #[.int .i64 0,.int .i64 0] },
  none,
  none,
  some { k:=.slice 26,size:=1,bytes:=24,zero:=.slice none 0 0 },
  some { k:=.strct [(24,0,4),(4,4,1),(3,5,1),(30,6,1),(54,7,1)],size:=8,bytes:=96,zero:=.agg #[.int .i64 0,.int .i64 0,.int .i64 0,.int .i64 0,.bool false,.int .i64 0,.slice none 0 0,.slice none 0 0] },
  some { k:=.strct [(24,0,4),(4,4,1),(3,5,1),(30,6,1),(54,7,1)],size:=8,bytes:=96,zero:=.agg #[.int .i64 0,.int .i64 0,.int .i64 0,.int .i64 0,.bool false,.int .i64 0,.slice none 0 0,.slice none 0 0] },
  none,
  none,
  none,
  none,
  none,
  none,
  none,
  some { k:=.arr 32 5,size:=32,bytes:=32,zero:=.agg #[.int .u8 0,.int .u8 0,.int .u8 0,.int .u8 0,.int .u8 0,.int .u8 0,.int .u8 0,.int .u8 0,.int .u8 0,.int .u8 0,.int .u8 0,.int .u8 0,.int .u8 0,.int .u8 0,.int .u8 0,.int .u8 0,.int .u8 0,.int .u8 0,.int .u8 0,.int .u8 0,.int .u8 0,.int .u8 0,.int .u8 0,.int .u8 0,.int .u8 0,.int .u8 0,.int .u8 0,.int .u8 0,.int .u8 0,.int .u8 0,.int .u8 0,.int .u8 0] },
  some { k:=.strct [(34,0,4),(64,4,32)],size:=36,bytes:=64,zero:=.agg #[.int .i64 0,.int .i64 0,.int .i64 0,.int .i64 0,.int .u8 0,.int .u8 0,.int .u8 0,.int .u8 0,.int .u8 0,.int .u8 0,.int .u8 0,.int .u8 0,.int .u8 0,.int .u8 0,.int .u8 0,.int .u8 0,.int .u8 0,.int .u8 0,.int .u8 0,.int .u8 0,.int .u8 0,.int .u8 0,.int .u8 0,.int .u8 0,.int .u8 0,.int .u8 0,.int .u8 0,.int .u8 0,.int .u8 0,.int .u8 0,.int .u8 0,.int .u8 0,.int .u8 0,.int .u8 0,.int .u8 0,.int .u8 0] },
  some { k:=.strct [(34,0,4),(64,4,32)],size:=36,bytes:=64,zero:=.agg #[.int .i64 0,.int .i64 0,.int .i64 0,.int .i64 0,.int .u8 0,.int .u8 0,.int .u8 0,.int .u8 0,.int .u8 0,.int .u8 0,.int .u8 0,.int .u8 0,.int .u8 0,.int .u8 0,.int .u8 0,.int .u8 0,.int .u8 0,.int .u8 0,.int .u8 0,.int .u8 0,.int .u8 0,.int .u8 0,.int .u8 0,.int .u8 0,.int .u8 0,.int .u8 0,.int .u8 0,.int .u8 0,.int .u8 0,.int .u8 0,.int .u8 0,.int .u8 0,.int .u8 0,.int .u8 0,.int .u8 0,.int .u8 0] },
  none,
  none,
  none,
  none,
  none,
  none,
  none,
  none,
  some { k:=.strct [(3,0,1),(3,1,1),(24,2,4),(30,6,1)],size:=7,bytes:=72,zero:=.agg #[.int .i64 0,.int .i64 0,.int .i64 0,.int .i64 0,.int .i64 0,.int .i64 0,.slice none 0 0] },
  none,
  none,
  none,
  none,
  none,
  none,
  none,
  none,
  none,
  none,
  none,
  none,
  none,
  none,
  none,
  none,
  none,
  none,
  some { k:=.map 34 99,size:=1,bytes:=8,zero:=.map none },
  some { k:=.strct [(94,0,1)],size:=1,bytes:=8,zero:=.agg #[.map none] },
  some { k:=.strct [(94,0,1)],size:=1,bytes:=8,zero:=.agg #[.map none] },
  none,
  none,
  some { k:=.ptr 103,size:=1,bytes:=8,zero:=.pointer none },
  some { k:=.strct [(51,0,2),(33,2,1)],size:=3,bytes:=24,zero:=.agg #[.int .i64 0,.int .i64 0,.int .u64 0] },
  some { k:=.strct [(51,0,2),(33,2,1)],size:=3,bytes:=24,zero:=.agg #[.int .i64 0,.int .i64 0,.int .u64 0] },
  some { k:=.strct [(101,0,3),(46,3,1),(3,4,1)],size:=5,bytes:=40,zero:=.agg #[.int .i64 0,.int .i64 0,.int .u64 0,.pointer none,.int .i64 0] },
  some { k:=.strct [(101,0,3),(46,3,1),(3,4,1)],size:=5,bytes:=40,zero:=.agg #[.int .i64 0,.int .i64 0,.int .u64 0,.pointer none,.int .i64 0] },
  none,
  some { k:=.fn,size:=1,bytes:=8,zero:=.nilFunc },
  none,
  some { k:=.slice 5,size:=1,bytes:=24,zero:=.slice none 0 0 },
  some { k:=.strct [(107,0,1)],size:=1,bytes:=24,zero:=.agg #[.slice none 0 0] },
  some { k:=.strct [(107,0,1)],size:=1,bytes:=24,zero:=.agg #[.slice none 0 0] },
  none,
  none,
  none,
  none,
  none,
  none,
  none,
  some { k:=.fn,size:=1,bytes:=8,zero:=.nilFunc },
  none,
  none,
  none,
  some { k:=.map 34 46,size:=1,bytes:=8,zero:=.map none },
  some { k:=.map 3 46,size:=1,bytes:=8,zero:=.map none },
  some { k:=.strct [(66,0,36),(121,36,1),(122,37,1)],size:=38,bytes:=80,zero:=.agg #[.int .i64 0,.int .i64 0,.int .i64 0,.int .i64 0,.int .u8 0,.int .u8 0,.int .u8 0,.int .u8 0,.int .u8 0,.int .u8 0,.int .u8 0,.int .u8 0,.int .u8 0,.int .u8 0,.int .u8 0,.int .u8 0,.int .u8 0,.int .u8 0,.int .u8 0,.int .u8 0,.int .u8 0,.int .u8 0,.int .u8 0,.int .u8 0,.int .u8 0,.int .u8 0,.int .u8 0,.int .u8 0,.int .u8 0,.int .u8 0,.int .u8 0,.int .u8 0,.int .u8 0,.int .u8 0,.int .u8 0,.int .u8 0,.map none,.map none] },
  none,
  none,
  none,
  some { k:=.fn,size:=1,bytes:=8,zero:=.nilFunc },
  none,
  none,
  some { k:=.arr 4 3,size:=4,bytes:=32,zero:=.agg #[.int .i64 0,.int .i64 0,.int .i64 0,.int .i64 0] },
  some { k:=.strct [(3,0,1),(3,1,1),(3,2,1)],size:=3,bytes:=24,zero:=.agg #[.int .i64 0,.int .i64 0,.int .i64 0] },
  some { k:=.strct [(3,0,1),(3,1,1),(3,2,1)],size:=3,bytes:=24,zero:=.agg #[.int .i64 0,.int .i64 0,.int .i64 0] },
  some { k:=.arr 4 132,size:=12,bytes:=96,zero:=.agg #[.int .i64 0,.int .i64 0,.int .i64 0,.int .i64 0,.int .i64 0,.int .i64 0,.int .i64 0,.int .i64 0,.int .i64 0,.int .i64 0,.int .i64 0,.int .i64 0] },
  none,
  none,
  none,
  some { k:=.ptr 101,size:=1,bytes:=8,zero:=.pointer none },
  none,
  none,
  none,
  none,
  none,
  some { k:=.slice 3,size:=1,bytes:=24,zero:=.slice none 0 0 },
  none,
  none,
  none,
  none,
  some { k:=.int .u64,size:=1,bytes:=8,zero:=.int .u64 0 },
  none,
  none,
  none,
  none,
  none,
  none,
  none,
  none,
  none,
  none,
  none,
  none,
  some { k:=.int .i64,size:=1,bytes:=8,zero:=.int .i64 0 },
  none,
  none,
  none,
  none,
  none,
  none,
  none,
  some { k:=.int .u32,size:=1,bytes:=4,zero:=.int .u32 0 },
  none,
  none,
  none,
  some { k:=.strct [(3,0,1),(3,1,1),(30,2,1)],size:=3,bytes:=40,zero:=.agg #[.int .i64 0,.int .i64 0,.slice none 0 0] },
  some { k:=.strct [(3,0,1),(3,1,1),(30,2,1)],size:=3,bytes:=40,zero:=.agg #[.int .i64 0,.int .i64 0,.slice none 0 0] },
  none,
  none,
  none,
  none,
  none,
  none,
  none,
  none,
  none,
  none,
  none,
  some { k:=.int .u64,size:=1,bytes:=8,zero:=.int .u64 0 },
  none,
  none,
  none,
  some { k:=.ptr 3,size:=1,bytes:=8,zero:=.pointer none },
  none,
  some { k:=.slice 174,size:=1,bytes:=24,zero:=.slice none 0 0 },
  none,
  none,
  none,
  none,
  some { k:=.ptr 186,size:=1,bytes:=8,zero:=.pointer none },
  none,
  none,
  none,
  none,
  none,
  none,
  none,
  none,
  none,
  none,
  none,
  none,
  none,
  none,
  none,
  none,
  none,
  some { k:=.int .u8,size:=1,bytes:=1,zero:=.int .u8 0 },
  some { k:=.int .u8,size:=1,bytes:=1,zero:=.int .u8 0 },
  some { k:=.fn,size:=1,bytes:=8,zero:=.nilFunc },
  some { k:=.ptr 5,size:=1,bytes:=8,zero:=.pointer none },
  some { k:=.int .i32,size:=1,bytes:=4,zero:=.int .i32 0 },
  some { k:=.int .i32,size:=1,bytes:=4,zero:=.int .i32 0 },
  none,
  none,
  none,
  none,
  none]
set_option maxRecDepth 100000 in
theorem rowsGood:TGoods Try.prog 0 rowsTab :=
  ⟨⟨⟨_,_,_,Try.underlying1⟩,Try.sizeOf1,Try.zeroValue1,trivial,by kernel_rfl⟩,
   ⟨Try.underlying2,Try.sizeOf2,Try.zeroValue2,trivial,by kernel_rfl⟩,
   ⟨Try.underlying3,Try.sizeOf3,Try.zeroValue3,trivial,by kernel_rfl⟩,
   ⟨Try.underlying4,Try.sizeOf4,Try.zeroValue4,trivial,by kernel_rfl⟩,
   ⟨Try.underlying5,Try.sizeOf5,Try.zeroValue5,trivial,by kernel_rfl⟩,
   ⟨Try.underlying6,Try.sizeOf6,Try.zeroValue6,trivial,by kernel_rfl⟩,
   ⟨Try.underlying9,Try.sizeOf9,Try.zeroValue9,trivial,by kernel_rfl⟩,
   ⟨Try.underlying12,Try.sizeOf12,Try.zeroValue12,trivial,by kernel_rfl⟩,
   ⟨Try.underlying15,Try.sizeOf15,Try.zeroValue15,trivial,by kernel_rfl⟩,
   ⟨Try.underlying16,Try.sizeOf16,Try.zeroValue16,trivial,by kernel_rfl⟩,
   ⟨Try.underlying17,Try.sizeOf17,Try.zeroValue17,trivial,by kernel_rfl⟩,
   ⟨Try.underlying21,Try.sizeOf21,Try.zeroValue21,trivial,by kernel_rfl⟩,
   ⟨Try.underlying22,Try.sizeOf22,Try.zeroValue22,trivial,by kernel_rfl⟩,
   ⟨⟨_,Try.underlying23,rfl,rfl,Try.sizeOf3,rfl,rfl,rfl,Try.sizeOf3,rfl,rfl,rfl,Try.sizeOf3,rfl,rfl,rfl,Try.sizeOf3,rfl,trivial⟩,Try.sizeOf23,Try.zeroValue23,(by show Try.prog.stoodInHeld 23=false;kernel_rfl),by kernel_rfl⟩,
   ⟨⟨_,Try.underlying24,rfl,rfl,Try.sizeOf3,rfl,rfl,rfl,Try.sizeOf3,rfl,rfl,rfl,Try.sizeOf3,rfl,rfl,rfl,Try.sizeOf3,rfl,trivial⟩,Try.sizeOf24,Try.zeroValue24,(by show Try.prog.stoodInHeld 24=false;kernel_rfl),by kernel_rfl⟩,
   ⟨⟨_,Try.underlying25,rfl,rfl,Try.sizeOf3,rfl,rfl,rfl,Try.sizeOf3,rfl,trivial⟩,Try.sizeOf25,Try.zeroValue25,(by show Try.prog.stoodInHeld 25=false;kernel_rfl),by kernel_rfl⟩,
   ⟨⟨_,Try.underlying26,rfl,rfl,Try.sizeOf3,rfl,rfl,rfl,Try.sizeOf3,rfl,trivial⟩,Try.sizeOf26,Try.zeroValue26,(by show Try.prog.stoodInHeld 26=false;kernel_rfl),by kernel_rfl⟩,
   ⟨Try.underlying27,Try.sizeOf27,Try.zeroValue27,trivial,by kernel_rfl⟩,
   ⟨Try.underlying29,Try.sizeOf29,Try.zeroValue29,trivial,by kernel_rfl⟩,
   ⟨Try.underlying30,Try.sizeOf30,Try.zeroValue30,trivial,by kernel_rfl⟩,
   ⟨⟨_,Try.underlying31,rfl,rfl,Try.sizeOf3,rfl,rfl,rfl,Try.sizeOf3,rfl,rfl,rfl,Try.sizeOf24,rfl,rfl,rfl,Try.sizeOf30,rfl,rfl,rfl,Try.sizeOf26,rfl,trivial⟩,Try.sizeOf31,Try.zeroValue31,(by show Try.prog.stoodInHeld 31=false;kernel_rfl),by kernel_rfl⟩,
   ⟨⟨_,Try.underlying32,rfl,rfl,Try.sizeOf3,rfl,rfl,rfl,Try.sizeOf3,rfl,rfl,rfl,Try.sizeOf24,rfl,rfl,rfl,Try.sizeOf30,rfl,rfl,rfl,Try.sizeOf26,rfl,trivial⟩,Try.sizeOf32,Try.zeroValue32,(by show Try.prog.stoodInHeld 32=false;kernel_rfl),by kernel_rfl⟩,
   ⟨Try.underlying33,Try.sizeOf33,Try.zeroValue33,trivial,by kernel_rfl⟩,
   ⟨⟨_,Try.underlying34,rfl,rfl,Try.sizeOf3,rfl,rfl,rfl,Try.sizeOf3,rfl,rfl,rfl,Try.sizeOf3,rfl,rfl,rfl,Try.sizeOf3,rfl,trivial⟩,Try.sizeOf34,Try.zeroValue34,(by show Try.prog.stoodInHeld 34=false;kernel_rfl),by kernel_rfl⟩,
   ⟨Try.underlying38,Try.sizeOf38,Try.zeroValue38,trivial,by kernel_rfl⟩,
   ⟨Try.underlying41,Try.sizeOf41,Try.zeroValue41,trivial,by kernel_rfl⟩,
   ⟨Try.underlying43,Try.sizeOf43,Try.zeroValue43,trivial,by kernel_rfl⟩,
   ⟨Try.underlying46,Try.sizeOf46,Try.zeroValue46,trivial,by kernel_rfl⟩,
   ⟨⟨_,Try.underlying51,rfl,rfl,Try.sizeOf3,rfl,rfl,rfl,Try.sizeOf3,rfl,trivial⟩,Try.sizeOf51,Try.zeroValue51,(by show Try.prog.stoodInHeld 51=false;kernel_rfl),by kernel_rfl⟩,
   ⟨Try.underlying54,Try.sizeOf54,Try.zeroValue54,trivial,by kernel_rfl⟩,
   ⟨⟨_,Try.underlying55,rfl,rfl,Try.sizeOf24,rfl,rfl,rfl,Try.sizeOf4,rfl,rfl,rfl,Try.sizeOf3,rfl,rfl,rfl,Try.sizeOf30,rfl,rfl,rfl,Try.sizeOf54,rfl,trivial⟩,Try.sizeOf55,Try.zeroValue55,(by show Try.prog.stoodInHeld 55=false;kernel_rfl),by kernel_rfl⟩,
   ⟨⟨_,Try.underlying56,rfl,rfl,Try.sizeOf24,rfl,rfl,rfl,Try.sizeOf4,rfl,rfl,rfl,Try.sizeOf3,rfl,rfl,rfl,Try.sizeOf30,rfl,rfl,rfl,Try.sizeOf54,rfl,trivial⟩,Try.sizeOf56,Try.zeroValue56,(by show Try.prog.stoodInHeld 56=false;kernel_rfl),by kernel_rfl⟩,
   ⟨Try.underlying64,Try.sizeOf64,Try.zeroValue64,trivial,by kernel_rfl⟩,
   ⟨⟨_,Try.underlying65,rfl,rfl,Try.sizeOf34,rfl,rfl,rfl,Try.sizeOf64,rfl,trivial⟩,Try.sizeOf65,Try.zeroValue65,(by show Try.prog.stoodInHeld 65=false;kernel_rfl),by kernel_rfl⟩,
   ⟨⟨_,Try.underlying66,rfl,rfl,Try.sizeOf34,rfl,rfl,rfl,Try.sizeOf64,rfl,trivial⟩,Try.sizeOf66,Try.zeroValue66,(by show Try.prog.stoodInHeld 66=false;kernel_rfl),by kernel_rfl⟩,
   ⟨⟨_,Try.underlying75,rfl,rfl,Try.sizeOf3,rfl,rfl,rfl,Try.sizeOf3,rfl,rfl,rfl,Try.sizeOf24,rfl,rfl,rfl,Try.sizeOf30,rfl,trivial⟩,Try.sizeOf75,Try.zeroValue75,(by show Try.prog.stoodInHeld 75=false;kernel_rfl),by kernel_rfl⟩,
   ⟨Try.underlying94,Try.sizeOf94,Try.zeroValue94,trivial,by kernel_rfl⟩,
   ⟨⟨_,Try.underlying95,rfl,rfl,Try.sizeOf94,rfl,trivial⟩,Try.sizeOf95,Try.zeroValue95,(by show Try.prog.stoodInHeld 95=false;kernel_rfl),by kernel_rfl⟩,
   ⟨⟨_,Try.underlying96,rfl,rfl,Try.sizeOf94,rfl,trivial⟩,Try.sizeOf96,Try.zeroValue96,(by show Try.prog.stoodInHeld 96=false;kernel_rfl),by kernel_rfl⟩,
   ⟨Try.underlying99,Try.sizeOf99,Try.zeroValue99,trivial,by kernel_rfl⟩,
   ⟨⟨_,Try.underlying100,rfl,rfl,Try.sizeOf51,rfl,rfl,rfl,Try.sizeOf33,rfl,trivial⟩,Try.sizeOf100,Try.zeroValue100,(by show Try.prog.stoodInHeld 100=false;kernel_rfl),by kernel_rfl⟩,
   ⟨⟨_,Try.underlying101,rfl,rfl,Try.sizeOf51,rfl,rfl,rfl,Try.sizeOf33,rfl,trivial⟩,Try.sizeOf101,Try.zeroValue101,(by show Try.prog.stoodInHeld 101=false;kernel_rfl),by kernel_rfl⟩,
   ⟨⟨_,Try.underlying102,rfl,rfl,Try.sizeOf101,rfl,rfl,rfl,Try.sizeOf46,rfl,rfl,rfl,Try.sizeOf3,rfl,trivial⟩,Try.sizeOf102,Try.zeroValue102,(by show Try.prog.stoodInHeld 102=false;kernel_rfl),by kernel_rfl⟩,
   ⟨⟨_,Try.underlying103,rfl,rfl,Try.sizeOf101,rfl,rfl,rfl,Try.sizeOf46,rfl,rfl,rfl,Try.sizeOf3,rfl,trivial⟩,Try.sizeOf103,Try.zeroValue103,(by show Try.prog.stoodInHeld 103=false;kernel_rfl),by kernel_rfl⟩,
   ⟨⟨_,_,_,Try.underlying105⟩,Try.sizeOf105,Try.zeroValue105,trivial,by kernel_rfl⟩,
   ⟨Try.underlying107,Try.sizeOf107,Try.zeroValue107,trivial,by kernel_rfl⟩,
   ⟨⟨_,Try.underlying108,rfl,rfl,Try.sizeOf107,rfl,trivial⟩,Try.sizeOf108,Try.zeroValue108,(by show Try.prog.stoodInHeld 108=false;kernel_rfl),by kernel_rfl⟩,
   ⟨⟨_,Try.underlying109,rfl,rfl,Try.sizeOf107,rfl,trivial⟩,Try.sizeOf109,Try.zeroValue109,(by show Try.prog.stoodInHeld 109=false;kernel_rfl),by kernel_rfl⟩,
   ⟨⟨_,_,_,Try.underlying117⟩,Try.sizeOf117,Try.zeroValue117,trivial,by kernel_rfl⟩,
   ⟨Try.underlying121,Try.sizeOf121,Try.zeroValue121,trivial,by kernel_rfl⟩,
   ⟨Try.underlying122,Try.sizeOf122,Try.zeroValue122,trivial,by kernel_rfl⟩,
   ⟨⟨_,Try.underlying123,rfl,rfl,Try.sizeOf66,rfl,rfl,rfl,Try.sizeOf121,rfl,rfl,rfl,Try.sizeOf122,rfl,trivial⟩,Try.sizeOf123,Try.zeroValue123,(by show Try.prog.stoodInHeld 123=false;kernel_rfl),by kernel_rfl⟩,
   ⟨⟨_,_,_,Try.underlying127⟩,Try.sizeOf127,Try.zeroValue127,trivial,by kernel_rfl⟩,
   ⟨Try.underlying130,Try.sizeOf130,Try.zeroValue130,trivial,by kernel_rfl⟩,
   ⟨⟨_,Try.underlying131,rfl,rfl,Try.sizeOf3,rfl,rfl,rfl,Try.sizeOf3,rfl,rfl,rfl,Try.sizeOf3,rfl,trivial⟩,Try.sizeOf131,Try.zeroValue131,(by show Try.prog.stoodInHeld 131=false;kernel_rfl),by kernel_rfl⟩,
   ⟨⟨_,Try.underlying132,rfl,rfl,Try.sizeOf3,rfl,rfl,rfl,Try.sizeOf3,rfl,rfl,rfl,Try.sizeOf3,rfl,trivial⟩,Try.sizeOf132,Try.zeroValue132,(by show Try.prog.stoodInHeld 132=false;kernel_rfl),by kernel_rfl⟩,
   ⟨Try.underlying133,Try.sizeOf133,Try.zeroValue133,trivial,by kernel_rfl⟩,
   ⟨Try.underlying137,Try.sizeOf137,Try.zeroValue137,trivial,by kernel_rfl⟩,
   ⟨Try.underlying143,Try.sizeOf143,Try.zeroValue143,trivial,by kernel_rfl⟩,
   ⟨Try.underlying148,Try.sizeOf148,Try.zeroValue148,trivial,by kernel_rfl⟩,
   ⟨Try.underlying161,Try.sizeOf161,Try.zeroValue161,trivial,by kernel_rfl⟩,
   ⟨Try.underlying169,Try.sizeOf169,Try.zeroValue169,trivial,by kernel_rfl⟩,
   ⟨⟨_,Try.underlying173,rfl,rfl,Try.sizeOf3,rfl,rfl,rfl,Try.sizeOf3,rfl,rfl,rfl,Try.sizeOf30,rfl,trivial⟩,Try.sizeOf173,Try.zeroValue173,(by show Try.prog.stoodInHeld 173=false;kernel_rfl),by kernel_rfl⟩,
   ⟨⟨_,Try.underlying174,rfl,rfl,Try.sizeOf3,rfl,rfl,rfl,Try.sizeOf3,rfl,rfl,rfl,Try.sizeOf30,rfl,trivial⟩,Try.sizeOf174,Try.zeroValue174,(by show Try.prog.stoodInHeld 174=false;kernel_rfl),by kernel_rfl⟩,
   ⟨Try.underlying186,Try.sizeOf186,Try.zeroValue186,trivial,by kernel_rfl⟩,
   ⟨Try.underlying190,Try.sizeOf190,Try.zeroValue190,trivial,by kernel_rfl⟩,
   ⟨Try.underlying192,Try.sizeOf192,Try.zeroValue192,trivial,by kernel_rfl⟩,
   ⟨Try.underlying197,Try.sizeOf197,Try.zeroValue197,trivial,by kernel_rfl⟩,
   ⟨Try.underlying215,Try.sizeOf215,Try.zeroValue215,trivial,by kernel_rfl⟩,
   ⟨Try.underlying216,Try.sizeOf216,Try.zeroValue216,trivial,by kernel_rfl⟩,
   ⟨⟨_,_,_,Try.underlying217⟩,Try.sizeOf217,Try.zeroValue217,trivial,by kernel_rfl⟩,
   ⟨Try.underlying218,Try.sizeOf218,Try.zeroValue218,trivial,by kernel_rfl⟩,
   ⟨Try.underlying219,Try.sizeOf219,Try.zeroValue219,trivial,by kernel_rfl⟩,
   ⟨Try.underlying220,Try.sizeOf220,Try.zeroValue220,trivial,by kernel_rfl⟩,
   trivial⟩
set_option maxRecDepth 100000 in
theorem fnsGood:FGoods Try.prog [3,5,6,7,8,9,10,11,12,13,14,15,16,17,18,19,20,21,22,23,30,34,35,40,47,48,49,50,51,52,53,54,55,56,57,58,59,60,61,62,63,64,67,68,72,73,74,75,76,77,78,79,84,85,86,87,88,89,94,95,96,97,98,99,100,101,102,103,104,111,112,113,114,115,123] :=
  ⟨enters_of Try.func3 (by kernel_rfl) rfl,
   enters_of Try.func5 (by kernel_rfl) rfl,
   enters_of Try.func6 (by kernel_rfl) rfl,
   enters_of Try.func7 (by kernel_rfl) rfl,
   enters_of Try.func8 (by kernel_rfl) rfl,
   enters_of Try.func9 (by kernel_rfl) rfl,
   enters_of Try.func10 (by kernel_rfl) rfl,
   enters_of Try.func11 (by kernel_rfl) rfl,
   enters_of Try.func12 (by kernel_rfl) rfl,
   enters_of Try.func13 (by kernel_rfl) rfl,
   enters_of Try.func14 (by kernel_rfl) rfl,
   enters_of Try.func15 (by kernel_rfl) rfl,
   enters_of Try.func16 (by kernel_rfl) rfl,
   enters_of Try.func17 (by kernel_rfl) rfl,
   enters_of Try.func18 (by kernel_rfl) rfl,
   enters_of Try.func19 (by kernel_rfl) rfl,
   enters_of Try.func20 (by kernel_rfl) rfl,
   enters_of Try.func21 (by kernel_rfl) rfl,
   enters_of Try.func22 (by kernel_rfl) rfl,
   enters_of Try.func23 (by kernel_rfl) rfl,
   enters_of Try.func30 (by kernel_rfl) rfl,
   enters_of Try.func34 (by kernel_rfl) rfl,
   enters_of Try.func35 (by kernel_rfl) rfl,
   enters_of Try.func40 (by kernel_rfl) rfl,
   enters_of Try.func47 (by kernel_rfl) rfl,
   enters_of Try.func48 (by kernel_rfl) rfl,
   enters_of Try.func49 (by kernel_rfl) rfl,
   enters_of Try.func50 (by kernel_rfl) rfl,
   enters_of Try.func51 (by kernel_rfl) rfl,
   enters_of Try.func52 (by kernel_rfl) rfl,
   enters_of Try.func53 (by kernel_rfl) rfl,
   enters_of Try.func54 (by kernel_rfl) rfl,
   enters_of Try.func55 (by kernel_rfl) rfl,
   enters_of Try.func56 (by kernel_rfl) rfl,
   enters_of Try.func57 (by kernel_rfl) rfl,
   enters_of Try.func58 (by kernel_rfl) rfl,
   enters_of Try.func59 (by kernel_rfl) rfl,
   enters_of Try.func60 (by kernel_rfl) rfl,
   enters_of Try.func61 (by kernel_rfl) rfl,
   enters_of Try.func62 (by kernel_rfl) rfl,
   enters_of Try.func63 (by kernel_rfl) rfl,
   enters_of Try.func64 (by kernel_rfl) rfl,
   enters_of Try.func67 (by kernel_rfl) rfl,
   enters_of Try.func68 (by kernel_rfl) rfl,
   enters_of Try.func72 (by kernel_rfl) rfl,
   enters_of Try.func73 (by kernel_rfl) rfl,
   enters_of Try.func74 (by kernel_rfl) rfl,
   enters_of Try.func75 (by kernel_rfl) rfl,
   enters_of Try.func76 (by kernel_rfl) rfl,
   enters_of Try.func77 (by kernel_rfl) rfl,
   enters_of Try.func78 (by kernel_rfl) rfl,
   enters_of Try.func79 (by kernel_rfl) rfl,
   enters_of Try.func84 (by kernel_rfl) rfl,
   enters_of Try.func85 (by kernel_rfl) rfl,
   enters_of Try.func86 (by kernel_rfl) rfl,
   enters_of Try.func87 (by kernel_rfl) rfl,
   enters_of Try.func88 (by kernel_rfl) rfl,
   enters_of Try.func89 (by kernel_rfl) rfl,
   enters_of Try.func94 (by kernel_rfl) rfl,
   enters_of Try.func95 (by kernel_rfl) rfl,
   enters_of Try.func96 (by kernel_rfl) rfl,
   enters_of Try.func97 (by kernel_rfl) rfl,
   enters_of Try.func98 (by kernel_rfl) rfl,
   enters_of Try.func99 (by kernel_rfl) rfl,
   enters_of Try.func100 (by kernel_rfl) rfl,
   enters_of Try.func101 (by kernel_rfl) rfl,
   enters_of Try.func102 (by kernel_rfl) rfl,
   enters_of Try.func103 (by kernel_rfl) rfl,
   enters_of Try.func104 (by kernel_rfl) rfl,
   enters_of Try.func111 (by kernel_rfl) rfl,
   enters_of Try.func112 (by kernel_rfl) rfl,
   enters_of Try.func113 (by kernel_rfl) rfl,
   enters_of Try.func114 (by kernel_rfl) rfl,
   enters_of Try.func115 (by kernel_rfl) rfl,
   enters_of Try.func123 (by kernel_rfl) rfl,trivial⟩
theorem mixGood:Try.prog.follows .mixedOrders=true:=by kernel_rfl
def tb:Tb Try.prog:={ rows:=rowsTab,good:=rowsGood,fns:=[3,5,6,7,8,9,10,11,12,13,14,15,16,17,18,19,20,21,22,23,30,34,35,40,47,48,49,50,51,52,53,54,55,56,57,58,59,60,61,62,63,64,67,68,72,73,74,75,76,77,78,79,84,85,86,87,88,89,94,95,96,97,98,99,100,101,102,103,104,111,112,113,114,115,123],fgood:=fnsGood,mix:=mixGood,deep:=Nat.le_of_ble_eq_true (by kernel_rfl) }
set_option maxRecDepth 100000
def u8V (x:Int):List Value:=[.int .u8 x]
theorem u8V_len (x:Int):(u8V x).length=1:=rfl
theorem fl_u8 (bs:List Int):fl u8V bs=u8s bs:=by
  unfold fl u8s
  induction bs with
  | nil=>rfl
  | cons a l ih=>simp only [List.map_cons,List.flatten_cons,ih];rfl
theorem u8s_one (a:List Int):(u8s a).all Value.oneCell'=true:=by rw [List.all_eq_true];intro x hx;obtain ⟨y,_,rfl⟩:=List.mem_map.1 hx;rfl
theorem rdnone {n:Nat} {xs:List Int} {w:World} (hn:n=xs.length) (h:RdSl w none u8V xs):n=0:=by
  rcases h with h|⟨b,o,h,_⟩
  · rw [hn,h];rfl
  · cases h
theorem clone_ok (p:Option Addr) (n cap:Nat) (xs:List Int) (hn:n=xs.length) (hbig:n≤1000000000) (w:World) (hp:RdSl w p u8V xs):CallM Try.prog 51 [.slice p n cap] [] w fun v L=>∃ ov,OvOk 1 ov n (u8s xs)∧ov.isSome=p.isSome∧v=slV ov n∧L=blkL 5 ov (u8s xs):=by
  refine enterK (tb:=tb) Try.func51 rfl Try.ntmps51 rfl ?_
  cases p with
  | none =>
    have h0:=rdnone hn hp
    have hx:xs=[]:=List.eq_nil_of_length_eq_zero (by omega)
    subst hx
    repeat' (first|(apply R.is1;first|(apply R.isBin;first|(apply R.pure;exact rfl;first|(apply Ok1.eqlS;(iterate 5 exact rfl))|(apply Ok1.eql_t;exact rfl;exact rfl;omega)|(apply Ok1.eql_f;exact rfl;exact rfl;omega)|(apply Ok1.eqlP;(iterate 5 exact rfl))|(apply Ok1.eqlM;(iterate 5 exact rfl))|(apply Ok1.eqlS;(iterate 5 exact rfl)))|(apply R.eql rfl rfl rfl<;>intro)|(apply R.eqlF;(iterate 8 exact rfl);all_goals intro))|(apply R.pure;exact rfl;first|(apply Ok1.move;exact rfl)|(apply Ok1.assign;exact rfl))|(apply R.buildSlice;(iterate 12 exact rfl);intro))|(apply R.is0;first|fail)|(apply R.isG;first|(apply R.guard_run;exact rfl;exact rfl)|(apply R.guard_not;(iterate 3 exact rfl))|(apply R.guard_not0;exact rfl;exact rfl)|(apply R.guard_un;(iterate 3 exact rfl))|(apply R.guard_un0;exact rfl;exact rfl)|(apply R.guard rfl rfl ?_ (fun h=>⟨rfl,?_⟩)<;>try intro))|apply R.nil|(apply T.is;first|apply T.seq|apply T.region|apply T.block|apply T.scope|apply T.label|apply T.skip|apply T.exit|apply T.ret|(apply T.cond_t;exact rfl)|(apply T.cond_f;exact rfl)|(apply T.cond_h;exact rfl;assumption)|(apply T.cond_n;exact rfl;assumption)|(apply T.cond rfl<;>intro))|apply Rnd.step)
    (apply RetOk.t;exact rfl)
    exact ⟨_,by (focus (repeat' first|exact Keep.nil _|exact Ext.one _ _|exact Ext.here _ _|exact Ext.all _|apply Keep.cons|apply Keep.app|apply Keep.last|apply Ext.cons|apply Ext.app);done),none,by rw [h0];exact OvOk.start 1,rfl,rfl,rfl⟩
  | some a =>
    repeat' (first|(apply R.is1;first|(apply R.buildSlice0;(iterate 4 exact rfl);intro b0)|(apply R.isBin;first|(apply R.pure;exact rfl;first|(apply Ok1.eqlS;(iterate 5 exact rfl))|(apply Ok1.eql_t;exact rfl;exact rfl;omega)|(apply Ok1.eql_f;exact rfl;exact rfl;omega)|(apply Ok1.eqlP;(iterate 5 exact rfl))|(apply Ok1.eqlM;(iterate 5 exact rfl))|(apply Ok1.eqlS;(iterate 5 exact rfl)))|(apply R.eql rfl rfl rfl<;>intro)|(apply R.eqlF;(iterate 8 exact rfl);all_goals intro))|(apply R.isCall;first|(apply R.appendRd (xs:=xs) (v:=u8V) (sz:=1) (ov:=some (b0,0,[])) (n:=0) (old:=[]);(iterate 12 exact rfl);exact ⟨rfl,rfl⟩;(focus (repeat' first|exact Ext.none _|exact Ext.one _ _|exact Ext.here _ _|exact Ext.all _|apply Ext.cons|apply Ext.app|apply Ext.two);done);exact hn;exact u8V_len;exact rfl;(intro w1 hw1;exact hp.chg hw1.chg (Off.nil _));(focus (rw [fl_u8];exact u8s_one xs));omega;intro ov1 hov1 hsome))|(apply R.pure;exact rfl;first|(apply Ok1.move;exact rfl)|(apply Ok1.assign;exact rfl))|(apply R.buildSlice;(iterate 12 exact rfl);intro))|(apply R.is0;first|fail)|(apply R.isG;first|(apply R.guard_run;exact rfl;exact rfl)|(apply R.guard_not;(iterate 3 exact rfl))|(apply R.guard_not0;exact rfl;exact rfl)|(apply R.guard_un;(iterate 3 exact rfl))|(apply R.guard_un0;exact rfl;exact rfl)|(apply R.guard rfl rfl ?_ (fun h=>⟨rfl,?_⟩)<;>try intro))|apply R.nil|(apply T.is;first|apply T.seq|apply T.region|apply T.block|apply T.scope|apply T.label|apply T.skip|apply T.exit|apply T.ret|(apply T.cond_t;exact rfl)|(apply T.cond_f;exact rfl)|(apply T.cond_h;exact rfl;assumption)|(apply T.cond_n;exact rfl;assumption)|(apply T.cond rfl<;>intro))|apply Rnd.step)
    rw [Nat.zero_add,List.nil_append,fl_u8] at hov1
    rw [Nat.zero_add,List.nil_append,fl_u8]
    repeat' (first|(apply R.is1;first|(apply R.isBin;first|(apply R.pure;exact rfl;first|(apply Ok1.eql_t;exact rfl;exact rfl;omega)|(apply Ok1.eql_f;exact rfl;exact rfl;omega)|(apply Ok1.eqlP;(iterate 5 exact rfl))|(apply Ok1.eqlM;(iterate 5 exact rfl))|(apply Ok1.eqlS;(iterate 5 exact rfl)))|(apply R.eql rfl rfl rfl<;>intro)|(apply R.eqlF;(iterate 8 exact rfl);all_goals intro))|(apply R.pure;exact rfl;first|(apply Ok1.move;exact rfl)|(apply Ok1.assign;exact rfl))|(apply R.buildSlice;(iterate 12 exact rfl);intro))|(apply R.is0;first|fail)|(apply R.isG;first|(apply R.guard_run;exact rfl;exact rfl)|(apply R.guard_not;(iterate 3 exact rfl))|(apply R.guard_not0;exact rfl;exact rfl)|(apply R.guard_un;(iterate 3 exact rfl))|(apply R.guard_un0;exact rfl;exact rfl)|(apply R.guard rfl rfl ?_ (fun h=>⟨rfl,?_⟩)<;>try intro))|apply R.nil|(apply T.is;first|apply T.seq|apply T.region|apply T.block|apply T.scope|apply T.label|apply T.skip|apply T.exit|apply T.ret|(apply T.cond_t;exact rfl)|(apply T.cond_f;exact rfl)|(apply T.cond_h;exact rfl;assumption)|(apply T.cond_n;exact rfl;assumption)|(apply T.cond rfl<;>intro))|apply Rnd.step)
    (apply RetOk.t;exact rfl)
    refine ⟨_,?_,ov1,hov1,by rw [hsome rfl];rfl,rfl,rfl⟩
    (focus (repeat' first|exact Keep.nil _|exact Ext.one _ _|exact Ext.here _ _|exact Ext.all _|apply Keep.cons|apply Keep.app|apply Keep.last|apply Ext.cons|apply Ext.app);done)
theorem CallM.imp {P:Program} {f:FuncId} {vs:List Value} {L:Lst} {w:World} {R R':Value→Lst→Prop} (h:CallM P f vs L w R) (hr:∀ v L,R v L→R' v L):CallM P f vs L w R' :=
  ⟨fun hw=>(h.run hw).mono fun e w' ⟨v,L',h1,h2,h3⟩=>⟨v,L',h1,hr _ _ h2,h3⟩⟩
theorem rdown {ov:Ov} {xs:List Int} {e:Nat} (hov:OvOk 1 ov xs.length (u8s xs)) {w0 w:World} {S:List Nat} {L:Lst} (hw:Hp w0 S L w) (hin:∀ x∈blkL e ov (u8s xs),x∈L):RdSl w (ovp ov) u8V xs:=by
  rw [← fl_u8] at hov hin
  exact RdSl.own' hw hin hov u8V_len
section
variable {X:Cx} {σ:Env} {L L' Li Lr:Lst} {d:Option Nat} {dd c:Nat} {ty:TypeId} {pos:String} {af:Array Edge} {g:Option (Nat × Bool)} {x y:Operand} {t t2 e:TypeId} {r r2 re:TRow}
variable {all:Array Oper} {rest:List Oper} {K:Env→Lst→Prop} {p:Option Addr} {n m cap i b:Nat}
end
section
variable {X:Cx} {all:Array Oper} {C L L':Lst} {fuel fuel':Nat} {listed listed':Array Bool} {K:Env→Lst→Prop} {σ σ':Env}
/-- Those of a list,one by one. -/
def AllOf (X:Cx) (all:Array Oper) (C:Lst) (fuel:Nat) (listed:Array Bool) (K:Env→Lst→Prop) (σ:Env) (L:Lst):List Nat→Prop
  | []=>True
  | i::is=>(∃ o,all[i]? = some o∧R X all [o] (fun σ' L'=>SubL C L' ∧ A X all C fuel (listed.setIfInBounds i true) K σ' L') σ L)∧AllOf X all C fuel listed K σ L is
theorem AllOf.get:∀ {rs:List Nat},AllOf X all C fuel listed K σ L rs→∀ i∈rs,∃ o,all[i]? = some o∧R X all [o] (fun σ' L'=>SubL C L' ∧ A X all C fuel (listed.setIfInBounds i true) K σ' L') σ L
  | [],_,i,hi=>by cases hi
  | j::js,h,i,hi=>by
    rcases List.mem_cons.1 hi with rfl|hi
    · exact h.1
    · exact AllOf.get h.2 i hi
theorem A.multi (rs:List Nat) (hr:Region.ready .any all listed=rs) (hne:rs≠[]) (h:AllOf X all C fuel listed K σ L rs):A X all C (fuel+1) listed K σ L :=
  ⟨fun a w ha hw hC=>wpAnyC_all hr hne fun w' hc i hi=>by
    obtain ⟨o,ho,h2⟩:=h.get i hi
    exact A.step ho h2 ha (hw.step hc) (hC.step hc)⟩
end
section
variable {X:Cx} {σ:Env} {L L':Lst} {d:Option Nat} {dd b:Nat} {ty:TypeId} {pos:String} {af:Array Edge} {g:Option (Nat × Bool)} {x:Operand} {t e:TypeId} {r re:TRow}
variable {all:Array Oper} {rest:List Oper} {K:Env→Lst→Prop}
end
theorem same_ok (p1 p2:Option Addr) (n1 n2 c1 c2:Nat) (xs ys:List Int) (hn1:n1=xs.length) (hn2:n2=ys.length) (hbig:n1≤1000000000) (w:World) (h1:RdSl w p1 u8V xs) (h2:RdSl w p2 u8V ys):CallW Try.prog 34 [.slice p1 n1 c1,.slice p2 n2 c2] w fun v _=>v = .bool (decide (xs=ys)):=by
  subst hn1 hn2
  refine enterW (tb:=tb) Try.func34 rfl Try.ntmps34 rfl ?_
  by_cases hne:xs.length=ys.length
  · repeat' (first|(apply R.is1;first|(apply R.isBin;first|(apply R.pure;exact rfl;first|(apply Ok1.add64;exact rfl;exact rfl;omega;omega)|(apply Ok1.lss_t;exact rfl;exact rfl;omega)|(apply Ok1.lss_f;exact rfl;exact rfl;omega)|(apply Ok1.neq_t;exact rfl;exact rfl;omega)|(apply Ok1.neq_f;exact rfl;exact rfl;omega)|(apply Ok1.neqP;(iterate 5 exact rfl))|(apply Ok1.neqM;(iterate 5 exact rfl))|(apply Ok1.neqS;(iterate 5 exact rfl)))|(apply R.lss rfl rfl rfl<;>intro)|(apply R.neq rfl rfl rfl<;>intro)|(apply R.neqF;(iterate 8 exact rfl);all_goals intro))|(apply R.isCall;first|(apply R.pure;exact rfl;first|(apply Ok1.lenS;(iterate 3 exact rfl))|(apply Ok1.lenStr;(iterate 3 exact rfl))|(apply Ok1.lenMm;(iterate 3 exact rfl);(focus (repeat' first|exact At.head|apply At.tail|apply At.right);done))|(apply Ok1.lenM_nil;(iterate 3 exact rfl))))|(apply R.pure;exact rfl;first|(apply Ok1.move;exact rfl)|(apply Ok1.load;exact rfl;first|(apply Ld.own1;exact rfl;exact rfl;(focus (repeat' first|exact At.head|apply At.tail|apply At.right);done);exact rfl)|(apply Ld.ownk;exact rfl;exact rfl;(focus (repeat' first|exact At.head|apply At.tail|apply At.right);done);exact rfl)|(apply Ld.old1;exact rfl;exact rfl;assumption;(first|exact List.not_mem_nil|assumption))|(apply Ld.blk1;exact rfl;exact rfl;assumption;(first|exact List.not_mem_nil|assumption);exact rfl)|(apply Ld.blkk;exact rfl;exact rfl;assumption;(first|exact List.not_mem_nil|assumption);exact rfl))|(apply Ok1.assign;exact rfl)|(apply Ok1.indexAddr;(iterate 5 exact rfl);omega;omega)|(apply Ok1.indexAddrA;(iterate 5 exact rfl);omega;omega)))|(apply R.is0;first|fail)|(apply R.isG;first|(apply R.guard_run;exact rfl;exact rfl)|(apply R.guard_not;(iterate 3 exact rfl))|(apply R.guard_not0;exact rfl;exact rfl)|(apply R.guard_un;(iterate 3 exact rfl))|(apply R.guard_un0;exact rfl;exact rfl)|(apply R.guard rfl rfl ?_ (fun h=>⟨rfl,?_⟩)<;>try intro))|apply R.nil|(apply T.is;first|apply T.seq|apply T.region|apply T.block|apply T.scope|apply T.label|apply T.skip|apply T.exit|apply T.ret|(apply T.cond_t;exact rfl)|(apply T.cond_f;exact rfl)|(apply T.cond_h;exact rfl;assumption)|(apply T.cond_n;exact rfl;assumption)|(apply T.cond rfl<;>intro))|apply Rnd.step)
    apply T.loopK (α:=Nat) (I:=fun i=>i≤xs.length∧xs.take i=ys.take i) (σi:=fun i=>[(0,.slice p1 xs.length c1),(1,.slice p2 ys.length c2),(5,.int .i64 i)]) (Li:=fun _=>[]) (μ:=fun i=>xs.length - i) (i0:=0)
    · exact ⟨Nat.zero_le _,rfl⟩
    · exact ⟨rfl,rfl,rfl,trivial⟩
    · (focus (repeat' first|exact Keep.nil _|exact Ext.one _ _|exact Ext.here _ _|exact Ext.all _|apply Keep.cons|apply Keep.app|apply Keep.last|apply Ext.cons|apply Ext.app);done)
    · intro i ⟨hi,htk⟩
      rcases Nat.lt_or_ge i xs.length with hlt|hge
      · obtain ⟨x,hx⟩:∃ x,xs[i]? = some x:=⟨_,List.getElem?_eq_getElem (by omega)⟩
        obtain ⟨y,hy⟩:∃ y,ys[i]? = some y:=⟨_,List.getElem?_eq_getElem (by omega)⟩
        obtain ⟨b1,o1,hpe1,H1⟩:=h1.at hx
        obtain ⟨b2,o2,hpe2,H2⟩:=h2.at hy
        replace H1:=H1 1 u8V_len
        replace H2:=H2 1 u8V_len
        by_cases hxy:x=y
        · repeat' (first|(apply R.is1;first|(apply R.isBin;first|(apply R.pure;exact rfl;first|(apply Ok1.add64;exact rfl;exact rfl;omega;omega)|(apply Ok1.lss_t;exact rfl;exact rfl;omega)|(apply Ok1.lss_f;exact rfl;exact rfl;omega)|(apply Ok1.neq_t;exact rfl;exact rfl;omega)|(apply Ok1.neq_f;exact rfl;exact rfl;omega)|(apply Ok1.neqP;(iterate 5 exact rfl))|(apply Ok1.neqM;(iterate 5 exact rfl))|(apply Ok1.neqS;(iterate 5 exact rfl)))|(apply R.lss rfl rfl rfl<;>intro)|(apply R.neq rfl rfl rfl<;>intro)|(apply R.neqF;(iterate 8 exact rfl);all_goals intro))|(apply R.isCall;first|(apply R.pure;exact rfl;first|(apply Ok1.lenS;(iterate 3 exact rfl))|(apply Ok1.lenStr;(iterate 3 exact rfl))|(apply Ok1.lenMm;(iterate 3 exact rfl);(focus (repeat' first|exact At.head|apply At.tail|apply At.right);done))|(apply Ok1.lenM_nil;(iterate 3 exact rfl))))|(apply R.pure;exact rfl;first|(apply Ok1.indexAddrP;(iterate 4 exact rfl);(first|exact hpe1|exact hpe2);exact rfl;omega;omega)|(apply Ok1.load;exact rfl;first|(apply Ld.row0 H1;exact rfl;exact List.not_mem_nil;(iterate 3 exact rfl))|(apply Ld.row0 H2;exact rfl;exact List.not_mem_nil;(iterate 3 exact rfl)))|(apply Ok1.move;exact rfl)|(apply Ok1.load;exact rfl;first|(apply Ld.own1;exact rfl;exact rfl;(focus (repeat' first|exact At.head|apply At.tail|apply At.right);done);exact rfl)|(apply Ld.ownk;exact rfl;exact rfl;(focus (repeat' first|exact At.head|apply At.tail|apply At.right);done);exact rfl)|(apply Ld.old1;exact rfl;exact rfl;assumption;(first|exact List.not_mem_nil|assumption))|(apply Ld.blk1;exact rfl;exact rfl;assumption;(first|exact List.not_mem_nil|assumption);exact rfl)|(apply Ld.blkk;exact rfl;exact rfl;assumption;(first|exact List.not_mem_nil|assumption);exact rfl))|(apply Ok1.assign;exact rfl)|(apply Ok1.indexAddr;(iterate 5 exact rfl);omega;omega)|(apply Ok1.indexAddrA;(iterate 5 exact rfl);omega;omega)))|(apply R.is0;first|fail)|(apply R.isG;first|(apply R.guard_run;exact rfl;exact rfl)|(apply R.guard_not;(iterate 3 exact rfl))|(apply R.guard_not0;exact rfl;exact rfl)|(apply R.guard_un;(iterate 3 exact rfl))|(apply R.guard_un0;exact rfl;exact rfl)|(apply R.guard rfl rfl ?_ (fun h=>⟨rfl,?_⟩)<;>try intro))|apply R.nil|(apply T.is;first|(apply T.drawC (id:=6) [] (by decide);((apply A.tk 0;exact rfl;kernel_rfl;first|(apply Ok1.move;exact rfl))<;>(apply A.tk 1;exact rfl;kernel_rfl;first|(apply Ok1.move;exact rfl))<;>(apply A.tk 2;exact rfl;kernel_rfl;first|(apply Ok1.indexAddrP;(iterate 4 exact rfl);(first|exact hpe1|exact hpe2);exact rfl;omega;omega)|(apply Ok1.indexAddr;(iterate 5 exact rfl);omega;omega)|(apply Ok1.indexAddrA;(iterate 5 exact rfl);omega;omega))<;>(apply A.tk 3;exact rfl;kernel_rfl;first|(apply Ok1.load;exact rfl;first|(apply Ld.row0 H1;exact rfl;exact List.not_mem_nil;(iterate 3 exact rfl))|(apply Ld.row0 H2;exact rfl;exact List.not_mem_nil;(iterate 3 exact rfl)))|(apply Ok1.load;exact rfl;first|(apply Ld.own1;exact rfl;exact rfl;(focus (repeat' first|exact At.head|apply At.tail|apply At.right);done);exact rfl)|(apply Ld.ownk;exact rfl;exact rfl;(focus (repeat' first|exact At.head|apply At.tail|apply At.right);done);exact rfl)|(apply Ld.old1;exact rfl;exact rfl;assumption;(first|exact List.not_mem_nil|assumption))|(apply Ld.blk1;exact rfl;exact rfl;assumption;(first|exact List.not_mem_nil|assumption);exact rfl)|(apply Ld.blkk;exact rfl;exact rfl;assumption;(first|exact List.not_mem_nil|assumption);exact rfl)))<;>(apply A.tk 4;exact rfl;kernel_rfl;first|(apply Ok1.move;exact rfl))<;>(apply A.tk 5;exact rfl;kernel_rfl;first|(apply Ok1.move;exact rfl))<;>(apply A.tk 6;exact rfl;kernel_rfl;first|(apply Ok1.indexAddrP;(iterate 4 exact rfl);(first|exact hpe1|exact hpe2);exact rfl;omega;omega)|(apply Ok1.indexAddr;(iterate 5 exact rfl);omega;omega)|(apply Ok1.indexAddrA;(iterate 5 exact rfl);omega;omega))<;>(apply A.tk 7;exact rfl;kernel_rfl;first|(apply Ok1.load;exact rfl;first|(apply Ld.row0 H1;exact rfl;exact List.not_mem_nil;(iterate 3 exact rfl))|(apply Ld.row0 H2;exact rfl;exact List.not_mem_nil;(iterate 3 exact rfl)))|(apply Ok1.load;exact rfl;first|(apply Ld.own1;exact rfl;exact rfl;(focus (repeat' first|exact At.head|apply At.tail|apply At.right);done);exact rfl)|(apply Ld.ownk;exact rfl;exact rfl;(focus (repeat' first|exact At.head|apply At.tail|apply At.right);done);exact rfl)|(apply Ld.old1;exact rfl;exact rfl;assumption;(first|exact List.not_mem_nil|assumption))|(apply Ld.blk1;exact rfl;exact rfl;assumption;(first|exact List.not_mem_nil|assumption);exact rfl)|(apply Ld.blkk;exact rfl;exact rfl;assumption;(first|exact List.not_mem_nil|assumption);exact rfl)))<;>(first|(apply A.tk 8;exact rfl;kernel_rfl;first|(apply Ok1.neq_t;exact rfl;exact rfl;omega)|(apply Ok1.neq_f;exact rfl;exact rfl;omega)|(apply Ok1.neqP;(iterate 5 exact rfl))|(apply Ok1.neqM;(iterate 5 exact rfl))|(apply Ok1.neqS;(iterate 5 exact rfl)))|(apply A.tk 8;exact rfl;kernel_rfl;(first|(apply Ok1.neq;exact rfl;exact rfl)|(apply Ok1.neqF;(iterate 7 exact rfl)));apply A.dec (t:=25);exact rfl;all_goals intro))<;>(apply A.done;kernel_rfl)))|apply T.seq|apply T.region|apply T.block|apply T.scope|apply T.label|apply T.skip|apply T.exit|apply T.ret|(apply T.cond_t;exact rfl)|(apply T.cond_f;exact rfl)|(apply T.cond_h;exact rfl;assumption)|(apply T.cond_n;exact rfl;assumption)|(apply T.cond rfl<;>intro))|apply Rnd.step)
          refine ⟨i+1,⟨by omega,?_⟩,by omega,⟨rfl,rfl,rfl,trivial⟩,by (focus (repeat' first|exact Keep.nil _|exact Ext.one _ _|exact Ext.here _ _|exact Ext.all _|apply Keep.cons|apply Keep.app|apply Keep.last|apply Ext.cons|apply Ext.app);done)⟩
          rw [List.take_add_one,List.take_add_one,htk,hx,hy,hxy]
        · repeat' (first|(apply R.is1;first|(apply R.isBin;first|(apply R.pure;exact rfl;first|(apply Ok1.add64;exact rfl;exact rfl;omega;omega)|(apply Ok1.lss_t;exact rfl;exact rfl;omega)|(apply Ok1.lss_f;exact rfl;exact rfl;omega)|(apply Ok1.neq_t;exact rfl;exact rfl;omega)|(apply Ok1.neq_f;exact rfl;exact rfl;omega)|(apply Ok1.neqP;(iterate 5 exact rfl))|(apply Ok1.neqM;(iterate 5 exact rfl))|(apply Ok1.neqS;(iterate 5 exact rfl)))|(apply R.lss rfl rfl rfl<;>intro)|(apply R.neq rfl rfl rfl<;>intro)|(apply R.neqF;(iterate 8 exact rfl);all_goals intro))|(apply R.isCall;first|(apply R.pure;exact rfl;first|(apply Ok1.lenS;(iterate 3 exact rfl))|(apply Ok1.lenStr;(iterate 3 exact rfl))|(apply Ok1.lenMm;(iterate 3 exact rfl);(focus (repeat' first|exact At.head|apply At.tail|apply At.right);done))|(apply Ok1.lenM_nil;(iterate 3 exact rfl))))|(apply R.pure;exact rfl;first|(apply Ok1.indexAddrP;(iterate 4 exact rfl);(first|exact hpe1|exact hpe2);exact rfl;omega;omega)|(apply Ok1.load;exact rfl;first|(apply Ld.row0 H1;exact rfl;exact List.not_mem_nil;(iterate 3 exact rfl))|(apply Ld.row0 H2;exact rfl;exact List.not_mem_nil;(iterate 3 exact rfl)))|(apply Ok1.move;exact rfl)|(apply Ok1.load;exact rfl;first|(apply Ld.own1;exact rfl;exact rfl;(focus (repeat' first|exact At.head|apply At.tail|apply At.right);done);exact rfl)|(apply Ld.ownk;exact rfl;exact rfl;(focus (repeat' first|exact At.head|apply At.tail|apply At.right);done);exact rfl)|(apply Ld.old1;exact rfl;exact rfl;assumption;(first|exact List.not_mem_nil|assumption))|(apply Ld.blk1;exact rfl;exact rfl;assumption;(first|exact List.not_mem_nil|assumption);exact rfl)|(apply Ld.blkk;exact rfl;exact rfl;assumption;(first|exact List.not_mem_nil|assumption);exact rfl))|(apply Ok1.assign;exact rfl)|(apply Ok1.indexAddr;(iterate 5 exact rfl);omega;omega)|(apply Ok1.indexAddrA;(iterate 5 exact rfl);omega;omega)))|(apply R.is0;first|fail)|(apply R.isG;first|(apply R.guard_run;exact rfl;exact rfl)|(apply R.guard_not;(iterate 3 exact rfl))|(apply R.guard_not0;exact rfl;exact rfl)|(apply R.guard_un;(iterate 3 exact rfl))|(apply R.guard_un0;exact rfl;exact rfl)|(apply R.guard rfl rfl ?_ (fun h=>⟨rfl,?_⟩)<;>try intro))|apply R.nil|(apply T.is;first|(apply T.drawC (id:=6) [] (by decide);((apply A.tk 0;exact rfl;kernel_rfl;first|(apply Ok1.move;exact rfl))<;>(apply A.tk 1;exact rfl;kernel_rfl;first|(apply Ok1.move;exact rfl))<;>(apply A.tk 2;exact rfl;kernel_rfl;first|(apply Ok1.indexAddrP;(iterate 4 exact rfl);(first|exact hpe1|exact hpe2);exact rfl;omega;omega)|(apply Ok1.indexAddr;(iterate 5 exact rfl);omega;omega)|(apply Ok1.indexAddrA;(iterate 5 exact rfl);omega;omega))<;>(apply A.tk 3;exact rfl;kernel_rfl;first|(apply Ok1.load;exact rfl;first|(apply Ld.row0 H1;exact rfl;exact List.not_mem_nil;(iterate 3 exact rfl))|(apply Ld.row0 H2;exact rfl;exact List.not_mem_nil;(iterate 3 exact rfl)))|(apply Ok1.load;exact rfl;first|(apply Ld.own1;exact rfl;exact rfl;(focus (repeat' first|exact At.head|apply At.tail|apply At.right);done);exact rfl)|(apply Ld.ownk;exact rfl;exact rfl;(focus (repeat' first|exact At.head|apply At.tail|apply At.right);done);exact rfl)|(apply Ld.old1;exact rfl;exact rfl;assumption;(first|exact List.not_mem_nil|assumption))|(apply Ld.blk1;exact rfl;exact rfl;assumption;(first|exact List.not_mem_nil|assumption);exact rfl)|(apply Ld.blkk;exact rfl;exact rfl;assumption;(first|exact List.not_mem_nil|assumption);exact rfl)))<;>(apply A.tk 4;exact rfl;kernel_rfl;first|(apply Ok1.move;exact rfl))<;>(apply A.tk 5;exact rfl;kernel_rfl;first|(apply Ok1.move;exact rfl))<;>(apply A.tk 6;exact rfl;kernel_rfl;first|(apply Ok1.indexAddrP;(iterate 4 exact rfl);(first|exact hpe1|exact hpe2);exact rfl;omega;omega)|(apply Ok1.indexAddr;(iterate 5 exact rfl);omega;omega)|(apply Ok1.indexAddrA;(iterate 5 exact rfl);omega;omega))<;>(apply A.tk 7;exact rfl;kernel_rfl;first|(apply Ok1.load;exact rfl;first|(apply Ld.row0 H1;exact rfl;exact List.not_mem_nil;(iterate 3 exact rfl))|(apply Ld.row0 H2;exact rfl;exact List.not_mem_nil;(iterate 3 exact rfl)))|(apply Ok1.load;exact rfl;first|(apply Ld.own1;exact rfl;exact rfl;(focus (repeat' first|exact At.head|apply At.tail|apply At.right);done);exact rfl)|(apply Ld.ownk;exact rfl;exact rfl;(focus (repeat' first|exact At.head|apply At.tail|apply At.right);done);exact rfl)|(apply Ld.old1;exact rfl;exact rfl;assumption;(first|exact List.not_mem_nil|assumption))|(apply Ld.blk1;exact rfl;exact rfl;assumption;(first|exact List.not_mem_nil|assumption);exact rfl)|(apply Ld.blkk;exact rfl;exact rfl;assumption;(first|exact List.not_mem_nil|assumption);exact rfl)))<;>(first|(apply A.tk 8;exact rfl;kernel_rfl;first|(apply Ok1.neq_t;exact rfl;exact rfl;omega)|(apply Ok1.neq_f;exact rfl;exact rfl;omega)|(apply Ok1.neqP;(iterate 5 exact rfl))|(apply Ok1.neqM;(iterate 5 exact rfl))|(apply Ok1.neqS;(iterate 5 exact rfl)))|(apply A.tk 8;exact rfl;kernel_rfl;(first|(apply Ok1.neq;exact rfl;exact rfl)|(apply Ok1.neqF;(iterate 7 exact rfl)));apply A.dec (t:=25);exact rfl;all_goals intro))<;>(apply A.done;kernel_rfl)))|apply T.seq|apply T.region|apply T.block|apply T.scope|apply T.label|apply T.skip|apply T.exit|apply T.ret|(apply T.cond_t;exact rfl)|(apply T.cond_f;exact rfl)|(apply T.cond_h;exact rfl;assumption)|(apply T.cond_n;exact rfl;assumption)|(apply T.cond rfl<;>intro))|apply Rnd.step)
          all_goals (apply RetOk.t;exact rfl)
          all_goals rw [decide_eq_false]
          intro e
          rw [e,hy] at hx
          cases hx
          exact hxy rfl
      · repeat' (first|(apply R.is1;first|(apply R.isBin;first|(apply R.pure;exact rfl;first|(apply Ok1.add64;exact rfl;exact rfl;omega;omega)|(apply Ok1.lss_t;exact rfl;exact rfl;omega)|(apply Ok1.lss_f;exact rfl;exact rfl;omega)|(apply Ok1.neq_t;exact rfl;exact rfl;omega)|(apply Ok1.neq_f;exact rfl;exact rfl;omega)|(apply Ok1.neqP;(iterate 5 exact rfl))|(apply Ok1.neqM;(iterate 5 exact rfl))|(apply Ok1.neqS;(iterate 5 exact rfl)))|(apply R.lss rfl rfl rfl<;>intro)|(apply R.neq rfl rfl rfl<;>intro)|(apply R.neqF;(iterate 8 exact rfl);all_goals intro))|(apply R.isCall;first|(apply R.pure;exact rfl;first|(apply Ok1.lenS;(iterate 3 exact rfl))|(apply Ok1.lenStr;(iterate 3 exact rfl))|(apply Ok1.lenMm;(iterate 3 exact rfl);(focus (repeat' first|exact At.head|apply At.tail|apply At.right);done))|(apply Ok1.lenM_nil;(iterate 3 exact rfl))))|(apply R.pure;exact rfl;first|(apply Ok1.move;exact rfl)|(apply Ok1.load;exact rfl;first|(apply Ld.own1;exact rfl;exact rfl;(focus (repeat' first|exact At.head|apply At.tail|apply At.right);done);exact rfl)|(apply Ld.ownk;exact rfl;exact rfl;(focus (repeat' first|exact At.head|apply At.tail|apply At.right);done);exact rfl)|(apply Ld.old1;exact rfl;exact rfl;assumption;(first|exact List.not_mem_nil|assumption))|(apply Ld.blk1;exact rfl;exact rfl;assumption;(first|exact List.not_mem_nil|assumption);exact rfl)|(apply Ld.blkk;exact rfl;exact rfl;assumption;(first|exact List.not_mem_nil|assumption);exact rfl))|(apply Ok1.assign;exact rfl)|(apply Ok1.indexAddr;(iterate 5 exact rfl);omega;omega)|(apply Ok1.indexAddrA;(iterate 5 exact rfl);omega;omega)))|(apply R.is0;first|fail)|(apply R.isG;first|(apply R.guard_run;exact rfl;exact rfl)|(apply R.guard_not;(iterate 3 exact rfl))|(apply R.guard_not0;exact rfl;exact rfl)|(apply R.guard_un;(iterate 3 exact rfl))|(apply R.guard_un0;exact rfl;exact rfl)|(apply R.guard rfl rfl ?_ (fun h=>⟨rfl,?_⟩)<;>try intro))|apply R.nil|(apply T.is;first|apply T.seq|apply T.region|apply T.block|apply T.scope|apply T.label|apply T.skip|apply T.exit|apply T.ret|(apply T.cond_t;exact rfl)|(apply T.cond_f;exact rfl)|(apply T.cond_h;exact rfl;assumption)|(apply T.cond_n;exact rfl;assumption)|(apply T.cond rfl<;>intro))|apply Rnd.step)
        (apply RetOk.t;exact rfl)
        rw [List.take_of_length_le hge,List.take_of_length_le (by omega)] at htk
        rw [decide_eq_true htk]
  · repeat' (first|(apply R.is1;first|(apply R.isBin;first|(apply R.pure;exact rfl;first|(apply Ok1.add64;exact rfl;exact rfl;omega;omega)|(apply Ok1.lss_t;exact rfl;exact rfl;omega)|(apply Ok1.lss_f;exact rfl;exact rfl;omega)|(apply Ok1.neq_t;exact rfl;exact rfl;omega)|(apply Ok1.neq_f;exact rfl;exact rfl;omega)|(apply Ok1.neqP;(iterate 5 exact rfl))|(apply Ok1.neqM;(iterate 5 exact rfl))|(apply Ok1.neqS;(iterate 5 exact rfl)))|(apply R.lss rfl rfl rfl<;>intro)|(apply R.neq rfl rfl rfl<;>intro)|(apply R.neqF;(iterate 8 exact rfl);all_goals intro))|(apply R.isCall;first|(apply R.pure;exact rfl;first|(apply Ok1.lenS;(iterate 3 exact rfl))|(apply Ok1.lenStr;(iterate 3 exact rfl))|(apply Ok1.lenMm;(iterate 3 exact rfl);(focus (repeat' first|exact At.head|apply At.tail|apply At.right);done))|(apply Ok1.lenM_nil;(iterate 3 exact rfl))))|(apply R.pure;exact rfl;first|(apply Ok1.move;exact rfl)|(apply Ok1.load;exact rfl;first|(apply Ld.own1;exact rfl;exact rfl;(focus (repeat' first|exact At.head|apply At.tail|apply At.right);done);exact rfl)|(apply Ld.ownk;exact rfl;exact rfl;(focus (repeat' first|exact At.head|apply At.tail|apply At.right);done);exact rfl)|(apply Ld.old1;exact rfl;exact rfl;assumption;(first|exact List.not_mem_nil|assumption))|(apply Ld.blk1;exact rfl;exact rfl;assumption;(first|exact List.not_mem_nil|assumption);exact rfl)|(apply Ld.blkk;exact rfl;exact rfl;assumption;(first|exact List.not_mem_nil|assumption);exact rfl))|(apply Ok1.assign;exact rfl)|(apply Ok1.indexAddr;(iterate 5 exact rfl);omega;omega)|(apply Ok1.indexAddrA;(iterate 5 exact rfl);omega;omega)))|(apply R.is0;first|fail)|(apply R.isG;first|(apply R.guard_run;exact rfl;exact rfl)|(apply R.guard_not;(iterate 3 exact rfl))|(apply R.guard_not0;exact rfl;exact rfl)|(apply R.guard_un;(iterate 3 exact rfl))|(apply R.guard_un0;exact rfl;exact rfl)|(apply R.guard rfl rfl ?_ (fun h=>⟨rfl,?_⟩)<;>try intro))|apply R.nil|(apply T.is;first|apply T.seq|apply T.region|apply T.block|apply T.scope|apply T.label|apply T.skip|apply T.exit|apply T.ret|(apply T.cond_t;exact rfl)|(apply T.cond_f;exact rfl)|(apply T.cond_h;exact rfl;assumption)|(apply T.cond_n;exact rfl;assumption)|(apply T.cond rfl<;>intro))|apply Rnd.step)
    all_goals (apply RetOk.t;exact rfl)
    all_goals rw [decide_eq_false]
    exact fun e=>hne (by rw [e])
/-- A key that was made: its block,its bytes'. -/
def KL (bk:Nat) (ov:Ov) (xs:List Int):Lst:=(bk,.cells ⟨[slV ov xs.length]⟩ 109 (0,0))::blkL 5 ov (u8s xs)
/-- A key that is read. -/
def KeyR (w:World) (bk:Nat) (xs:List Int):Prop:=∃ p cap,w.heap[bk]? = some (.cells ⟨[.slice p xs.length cap]⟩ 109 (0,0))∧RdSl w p u8V xs
theorem KeyR.of {ov:Ov} {bk:Nat} {xs:List Int} (hov:OvOk 1 ov xs.length (u8s xs)) {w0 w:World} {S:List Nat} {L:Lst} (hw:Hp w0 S L w) (hin:∀ z∈KL bk ov xs,z∈L):KeyR w bk xs:=by
  refine ⟨ovp ov,ovc ov xs.length,?_,rdown hov hw fun z hz=>hin z (List.mem_cons_of_mem _ hz)⟩
  rw [← slV_eq hov]
  exact hw.get _ _ (hin _ List.mem_cons_self)
theorem new_ok (p:Option Addr) (n cap:Nat) (xs:List Int) (hn:n=xs.length) (hbig:n≤1000000000) (w:World) (hp:RdSl w p u8V xs) :
    CallM Try.prog 13 [.slice p n cap] [] w fun v L=>∃ bk ov,v = .pointer (some ⟨bk,0,none⟩)∧OvOk 1 ov xs.length (u8s xs)∧ov.isSome=p.isSome∧L=KL bk ov xs:=by
  subst hn
  refine enterK (tb:=tb) Try.func13 rfl Try.ntmps13 rfl ?_
  have hcl:=fun w1 (hc:Chg [] w w1)=>clone_ok p xs.length cap xs rfl hbig w1 (hp.chg' hc (fun _=>Off.nil _))
  repeat' (first|(apply R.is1;first|(apply R.isCall;first|(apply R.callE;(iterate 3 exact rfl);exact Ext.none _;intro w1 hw1;exact hcl w1 hw1.chg;rintro v Lo ⟨ov2,hov2,hsome,rfl,rfl⟩;rw [slV_eq hov2]))|(apply R.pure;exact rfl;first|(apply Ok1.move;exact rfl)|(apply Ok1.assign;exact rfl)|(apply Ok1.build;(iterate 5 exact rfl))|(apply Ok1.buildA;(iterate 6 exact rfl)))|(apply R.box;(iterate 3 exact rfl);intro))|(apply R.is0;first|fail)|(apply R.isG;first|(apply R.guard_run;exact rfl;exact rfl)|(apply R.guard_not;(iterate 3 exact rfl))|(apply R.guard_not0;exact rfl;exact rfl)|(apply R.guard_un;(iterate 3 exact rfl))|(apply R.guard_un0;exact rfl;exact rfl)|(apply R.guard rfl rfl ?_ (fun h=>⟨rfl,?_⟩)<;>try intro))|apply R.nil|(apply T.is;first|apply T.seq|apply T.region|apply T.block|apply T.scope|apply T.label|apply T.skip|apply T.exit|apply T.ret|(apply T.cond_t;exact rfl)|(apply T.cond_f;exact rfl)|(apply T.cond_h;exact rfl;assumption)|(apply T.cond_n;exact rfl;assumption)|(apply T.cond rfl<;>intro))|apply Rnd.step)
  rename_i bk
  (apply RetOk.t;exact rfl)
  refine ⟨_,?_,bk,ov2,rfl,hov2,hsome,rfl⟩
  simp only [KL,slV_eq hov2]
  (focus (repeat' first|exact Keep.nil _|exact Ext.one _ _|exact Ext.here _ _|exact Ext.all _|apply Keep.cons|apply Keep.app|apply Keep.last|apply Ext.cons|apply Ext.app);done)
theorem bytes_ok (bk:Nat) (xs:List Int) (hbig:xs.length≤1000000000) (w:World) (hk:KeyR w bk xs) :
    CallM Try.prog 35 [.pointer (some ⟨bk,0,none⟩)] [] w fun v L=>∃ ov,OvOk 1 ov xs.length (u8s xs)∧v=slV ov xs.length∧L=blkL 5 ov (u8s xs):=by
  obtain ⟨p,cap,hb,hp⟩:=hk
  refine enterK (tb:=tb) Try.func35 rfl Try.ntmps35 rfl ?_
  have hcl:=fun w1 (hc:Chg [] w w1)=>clone_ok p xs.length cap xs rfl hbig w1 (hp.chg' hc (fun _=>Off.nil _))
  repeat' (first|(apply R.is1;first|(apply R.isBin;first|(apply R.pure;exact rfl;first|(apply Ok1.eql_t;exact rfl;exact rfl;omega)|(apply Ok1.eql_f;exact rfl;exact rfl;omega)|(apply Ok1.eqlP;(iterate 5 exact rfl))|(apply Ok1.eqlM;(iterate 5 exact rfl))|(apply Ok1.eqlS;(iterate 5 exact rfl)))|(apply R.eql rfl rfl rfl<;>intro)|(apply R.eqlF;(iterate 8 exact rfl);all_goals intro))|(apply R.isCall;first|(apply R.callE;(iterate 3 exact rfl);exact Ext.none _;intro w1 hw1;exact hcl w1 hw1.chg;rintro v Lo ⟨ov2,hov2,hsome,rfl,rfl⟩))|(apply R.pure;exact rfl;first|(apply Ok1.move;exact rfl)|(apply Ok1.fieldAddr;(iterate 5 exact rfl))|(apply Ok1.load;exact rfl;first|(apply Ld.own1;exact rfl;exact rfl;(focus (repeat' first|exact At.head|apply At.tail|apply At.right);done);exact rfl)|(apply Ld.ownk;exact rfl;exact rfl;(focus (repeat' first|exact At.head|apply At.tail|apply At.right);done);exact rfl)|(apply Ld.old1;exact rfl;exact rfl;assumption;(first|exact List.not_mem_nil|assumption))|(apply Ld.blk1;exact rfl;exact rfl;assumption;(first|exact List.not_mem_nil|assumption);exact rfl)|(apply Ld.blkk;exact rfl;exact rfl;assumption;(first|exact List.not_mem_nil|assumption);exact rfl))|(apply Ok1.assign;exact rfl)|(apply Ok1.nilCheck;exact rfl)|(apply Ok1.nilCheckF;exact rfl)))|(apply R.is0;first|fail)|(apply R.isG;first|(apply R.guard_run;exact rfl;exact rfl)|(apply R.guard_not;(iterate 3 exact rfl))|(apply R.guard_not0;exact rfl;exact rfl)|(apply R.guard_un;(iterate 3 exact rfl))|(apply R.guard_un0;exact rfl;exact rfl)|(apply R.guard rfl rfl ?_ (fun h=>⟨rfl,?_⟩)<;>try intro))|apply R.nil|(apply T.is;first|apply T.seq|apply T.region|apply T.block|apply T.scope|apply T.label|apply T.skip|apply T.exit|apply T.ret|(apply T.cond_t;exact rfl)|(apply T.cond_f;exact rfl)|(apply T.cond_h;exact rfl;assumption)|(apply T.cond_n;exact rfl;assumption)|(apply T.cond rfl<;>intro))|apply Rnd.step)
  (apply RetOk.t;exact rfl)
  exact ⟨_,by (focus (repeat' first|exact Keep.nil _|exact Ext.one _ _|exact Ext.here _ _|exact Ext.all _|apply Keep.cons|apply Keep.app|apply Keep.last|apply Ext.cons|apply Ext.app);done),ov2,hov2,rfl,rfl⟩
structure Cl where
  id:Int
  roles:Int
  exp:Int
  ser:Int
  deriving DecidableEq
instance:Inhabited Cl:=⟨⟨0,0,0,0⟩⟩
def Cl.v (c:Cl):List Value:=[.int .i64 c.id,.int .i64 c.roles,.int .i64 c.exp,.int .i64 c.ser]
def kvC (c:Cl):Value:=.agg ⟨[.int .i64 c.id,.int .i64 c.roles,.int .i64 c.exp,.int .i64 c.ser]⟩
def Cl.right (c:Cl):Prop:=1≤c.id∧c.id≤65535∧0≤c.roles∧c.roles≤255∧0≤c.exp∧c.exp≤1073741824∧1≤c.ser∧c.ser≤65535
instance (c:Cl):Decidable c.right:=by unfold Cl.right;infer_instance

theorem spans_ok (a b c d:Int):CallP Try.prog 72 [.agg ⟨[.int .i64 a,.int .i64 b,.int .i64 c,.int .i64 d]⟩]
    (.agg ⟨[.int .i64 a,.int .i64 1,.int .i64 65535,.int .i64 b,.int .i64 0,.int .i64 255,.int .i64 c,.int .i64 0,.int .i64 1073741824,.int .i64 d,.int .i64 1,.int .i64 65535]⟩):=by
  refine enterP (tb:=tb) Try.func72 rfl Try.ntmps72 rfl fun w=>?_
  repeat' (first|(apply R.is1;first|(apply R.pure;exact rfl;first|(apply Ok1.fieldAddr;(iterate 5 exact rfl))|(apply Ok1.load;exact rfl;first|(apply Ld.own1;exact rfl;exact rfl;(focus (repeat' first|exact At.head|apply At.tail|apply At.right);done);exact rfl)|(apply Ld.ownk;exact rfl;exact rfl;(focus (repeat' first|exact At.head|apply At.tail|apply At.right);done);exact rfl)|(apply Ld.old1;exact rfl;exact rfl;assumption;(first|exact List.not_mem_nil|assumption))|(apply Ld.blk1;exact rfl;exact rfl;assumption;(first|exact List.not_mem_nil|assumption);exact rfl)|(apply Ld.blkk;exact rfl;exact rfl;assumption;(first|exact List.not_mem_nil|assumption);exact rfl))|(apply Ok1.build;(iterate 5 exact rfl))|(apply Ok1.buildA;(iterate 6 exact rfl)))|(apply R.box;(iterate 3 exact rfl);intro)|(apply R.alloc;(iterate 3 exact rfl);intro))|(apply R.is0;first|(apply R.store;(iterate 6 exact rfl);(focus (repeat' first|exact Upd.head|apply Upd.tail|apply Upd.right);done);exact rfl)|fail)|(apply R.isG;first|(apply R.guard_run;exact rfl;exact rfl)|(apply R.guard_not;(iterate 3 exact rfl))|(apply R.guard_not0;exact rfl;exact rfl)|(apply R.guard_un;(iterate 3 exact rfl))|(apply R.guard_un0;exact rfl;exact rfl)|(apply R.guard rfl rfl ?_ (fun h=>⟨rfl,?_⟩)<;>try intro))|apply R.nil|(apply T.is;first|apply T.seq|apply T.region|apply T.block|apply T.scope|apply T.label|apply T.skip|apply T.exit|apply T.ret|(apply T.cond_t;exact rfl)|(apply T.cond_f;exact rfl)|(apply T.cond_h;exact rfl;assumption)|(apply T.cond_n;exact rfl;assumption)|(apply T.cond rfl<;>intro))|apply Rnd.step)
  (apply RetOk.c;exact rfl;(first|(apply Ld.ownk;exact rfl;exact rfl;(focus (repeat' first|exact At.head|apply At.tail|apply At.right);done);exact rfl)|(apply Ld.own1;exact rfl;exact rfl;(focus (repeat' first|exact At.head|apply At.tail|apply At.right);done);exact rfl)))
  rfl
theorem check_ok (a b c d:Int):CallP Try.prog 48 [.agg ⟨[.int .i64 a,.int .i64 b,.int .i64 c,.int .i64 d]⟩] (.int .i64 (if Cl.right ⟨a,b,c,d⟩ then 0 else 10)):=by
  refine enterP (tb:=tb) Try.func48 rfl Try.ntmps48 rfl fun w=>?_
  repeat' (first|(apply R.is1;first|(apply R.isBin;first|(apply R.pure;exact rfl;first|(apply Ok1.add64;exact rfl;exact rfl;omega;omega)|(apply Ok1.lss_t;exact rfl;exact rfl;omega)|(apply Ok1.lss_f;exact rfl;exact rfl;omega)|(apply Ok1.leq_t;exact rfl;exact rfl;omega)|(apply Ok1.leq_f;exact rfl;exact rfl;omega)|(apply Ok1.geq_t;exact rfl;exact rfl;omega)|(apply Ok1.geq_f;exact rfl;exact rfl;omega))|(apply R.lss rfl rfl rfl<;>intro)|(apply R.leq rfl rfl rfl<;>intro)|(apply R.geq rfl rfl rfl<;>intro))|(apply R.isCall;first|apply R.callP rfl rfl rfl (spans_ok _ _ _ _))|(apply R.pure;exact rfl;first|(apply Ok1.move;exact rfl)|(apply Ok1.fieldAddr;(iterate 5 exact rfl))|(apply Ok1.load;exact rfl;first|(apply Ld.own1;exact rfl;exact rfl;(focus (repeat' first|exact At.head|apply At.tail|apply At.right);done);exact rfl)|(apply Ld.ownk;exact rfl;exact rfl;(focus (repeat' first|exact At.head|apply At.tail|apply At.right);done);exact rfl)|(apply Ld.old1;exact rfl;exact rfl;assumption;(first|exact List.not_mem_nil|assumption))|(apply Ld.blk1;exact rfl;exact rfl;assumption;(first|exact List.not_mem_nil|assumption);exact rfl)|(apply Ld.blkk;exact rfl;exact rfl;assumption;(first|exact List.not_mem_nil|assumption);exact rfl))|(apply Ok1.assign;exact rfl)|(apply Ok1.pick_t;exact rfl;exact rfl)|(apply Ok1.pick_f;exact rfl;exact rfl)|(apply Ok1.pick_h;exact rfl;assumption;exact rfl)|(apply Ok1.pick_n;exact rfl;assumption;exact rfl)|(apply Ok1.index1;(iterate 6 exact rfl);omega;omega;exact rfl)|(apply Ok1.indexk;(iterate 6 exact rfl);omega;omega;exact rfl))|(apply R.box;(iterate 3 exact rfl);intro)|(apply R.alloc;(iterate 3 exact rfl);intro))|(apply R.is0;first|(apply R.store;(iterate 6 exact rfl);(focus (repeat' first|exact Upd.head|apply Upd.tail|apply Upd.right);done);exact rfl)|fail)|(apply R.isG;first|(apply R.guard_run;exact rfl;exact rfl)|(apply R.guard_not;(iterate 3 exact rfl))|(apply R.guard_not0;exact rfl;exact rfl)|(apply R.guard_un;(iterate 3 exact rfl))|(apply R.guard_un0;exact rfl;exact rfl)|(apply R.guard rfl rfl ?_ (fun h=>⟨rfl,?_⟩)<;>try intro))|apply R.nil|(apply T.is;first|apply T.rounds 5|apply T.seq|apply T.region|apply T.block|apply T.scope|apply T.label|apply T.skip|apply T.exit|apply T.ret|(apply T.cond_t;exact rfl)|(apply T.cond_f;exact rfl)|(apply T.cond_h;exact rfl;assumption)|(apply T.cond_n;exact rfl;assumption)|(apply T.cond rfl<;>intro))|apply Rnd.step)
  all_goals (apply RetOk.t;exact rfl)
  all_goals first|rw [if_pos (by simp only [Cl.right];omega)]|rw [if_neg (by simp only [Cl.right];omega)]

def cmpI (x y:Int):Int:=if x < y then -1 else if y < x then 1 else 0
theorem isNaN_ok (x:Int):CallP Try.prog 104 [.int .i64 x] (.bool false):=by
  refine enterP (tb:=tb) Try.func104 rfl Try.ntmps104 rfl fun w=>?_
  repeat' (first|(apply R.is1;first|(apply R.isBin;first|(apply R.pure;exact rfl;first|(apply Ok1.neq_t;exact rfl;exact rfl;omega)|(apply Ok1.neq_f;exact rfl;exact rfl;omega)|(apply Ok1.neqP;(iterate 5 exact rfl))|(apply Ok1.neqM;(iterate 5 exact rfl))|(apply Ok1.neqS;(iterate 5 exact rfl)))|(apply R.neq rfl rfl rfl<;>intro)|(apply R.neqF;(iterate 8 exact rfl);all_goals intro))|(apply R.pure;exact rfl;first|(apply Ok1.move;exact rfl)|(apply Ok1.assign;exact rfl)))|(apply R.is0;first|fail)|(apply R.isG;first|(apply R.guard_run;exact rfl;exact rfl)|(apply R.guard_not;(iterate 3 exact rfl))|(apply R.guard_not0;exact rfl;exact rfl)|(apply R.guard_un;(iterate 3 exact rfl))|(apply R.guard_un0;exact rfl;exact rfl)|(apply R.guard rfl rfl ?_ (fun h=>⟨rfl,?_⟩)<;>try intro))|apply R.nil|(apply T.is;first|apply T.seq|apply T.region|apply T.block|apply T.scope|apply T.label|apply T.skip|apply T.exit|apply T.ret|(apply T.cond_t;exact rfl)|(apply T.cond_f;exact rfl)|(apply T.cond_h;exact rfl;assumption)|(apply T.cond_n;exact rfl;assumption)|(apply T.cond rfl<;>intro))|apply Rnd.step)
  (apply RetOk.t;exact rfl)
  rfl
theorem cmp_ok (x y:Int):CallP Try.prog 87 [.int .i64 x,.int .i64 y] (.int .i64 (cmpI x y)):=by
  refine enterP (tb:=tb) Try.func87 rfl Try.ntmps87 rfl fun w=>?_
  repeat' (first|(apply R.is1;first|(apply R.isBin;first|(apply R.pure;exact rfl;first|(apply Ok1.lss_t;exact rfl;exact rfl;omega)|(apply Ok1.lss_f;exact rfl;exact rfl;omega)|(apply Ok1.gtr_t;exact rfl;exact rfl;omega)|(apply Ok1.gtr_f;exact rfl;exact rfl;omega))|(apply R.lss rfl rfl rfl<;>intro)|(apply R.gtr rfl rfl rfl<;>intro))|(apply R.isCall;first|apply R.callP rfl rfl rfl (isNaN_ok _))|(apply R.pure;exact rfl;first|(apply Ok1.move;exact rfl)|(apply Ok1.assign;exact rfl)))|(apply R.is0;first|fail)|(apply R.isG;first|(apply R.guard_run;exact rfl;exact rfl)|(apply R.guard_not;(iterate 3 exact rfl))|(apply R.guard_not0;exact rfl;exact rfl)|(apply R.guard_un;(iterate 3 exact rfl))|(apply R.guard_un0;exact rfl;exact rfl)|(apply R.guard rfl rfl ?_ (fun h=>⟨rfl,?_⟩)<;>try intro))|apply R.nil|(apply T.is;first|apply T.seq|apply T.region|apply T.block|apply T.scope|apply T.label|apply T.skip|apply T.exit|apply T.ret|(apply T.cond_t;exact rfl)|(apply T.cond_f;exact rfl)|(apply T.cond_h;exact rfl;assumption)|(apply T.cond_n;exact rfl;assumption)|(apply T.cond rfl<;>intro))|apply Rnd.step)
  all_goals (apply RetOk.t;exact rfl)
  all_goals simp only [cmpI]
  all_goals first|rw [if_pos (by omega)]|(rw [if_neg (by omega),if_pos (by omega)])|(rw [if_neg (by omega),if_neg (by omega)])
def or4 (a b c d:Int):Int:=if a≠0 then a else if b≠0 then b else if c≠0 then c else d
theorem or_ok (a b c d:Int) (bl e:Nat) (w:World) (hb:w.heap[bl]? = some (.cells ⟨[.int .i64 a,.int .i64 b,.int .i64 c,.int .i64 d]⟩ e (0,0))) :
    CallW Try.prog 86 [.slice (some ⟨bl,0,none⟩) 4 4] w fun v _=>v = .int .i64 (or4 a b c d):=by
  refine enterW (tb:=tb) Try.func86 rfl Try.ntmps86 rfl ?_
  repeat' (first|(apply R.is1;first|(apply R.isBin;first|(apply R.pure;exact rfl;first|(apply Ok1.add64;exact rfl;exact rfl;omega;omega)|(apply Ok1.lss_t;exact rfl;exact rfl;omega)|(apply Ok1.lss_f;exact rfl;exact rfl;omega)|(apply Ok1.neq_t;exact rfl;exact rfl;omega)|(apply Ok1.neq_f;exact rfl;exact rfl;omega)|(apply Ok1.neqP;(iterate 5 exact rfl))|(apply Ok1.neqM;(iterate 5 exact rfl))|(apply Ok1.neqS;(iterate 5 exact rfl)))|(apply R.lss rfl rfl rfl<;>intro)|(apply R.neq rfl rfl rfl<;>intro)|(apply R.neqF;(iterate 8 exact rfl);all_goals intro))|(apply R.isCall;first|(apply R.pure;exact rfl;first|(apply Ok1.lenS;(iterate 3 exact rfl))|(apply Ok1.lenStr;(iterate 3 exact rfl))|(apply Ok1.lenMm;(iterate 3 exact rfl);(focus (repeat' first|exact At.head|apply At.tail|apply At.right);done))|(apply Ok1.lenM_nil;(iterate 3 exact rfl))))|(apply R.pure;exact rfl;first|(apply Ok1.move;exact rfl)|(apply Ok1.load;exact rfl;first|(apply Ld.own1;exact rfl;exact rfl;(focus (repeat' first|exact At.head|apply At.tail|apply At.right);done);exact rfl)|(apply Ld.ownk;exact rfl;exact rfl;(focus (repeat' first|exact At.head|apply At.tail|apply At.right);done);exact rfl)|(apply Ld.old1;exact rfl;exact rfl;assumption;(first|exact List.not_mem_nil|assumption))|(apply Ld.blk1;exact rfl;exact rfl;assumption;(first|exact List.not_mem_nil|assumption);exact rfl)|(apply Ld.blkk;exact rfl;exact rfl;assumption;(first|exact List.not_mem_nil|assumption);exact rfl))|(apply Ok1.assign;exact rfl)|(apply Ok1.indexAddr;(iterate 5 exact rfl);omega;omega)|(apply Ok1.indexAddrA;(iterate 5 exact rfl);omega;omega)))|(apply R.is0;first|fail)|(apply R.isG;first|(apply R.guard_run;exact rfl;exact rfl)|(apply R.guard_not;(iterate 3 exact rfl))|(apply R.guard_not0;exact rfl;exact rfl)|(apply R.guard_un;(iterate 3 exact rfl))|(apply R.guard_un0;exact rfl;exact rfl)|(apply R.guard rfl rfl ?_ (fun h=>⟨rfl,?_⟩)<;>try intro))|apply R.nil|(apply T.is;first|apply T.rounds 5|apply T.seq|apply T.region|apply T.block|apply T.scope|apply T.label|apply T.skip|apply T.exit|apply T.ret|(apply T.cond_t;exact rfl)|(apply T.cond_f;exact rfl)|(apply T.cond_h;exact rfl;assumption)|(apply T.cond_n;exact rfl;assumption)|(apply T.cond rfl<;>intro))|apply Rnd.step)
  all_goals (apply RetOk.t;exact rfl)
  all_goals simp only [or4]
  all_goals first|(rw [if_pos (by omega)];done)|(rw [if_neg (by omega),if_pos (by omega)];done)|(rw [if_neg (by omega),if_neg (by omega),if_pos (by omega)];done)|(rw [if_neg (by omega),if_neg (by omega),if_neg (by omega)];first|done|(congr 1;omega))
def cmpCl (c d:Cl):Int:=if c=d then 0 else or4 (cmpI c.ser d.ser) (cmpI c.id d.id) (cmpI c.exp d.exp) (cmpI c.roles d.roles)
theorem compare_ok (c d:Cl):CallP Try.prog 68 [.agg ⟨[.int .i64 c.id,.int .i64 c.roles,.int .i64 c.exp,.int .i64 c.ser]⟩,.agg ⟨[.int .i64 d.id,.int .i64 d.roles,.int .i64 d.exp,.int .i64 d.ser]⟩] (.int .i64 (cmpCl c d)):=by
  refine enterP (tb:=tb) Try.func68 rfl Try.ntmps68 rfl fun w=>?_
  repeat' (first|(apply R.is1;first|(apply R.isBin;first|(apply R.pure;exact rfl;first|(apply Ok1.eql_t;exact rfl;exact rfl;omega)|(apply Ok1.eql_f;exact rfl;exact rfl;omega)|(apply Ok1.eqlP;(iterate 5 exact rfl))|(apply Ok1.eqlM;(iterate 5 exact rfl))|(apply Ok1.eqlS;(iterate 5 exact rfl)))|(apply R.eql rfl rfl rfl<;>intro)|(apply R.eqlF;(iterate 8 exact rfl);all_goals intro))|(apply R.isCall;first|apply R.callP rfl rfl rfl (cmp_ok _ _)|(apply R.callV;(iterate 3 exact rfl);(intro w1 hw1;exact or_ok _ _ _ _ _ _ _ (hw1.get _ _ (At.mem (by (focus (repeat' first|exact At.head|apply At.tail|apply At.right);done)))))))|(apply R.pure;exact rfl;first|(apply Ok1.fieldAddr;(iterate 5 exact rfl))|(apply Ok1.load;exact rfl;first|(apply Ld.own1;exact rfl;exact rfl;(focus (repeat' first|exact At.head|apply At.tail|apply At.right);done);exact rfl)|(apply Ld.ownk;exact rfl;exact rfl;(focus (repeat' first|exact At.head|apply At.tail|apply At.right);done);exact rfl)|(apply Ld.old1;exact rfl;exact rfl;assumption;(first|exact List.not_mem_nil|assumption))|(apply Ld.blk1;exact rfl;exact rfl;assumption;(first|exact List.not_mem_nil|assumption);exact rfl)|(apply Ld.blkk;exact rfl;exact rfl;assumption;(first|exact List.not_mem_nil|assumption);exact rfl))|(apply Ok1.assign;exact rfl))|(apply R.box;(iterate 3 exact rfl);intro)|(apply R.buildSlice;(iterate 12 exact rfl);intro))|(apply R.is0;first|fail)|(apply R.isG;first|(apply R.guard_run;exact rfl;exact rfl)|(apply R.guard_not;(iterate 3 exact rfl))|(apply R.guard_not0;exact rfl;exact rfl)|(apply R.guard_un;(iterate 3 exact rfl))|(apply R.guard_un0;exact rfl;exact rfl)|(apply R.guard rfl rfl ?_ (fun h=>⟨rfl,?_⟩)<;>try intro))|apply R.nil|(apply T.is;first|(apply T.draw (id:=3);((apply A.tk 0;exact rfl;kernel_rfl;first|(apply Ok1.fieldAddr;(iterate 5 exact rfl)))<;>(apply A.tk 1;exact rfl;kernel_rfl;first|(apply Ok1.load;exact rfl;first|(apply Ld.own1;exact rfl;exact rfl;(focus (repeat' first|exact At.head|apply At.tail|apply At.right);done);exact rfl)|(apply Ld.ownk;exact rfl;exact rfl;(focus (repeat' first|exact At.head|apply At.tail|apply At.right);done);exact rfl)|(apply Ld.old1;exact rfl;exact rfl;assumption;(first|exact List.not_mem_nil|assumption))|(apply Ld.blk1;exact rfl;exact rfl;assumption;(first|exact List.not_mem_nil|assumption);exact rfl)|(apply Ld.blkk;exact rfl;exact rfl;assumption;(first|exact List.not_mem_nil|assumption);exact rfl)))<;>(apply A.tk 2;exact rfl;kernel_rfl;first|(apply Ok1.fieldAddr;(iterate 5 exact rfl)))<;>(apply A.tk 3;exact rfl;kernel_rfl;first|(apply Ok1.load;exact rfl;first|(apply Ld.own1;exact rfl;exact rfl;(focus (repeat' first|exact At.head|apply At.tail|apply At.right);done);exact rfl)|(apply Ld.ownk;exact rfl;exact rfl;(focus (repeat' first|exact At.head|apply At.tail|apply At.right);done);exact rfl)|(apply Ld.old1;exact rfl;exact rfl;assumption;(first|exact List.not_mem_nil|assumption))|(apply Ld.blk1;exact rfl;exact rfl;assumption;(first|exact List.not_mem_nil|assumption);exact rfl)|(apply Ld.blkk;exact rfl;exact rfl;assumption;(first|exact List.not_mem_nil|assumption);exact rfl)))<;>(apply A.tk 5;exact rfl;kernel_rfl;first|(apply Ok1.fieldAddr;(iterate 5 exact rfl)))<;>(apply A.tk 6;exact rfl;kernel_rfl;first|(apply Ok1.load;exact rfl;first|(apply Ld.own1;exact rfl;exact rfl;(focus (repeat' first|exact At.head|apply At.tail|apply At.right);done);exact rfl)|(apply Ld.ownk;exact rfl;exact rfl;(focus (repeat' first|exact At.head|apply At.tail|apply At.right);done);exact rfl)|(apply Ld.old1;exact rfl;exact rfl;assumption;(first|exact List.not_mem_nil|assumption))|(apply Ld.blk1;exact rfl;exact rfl;assumption;(first|exact List.not_mem_nil|assumption);exact rfl)|(apply Ld.blkk;exact rfl;exact rfl;assumption;(first|exact List.not_mem_nil|assumption);exact rfl)))<;>(apply A.tk 7;exact rfl;kernel_rfl;first|(apply Ok1.fieldAddr;(iterate 5 exact rfl)))<;>(apply A.tk 8;exact rfl;kernel_rfl;first|(apply Ok1.load;exact rfl;first|(apply Ld.own1;exact rfl;exact rfl;(focus (repeat' first|exact At.head|apply At.tail|apply At.right);done);exact rfl)|(apply Ld.ownk;exact rfl;exact rfl;(focus (repeat' first|exact At.head|apply At.tail|apply At.right);done);exact rfl)|(apply Ld.old1;exact rfl;exact rfl;assumption;(first|exact List.not_mem_nil|assumption))|(apply Ld.blk1;exact rfl;exact rfl;assumption;(first|exact List.not_mem_nil|assumption);exact rfl)|(apply Ld.blkk;exact rfl;exact rfl;assumption;(first|exact List.not_mem_nil|assumption);exact rfl)))<;>(apply A.tk 10;exact rfl;kernel_rfl;first|(apply Ok1.fieldAddr;(iterate 5 exact rfl)))<;>(apply A.tk 11;exact rfl;kernel_rfl;first|(apply Ok1.load;exact rfl;first|(apply Ld.own1;exact rfl;exact rfl;(focus (repeat' first|exact At.head|apply At.tail|apply At.right);done);exact rfl)|(apply Ld.ownk;exact rfl;exact rfl;(focus (repeat' first|exact At.head|apply At.tail|apply At.right);done);exact rfl)|(apply Ld.old1;exact rfl;exact rfl;assumption;(first|exact List.not_mem_nil|assumption))|(apply Ld.blk1;exact rfl;exact rfl;assumption;(first|exact List.not_mem_nil|assumption);exact rfl)|(apply Ld.blkk;exact rfl;exact rfl;assumption;(first|exact List.not_mem_nil|assumption);exact rfl)))<;>(apply A.tk 12;exact rfl;kernel_rfl;first|(apply Ok1.fieldAddr;(iterate 5 exact rfl)))<;>(apply A.tk 13;exact rfl;kernel_rfl;first|(apply Ok1.load;exact rfl;first|(apply Ld.own1;exact rfl;exact rfl;(focus (repeat' first|exact At.head|apply At.tail|apply At.right);done);exact rfl)|(apply Ld.ownk;exact rfl;exact rfl;(focus (repeat' first|exact At.head|apply At.tail|apply At.right);done);exact rfl)|(apply Ld.old1;exact rfl;exact rfl;assumption;(first|exact List.not_mem_nil|assumption))|(apply Ld.blk1;exact rfl;exact rfl;assumption;(first|exact List.not_mem_nil|assumption);exact rfl)|(apply Ld.blkk;exact rfl;exact rfl;assumption;(first|exact List.not_mem_nil|assumption);exact rfl)))<;>(apply A.tk 15;exact rfl;kernel_rfl;first|(apply Ok1.fieldAddr;(iterate 5 exact rfl)))<;>(apply A.tk 16;exact rfl;kernel_rfl;first|(apply Ok1.load;exact rfl;first|(apply Ld.own1;exact rfl;exact rfl;(focus (repeat' first|exact At.head|apply At.tail|apply At.right);done);exact rfl)|(apply Ld.ownk;exact rfl;exact rfl;(focus (repeat' first|exact At.head|apply At.tail|apply At.right);done);exact rfl)|(apply Ld.old1;exact rfl;exact rfl;assumption;(first|exact List.not_mem_nil|assumption))|(apply Ld.blk1;exact rfl;exact rfl;assumption;(first|exact List.not_mem_nil|assumption);exact rfl)|(apply Ld.blkk;exact rfl;exact rfl;assumption;(first|exact List.not_mem_nil|assumption);exact rfl)))<;>(apply A.tk 17;exact rfl;kernel_rfl;first|(apply Ok1.fieldAddr;(iterate 5 exact rfl)))<;>(apply A.tk 18;exact rfl;kernel_rfl;first|(apply Ok1.load;exact rfl;first|(apply Ld.own1;exact rfl;exact rfl;(focus (repeat' first|exact At.head|apply At.tail|apply At.right);done);exact rfl)|(apply Ld.ownk;exact rfl;exact rfl;(focus (repeat' first|exact At.head|apply At.tail|apply At.right);done);exact rfl)|(apply Ld.old1;exact rfl;exact rfl;assumption;(first|exact List.not_mem_nil|assumption))|(apply Ld.blk1;exact rfl;exact rfl;assumption;(first|exact List.not_mem_nil|assumption);exact rfl)|(apply Ld.blkk;exact rfl;exact rfl;assumption;(first|exact List.not_mem_nil|assumption);exact rfl)))<;>(apply A.one 4;kernel_rfl;exact rfl;((first|apply R.callP rfl rfl rfl (cmp_ok _ _)|(apply R.callV;(iterate 3 exact rfl);(intro w1 hw1;exact or_ok _ _ _ _ _ _ _ (hw1.get _ _ (At.mem (by (focus (repeat' first|exact At.head|apply At.tail|apply At.right);done))))))|(apply R.pure;exact rfl;first|(apply Ok1.lenS;(iterate 3 exact rfl))|(apply Ok1.lenStr;(iterate 3 exact rfl))|(apply Ok1.lenMm;(iterate 3 exact rfl);(focus (repeat' first|exact At.head|apply At.tail|apply At.right);done))|(apply Ok1.lenM_nil;(iterate 3 exact rfl))|(apply Ok1.max2;exact rfl;exact rfl)|(apply Ok1.min2;exact rfl;exact rfl))));apply R.nil;refine ⟨?_,?_⟩;(focus (repeat' first|exact trivial|exact At.head|apply At.tail|apply At.right|refine ⟨?_,?_⟩)))<;>(apply A.one 9;kernel_rfl;exact rfl;((first|apply R.callP rfl rfl rfl (cmp_ok _ _)|(apply R.callV;(iterate 3 exact rfl);(intro w1 hw1;exact or_ok _ _ _ _ _ _ _ (hw1.get _ _ (At.mem (by (focus (repeat' first|exact At.head|apply At.tail|apply At.right);done))))))|(apply R.pure;exact rfl;first|(apply Ok1.lenS;(iterate 3 exact rfl))|(apply Ok1.lenStr;(iterate 3 exact rfl))|(apply Ok1.lenMm;(iterate 3 exact rfl);(focus (repeat' first|exact At.head|apply At.tail|apply At.right);done))|(apply Ok1.lenM_nil;(iterate 3 exact rfl))|(apply Ok1.max2;exact rfl;exact rfl)|(apply Ok1.min2;exact rfl;exact rfl))));apply R.nil;refine ⟨?_,?_⟩;(focus (repeat' first|exact trivial|exact At.head|apply At.tail|apply At.right|refine ⟨?_,?_⟩)))<;>(apply A.one 14;kernel_rfl;exact rfl;((first|apply R.callP rfl rfl rfl (cmp_ok _ _)|(apply R.callV;(iterate 3 exact rfl);(intro w1 hw1;exact or_ok _ _ _ _ _ _ _ (hw1.get _ _ (At.mem (by (focus (repeat' first|exact At.head|apply At.tail|apply At.right);done))))))|(apply R.pure;exact rfl;first|(apply Ok1.lenS;(iterate 3 exact rfl))|(apply Ok1.lenStr;(iterate 3 exact rfl))|(apply Ok1.lenMm;(iterate 3 exact rfl);(focus (repeat' first|exact At.head|apply At.tail|apply At.right);done))|(apply Ok1.lenM_nil;(iterate 3 exact rfl))|(apply Ok1.max2;exact rfl;exact rfl)|(apply Ok1.min2;exact rfl;exact rfl))));apply R.nil;refine ⟨?_,?_⟩;(focus (repeat' first|exact trivial|exact At.head|apply At.tail|apply At.right|refine ⟨?_,?_⟩)))<;>(apply A.one 19;kernel_rfl;exact rfl;((first|apply R.callP rfl rfl rfl (cmp_ok _ _)|(apply R.callV;(iterate 3 exact rfl);(intro w1 hw1;exact or_ok _ _ _ _ _ _ _ (hw1.get _ _ (At.mem (by (focus (repeat' first|exact At.head|apply At.tail|apply At.right);done))))))|(apply R.pure;exact rfl;first|(apply Ok1.lenS;(iterate 3 exact rfl))|(apply Ok1.lenStr;(iterate 3 exact rfl))|(apply Ok1.lenMm;(iterate 3 exact rfl);(focus (repeat' first|exact At.head|apply At.tail|apply At.right);done))|(apply Ok1.lenM_nil;(iterate 3 exact rfl))|(apply Ok1.max2;exact rfl;exact rfl)|(apply Ok1.min2;exact rfl;exact rfl))));apply R.nil;refine ⟨?_,?_⟩;(focus (repeat' first|exact trivial|exact At.head|apply At.tail|apply At.right|refine ⟨?_,?_⟩)))<;>(apply A.one 20;kernel_rfl;exact rfl;((first|(apply R.buildSlice;(iterate 12 exact rfl);intro)|fail));apply R.nil;refine ⟨?_,?_⟩;(focus (repeat' first|exact trivial|exact At.head|apply At.tail|apply At.right|refine ⟨?_,?_⟩)))<;>(apply A.one 21;kernel_rfl;exact rfl;((first|apply R.callP rfl rfl rfl (cmp_ok _ _)|(apply R.callV;(iterate 3 exact rfl);(intro w1 hw1;exact or_ok _ _ _ _ _ _ _ (hw1.get _ _ (At.mem (by (focus (repeat' first|exact At.head|apply At.tail|apply At.right);done))))))|(apply R.pure;exact rfl;first|(apply Ok1.lenS;(iterate 3 exact rfl))|(apply Ok1.lenStr;(iterate 3 exact rfl))|(apply Ok1.lenMm;(iterate 3 exact rfl);(focus (repeat' first|exact At.head|apply At.tail|apply At.right);done))|(apply Ok1.lenM_nil;(iterate 3 exact rfl))|(apply Ok1.max2;exact rfl;exact rfl)|(apply Ok1.min2;exact rfl;exact rfl))));apply R.nil;refine ⟨?_,?_⟩;(focus (repeat' first|exact trivial|exact At.head|apply At.tail|apply At.right|refine ⟨?_,?_⟩)))<;>(apply A.tk 22;exact rfl;kernel_rfl;first|(apply Ok1.assign;exact rfl))<;>(apply A.done;kernel_rfl)))|apply T.seq|apply T.region|apply T.block|apply T.scope|apply T.label|apply T.skip|apply T.exit|apply T.ret|(apply T.cond_t;exact rfl)|(apply T.cond_f;exact rfl)|(apply T.cond_h;exact rfl;assumption)|(apply T.cond_n;exact rfl;assumption)|(apply T.cond rfl<;>intro))|apply Rnd.step)
  all_goals (apply RetOk.t;exact rfl)
  all_goals simp only [cmpCl]
  · have h:=‹(_:List Value)=_›
    simp only [List.cons.injEq,Value.int.injEq,true_and,and_true] at h
    rw [if_pos (by cases c;cases d;simp_all)]
  · have h:=‹(_:List Value)≠_›
    simp only [ne_eq,List.cons.injEq,Value.int.injEq,true_and,and_true] at h
    rw [if_neg (by rintro rfl;exact h ⟨rfl,rfl,rfl,rfl⟩)]

def lessCl (c d:Cl):Bool:=if c.ser≠d.ser then decide (c.ser < d.ser) else if c.id≠d.id then decide (c.id < d.id) else if c.exp≠d.exp then decide (c.exp < d.exp) else if c.roles≠d.roles then decide (c.roles < d.roles) else false
theorem less_ok (c d:Cl):CallP Try.prog 47 [.agg ⟨[.int .i64 c.id,.int .i64 c.roles,.int .i64 c.exp,.int .i64 c.ser]⟩,.agg ⟨[.int .i64 d.id,.int .i64 d.roles,.int .i64 d.exp,.int .i64 d.ser]⟩] (.bool (lessCl c d)):=by
  refine enterP (tb:=tb) Try.func47 rfl Try.ntmps47 rfl fun w=>?_
  repeat' (first|(apply R.is1;first|(apply R.isBin;first|(apply R.pure;exact rfl;first|(apply Ok1.add64;exact rfl;exact rfl;omega;omega)|(apply Ok1.lss_t;exact rfl;exact rfl;omega)|(apply Ok1.lss_f;exact rfl;exact rfl;omega)|(apply Ok1.neq_t;exact rfl;exact rfl;omega)|(apply Ok1.neq_f;exact rfl;exact rfl;omega)|(apply Ok1.neqP;(iterate 5 exact rfl))|(apply Ok1.neqM;(iterate 5 exact rfl))|(apply Ok1.neqS;(iterate 5 exact rfl)))|(apply R.lss rfl rfl rfl<;>intro)|(apply R.neq rfl rfl rfl<;>intro)|(apply R.neqF;(iterate 8 exact rfl);all_goals intro))|(apply R.pure;exact rfl;first|(apply Ok1.move;exact rfl)|(apply Ok1.fieldAddr;(iterate 5 exact rfl))|(apply Ok1.load;exact rfl;first|(apply Ld.own1;exact rfl;exact rfl;(focus (repeat' first|exact At.head|apply At.tail|apply At.right);done);exact rfl)|(apply Ld.ownk;exact rfl;exact rfl;(focus (repeat' first|exact At.head|apply At.tail|apply At.right);done);exact rfl)|(apply Ld.old1;exact rfl;exact rfl;assumption;(first|exact List.not_mem_nil|assumption))|(apply Ld.blk1;exact rfl;exact rfl;assumption;(first|exact List.not_mem_nil|assumption);exact rfl)|(apply Ld.blkk;exact rfl;exact rfl;assumption;(first|exact List.not_mem_nil|assumption);exact rfl))|(apply Ok1.assign;exact rfl)|(apply Ok1.indexAddr;(iterate 5 exact rfl);omega;omega)|(apply Ok1.indexAddrA;(iterate 5 exact rfl);omega;omega)|(apply Ok1.build;(iterate 5 exact rfl))|(apply Ok1.buildA;(iterate 6 exact rfl)))|(apply R.box;(iterate 3 exact rfl);intro)|(apply R.alloc;(iterate 3 exact rfl);intro))|(apply R.is0;first|(apply R.store;(iterate 6 exact rfl);(focus (repeat' first|exact Upd.head|apply Upd.tail|apply Upd.right);done);exact rfl)|fail)|(apply R.isG;first|(apply R.guard_run;exact rfl;exact rfl)|(apply R.guard_not;(iterate 3 exact rfl))|(apply R.guard_not0;exact rfl;exact rfl)|(apply R.guard_un;(iterate 3 exact rfl))|(apply R.guard_un0;exact rfl;exact rfl)|(apply R.guard rfl rfl ?_ (fun h=>⟨rfl,?_⟩)<;>try intro))|apply R.nil|(apply T.is;first|apply T.rounds 5|(apply T.draw (id:=6);((apply A.tk 0;exact rfl;kernel_rfl;first|(apply Ok1.move;exact rfl))<;>(apply A.tk 1;exact rfl;kernel_rfl;first|(apply Ok1.indexAddr;(iterate 5 exact rfl);omega;omega)|(apply Ok1.indexAddrA;(iterate 5 exact rfl);omega;omega))<;>(apply A.tk 2;exact rfl;kernel_rfl;first|(apply Ok1.load;exact rfl;first|(apply Ld.own1;exact rfl;exact rfl;(focus (repeat' first|exact At.head|apply At.tail|apply At.right);done);exact rfl)|(apply Ld.ownk;exact rfl;exact rfl;(focus (repeat' first|exact At.head|apply At.tail|apply At.right);done);exact rfl)|(apply Ld.old1;exact rfl;exact rfl;assumption;(first|exact List.not_mem_nil|assumption))|(apply Ld.blk1;exact rfl;exact rfl;assumption;(first|exact List.not_mem_nil|assumption);exact rfl)|(apply Ld.blkk;exact rfl;exact rfl;assumption;(first|exact List.not_mem_nil|assumption);exact rfl)))<;>(apply A.tk 3;exact rfl;kernel_rfl;first|(apply Ok1.move;exact rfl))<;>(apply A.tk 4;exact rfl;kernel_rfl;first|(apply Ok1.indexAddr;(iterate 5 exact rfl);omega;omega)|(apply Ok1.indexAddrA;(iterate 5 exact rfl);omega;omega))<;>(apply A.tk 5;exact rfl;kernel_rfl;first|(apply Ok1.load;exact rfl;first|(apply Ld.own1;exact rfl;exact rfl;(focus (repeat' first|exact At.head|apply At.tail|apply At.right);done);exact rfl)|(apply Ld.ownk;exact rfl;exact rfl;(focus (repeat' first|exact At.head|apply At.tail|apply At.right);done);exact rfl)|(apply Ld.old1;exact rfl;exact rfl;assumption;(first|exact List.not_mem_nil|assumption))|(apply Ld.blk1;exact rfl;exact rfl;assumption;(first|exact List.not_mem_nil|assumption);exact rfl)|(apply Ld.blkk;exact rfl;exact rfl;assumption;(first|exact List.not_mem_nil|assumption);exact rfl)))<;>(first|(apply A.tk 6;exact rfl;kernel_rfl;first|(apply Ok1.neq_t;exact rfl;exact rfl;omega)|(apply Ok1.neq_f;exact rfl;exact rfl;omega)|(apply Ok1.neqP;(iterate 5 exact rfl))|(apply Ok1.neqM;(iterate 5 exact rfl))|(apply Ok1.neqS;(iterate 5 exact rfl)))|(apply A.tk 6;exact rfl;kernel_rfl;(first|(apply Ok1.neq;exact rfl;exact rfl)|(apply Ok1.neqF;(iterate 7 exact rfl)));apply A.dec (t:=36);exact rfl;all_goals intro))<;>(apply A.done;kernel_rfl)))|(apply T.draw (id:=7);((apply A.tk 0;exact rfl;kernel_rfl;first|(apply Ok1.move;exact rfl))<;>(apply A.tk 1;exact rfl;kernel_rfl;first|(apply Ok1.indexAddr;(iterate 5 exact rfl);omega;omega)|(apply Ok1.indexAddrA;(iterate 5 exact rfl);omega;omega))<;>(apply A.tk 2;exact rfl;kernel_rfl;first|(apply Ok1.load;exact rfl;first|(apply Ld.own1;exact rfl;exact rfl;(focus (repeat' first|exact At.head|apply At.tail|apply At.right);done);exact rfl)|(apply Ld.ownk;exact rfl;exact rfl;(focus (repeat' first|exact At.head|apply At.tail|apply At.right);done);exact rfl)|(apply Ld.old1;exact rfl;exact rfl;assumption;(first|exact List.not_mem_nil|assumption))|(apply Ld.blk1;exact rfl;exact rfl;assumption;(first|exact List.not_mem_nil|assumption);exact rfl)|(apply Ld.blkk;exact rfl;exact rfl;assumption;(first|exact List.not_mem_nil|assumption);exact rfl)))<;>(apply A.tk 3;exact rfl;kernel_rfl;first|(apply Ok1.move;exact rfl))<;>(apply A.tk 4;exact rfl;kernel_rfl;first|(apply Ok1.indexAddr;(iterate 5 exact rfl);omega;omega)|(apply Ok1.indexAddrA;(iterate 5 exact rfl);omega;omega))<;>(apply A.tk 5;exact rfl;kernel_rfl;first|(apply Ok1.load;exact rfl;first|(apply Ld.own1;exact rfl;exact rfl;(focus (repeat' first|exact At.head|apply At.tail|apply At.right);done);exact rfl)|(apply Ld.ownk;exact rfl;exact rfl;(focus (repeat' first|exact At.head|apply At.tail|apply At.right);done);exact rfl)|(apply Ld.old1;exact rfl;exact rfl;assumption;(first|exact List.not_mem_nil|assumption))|(apply Ld.blk1;exact rfl;exact rfl;assumption;(first|exact List.not_mem_nil|assumption);exact rfl)|(apply Ld.blkk;exact rfl;exact rfl;assumption;(first|exact List.not_mem_nil|assumption);exact rfl)))<;>(first|(apply A.tk 6;exact rfl;kernel_rfl;first|(apply Ok1.lss_t;exact rfl;exact rfl;omega)|(apply Ok1.lss_f;exact rfl;exact rfl;omega))|(apply A.tk 6;exact rfl;kernel_rfl;(first|(apply Ok1.lss;exact rfl;exact rfl));apply A.dec (t:=43);exact rfl;all_goals intro))<;>(apply A.tk 7;exact rfl;kernel_rfl;first|(apply Ok1.assign;exact rfl))<;>(apply A.done;kernel_rfl)))|apply T.seq|apply T.region|apply T.block|apply T.scope|apply T.label|apply T.skip|apply T.exit|apply T.ret|(apply T.cond_t;exact rfl)|(apply T.cond_f;exact rfl)|(apply T.cond_h;exact rfl;assumption)|(apply T.cond_n;exact rfl;assumption)|(apply T.cond rfl<;>intro))|apply Rnd.step)
  all_goals (apply RetOk.t;exact rfl)
  all_goals simp only [lessCl]
  all_goals congr 1
  all_goals simp_all
theorem right_ok (a b c d:Int):CallP Try.prog 30 [.agg ⟨[.int .i64 a,.int .i64 b,.int .i64 c,.int .i64 d]⟩] (.bool (decide (Cl.right ⟨a,b,c,d⟩))):=by
  refine enterP (tb:=tb) Try.func30 rfl Try.ntmps30 rfl fun w=>?_
  repeat' (first|(apply R.is1;first|(apply R.isBin;first|(apply R.pure;exact rfl;first|(apply Ok1.lss_t;exact rfl;exact rfl;omega)|(apply Ok1.lss_f;exact rfl;exact rfl;omega)|(apply Ok1.leq_t;exact rfl;exact rfl;omega)|(apply Ok1.leq_f;exact rfl;exact rfl;omega)|(apply Ok1.gtr_t;exact rfl;exact rfl;omega)|(apply Ok1.gtr_f;exact rfl;exact rfl;omega)|(apply Ok1.geq_t;exact rfl;exact rfl;omega)|(apply Ok1.geq_f;exact rfl;exact rfl;omega))|(apply R.lss rfl rfl rfl<;>intro)|(apply R.leq rfl rfl rfl<;>intro)|(apply R.gtr rfl rfl rfl<;>intro)|(apply R.geq rfl rfl rfl<;>intro))|(apply R.pure;exact rfl;first|(apply Ok1.move;exact rfl)|(apply Ok1.fieldAddr;(iterate 5 exact rfl))|(apply Ok1.load;exact rfl;first|(apply Ld.own1;exact rfl;exact rfl;(focus (repeat' first|exact At.head|apply At.tail|apply At.right);done);exact rfl)|(apply Ld.ownk;exact rfl;exact rfl;(focus (repeat' first|exact At.head|apply At.tail|apply At.right);done);exact rfl)|(apply Ld.old1;exact rfl;exact rfl;assumption;(first|exact List.not_mem_nil|assumption))|(apply Ld.blk1;exact rfl;exact rfl;assumption;(first|exact List.not_mem_nil|assumption);exact rfl)|(apply Ld.blkk;exact rfl;exact rfl;assumption;(first|exact List.not_mem_nil|assumption);exact rfl))|(apply Ok1.assign;exact rfl)|(apply Ok1.pick_t;exact rfl;exact rfl)|(apply Ok1.pick_f;exact rfl;exact rfl)|(apply Ok1.pick_h;exact rfl;assumption;exact rfl)|(apply Ok1.pick_n;exact rfl;assumption;exact rfl))|(apply R.box;(iterate 3 exact rfl);intro))|(apply R.is0;first|fail)|(apply R.isG;first|(apply R.guard_run;exact rfl;exact rfl)|(apply R.guard_not;(iterate 3 exact rfl))|(apply R.guard_not0;exact rfl;exact rfl)|(apply R.guard_un;(iterate 3 exact rfl))|(apply R.guard_un0;exact rfl;exact rfl)|(apply R.guard rfl rfl ?_ (fun h=>⟨rfl,?_⟩)<;>try intro))|apply R.nil|(apply T.is;first|apply T.seq|apply T.region|apply T.block|apply T.scope|apply T.label|apply T.skip|apply T.exit|apply T.ret|(apply T.cond_t;exact rfl)|(apply T.cond_f;exact rfl)|(apply T.cond_h;exact rfl;assumption)|(apply T.cond_n;exact rfl;assumption)|(apply T.cond rfl<;>intro))|apply Rnd.step)
  all_goals (apply RetOk.t;exact rfl)
  all_goals congr 1
  all_goals first|(rw [decide_eq_true (by simp only [Cl.right];omega)])|(rw [decide_eq_false (by simp only [Cl.right];omega)])
theorem to5_ok (a b c d:Int):CallP Try.prog 6 [.agg ⟨[.int .i64 a,.int .i64 b,.int .i64 c,.int .i64 d]⟩] (.agg ⟨[.int .i64 a,.int .i64 b,.int .i64 c,.int .i64 d]⟩):=by
  refine enterP (tb:=tb) Try.func6 rfl Try.ntmps6 rfl fun w=>?_
  repeat' (first|(apply R.is1;first|(apply R.pure;exact rfl;first|(apply Ok1.fieldAddr;(iterate 5 exact rfl))|(apply Ok1.load;exact rfl;first|(apply Ld.own1;exact rfl;exact rfl;(focus (repeat' first|exact At.head|apply At.tail|apply At.right);done);exact rfl)|(apply Ld.ownk;exact rfl;exact rfl;(focus (repeat' first|exact At.head|apply At.tail|apply At.right);done);exact rfl)|(apply Ld.old1;exact rfl;exact rfl;assumption;(first|exact List.not_mem_nil|assumption))|(apply Ld.blk1;exact rfl;exact rfl;assumption;(first|exact List.not_mem_nil|assumption);exact rfl)|(apply Ld.blkk;exact rfl;exact rfl;assumption;(first|exact List.not_mem_nil|assumption);exact rfl))|(apply Ok1.build;(iterate 5 exact rfl))|(apply Ok1.buildA;(iterate 6 exact rfl)))|(apply R.box;(iterate 3 exact rfl);intro)|(apply R.alloc;(iterate 3 exact rfl);intro))|(apply R.is0;first|(apply R.store;(iterate 6 exact rfl);(focus (repeat' first|exact Upd.head|apply Upd.tail|apply Upd.right);done);exact rfl)|fail)|(apply R.isG;first|(apply R.guard_run;exact rfl;exact rfl)|(apply R.guard_not;(iterate 3 exact rfl))|(apply R.guard_not0;exact rfl;exact rfl)|(apply R.guard_un;(iterate 3 exact rfl))|(apply R.guard_un0;exact rfl;exact rfl)|(apply R.guard rfl rfl ?_ (fun h=>⟨rfl,?_⟩)<;>try intro))|apply R.nil|(apply T.is;first|apply T.seq|apply T.region|apply T.block|apply T.scope|apply T.label|apply T.skip|apply T.exit|apply T.ret|(apply T.cond_t;exact rfl)|(apply T.cond_f;exact rfl)|(apply T.cond_h;exact rfl;assumption)|(apply T.cond_n;exact rfl;assumption)|(apply T.cond rfl<;>intro))|apply Rnd.step)
  (apply RetOk.c;exact rfl;(first|(apply Ld.ownk;exact rfl;exact rfl;(focus (repeat' first|exact At.head|apply At.tail|apply At.right);done);exact rfl)|(apply Ld.own1;exact rfl;exact rfl;(focus (repeat' first|exact At.head|apply At.tail|apply At.right);done);exact rfl)))
  rfl
theorem of5_ok (a b c d:Int):CallP Try.prog 40 [.agg ⟨[.int .i64 a,.int .i64 b,.int .i64 c,.int .i64 d]⟩] (.agg ⟨[.int .i64 a,.int .i64 b,.int .i64 c,.int .i64 d]⟩):=by
  refine enterP (tb:=tb) Try.func40 rfl Try.ntmps40 rfl fun w=>?_
  repeat' (first|(apply R.is1;first|(apply R.pure;exact rfl;first|(apply Ok1.fieldAddr;(iterate 5 exact rfl))|(apply Ok1.load;exact rfl;first|(apply Ld.own1;exact rfl;exact rfl;(focus (repeat' first|exact At.head|apply At.tail|apply At.right);done);exact rfl)|(apply Ld.ownk;exact rfl;exact rfl;(focus (repeat' first|exact At.head|apply At.tail|apply At.right);done);exact rfl)|(apply Ld.old1;exact rfl;exact rfl;assumption;(first|exact List.not_mem_nil|assumption))|(apply Ld.blk1;exact rfl;exact rfl;assumption;(first|exact List.not_mem_nil|assumption);exact rfl)|(apply Ld.blkk;exact rfl;exact rfl;assumption;(first|exact List.not_mem_nil|assumption);exact rfl))|(apply Ok1.build;(iterate 5 exact rfl))|(apply Ok1.buildA;(iterate 6 exact rfl)))|(apply R.box;(iterate 3 exact rfl);intro)|(apply R.alloc;(iterate 3 exact rfl);intro))|(apply R.is0;first|(apply R.store;(iterate 6 exact rfl);(focus (repeat' first|exact Upd.head|apply Upd.tail|apply Upd.right);done);exact rfl)|fail)|(apply R.isG;first|(apply R.guard_run;exact rfl;exact rfl)|(apply R.guard_not;(iterate 3 exact rfl))|(apply R.guard_not0;exact rfl;exact rfl)|(apply R.guard_un;(iterate 3 exact rfl))|(apply R.guard_un0;exact rfl;exact rfl)|(apply R.guard rfl rfl ?_ (fun h=>⟨rfl,?_⟩)<;>try intro))|apply R.nil|(apply T.is;first|apply T.seq|apply T.region|apply T.block|apply T.scope|apply T.label|apply T.skip|apply T.exit|apply T.ret|(apply T.cond_t;exact rfl)|(apply T.cond_f;exact rfl)|(apply T.cond_h;exact rfl;assumption)|(apply T.cond_n;exact rfl;assumption)|(apply T.cond rfl<;>intro))|apply Rnd.step)
  (apply RetOk.c;exact rfl;(first|(apply Ld.ownk;exact rfl;exact rfl;(focus (repeat' first|exact At.head|apply At.tail|apply At.right);done);exact rfl)|(apply Ld.own1;exact rfl;exact rfl;(focus (repeat' first|exact At.head|apply At.tail|apply At.right);done);exact rfl)))
  rfl
end Go.Proofs.Ytijbmkjebidanaa
set_option linter.unusedSimpArgs false
set_option linter.unusedVariables false
set_option linter.unusedSectionVars false
namespace Go.Proofs.Ytijbmkjebidanaa
open Go.RowKit Go.Shelf Go.ChangeShapes Go.WideShapes Go.Deep
/-- A cell of this kind,within its range. -/
def cellW:TK→Value→Prop
  | .int k,.int k' n=>k'=k∧k.min≤n∧n≤k.max
  | .bool,.bool _=>True
  | .string,.string s=>s.size≤maxLen
  | _,_=>False
def allW:List TK→List Value→Prop
  | [],[]=>True
  | k::ks,v::vs=>cellW k v∧allW ks vs
  | _,_=>False
theorem allW_append:∀ {ks ls:List TK} {vs:List Value},allW ks (vs.take ks.length)→allW ls (vs.drop ks.length)→allW (ks++ls) vs
  | [],ls,vs,_,h=>by simpa using h
  | k::ks,ls,[],h,_=>by simp [allW] at h
  | k::ks,ls,v::vs,h,h2=>by
    simp only [List.length_cons,List.take_succ_cons,List.drop_succ_cons,allW] at h h2
    exact ⟨h.1,allW_append h.2 h2⟩

section
variable {H:Type} {enc:TypeId × Value→H} {P:Program} {w:World} {base:Nat} {spare:Nat→Bool} {held:Bool}
theorem cells_of (w:World) {t sz:Nat} (h:∀ w,(Go.sizeOf t).run P w = .ok sz w):P.cellsOf t=sz:=by
  have:=h w
  simp only [Go.sizeOf,typeInfo,Sem.run_bind,Sem.run_pure] at this
  unfold Program.cellsOf
  cases hi:P.info? t with
  | none=>simp [hi] at this
  | some i=>simp [hi] at this;simp [this]
theorem trodFs {g:Nat→Option (List TK)} {n:Nat} {cs:List Value} (hg:∀ t ks us x,g t=some ks→P.cellsOf t=ks.length→DataW.trod enc P w base spare held n t us=some x→allW ks us) :
    ∀ (fields:List Field) (fs:List (Nat × Nat × Nat)) (k:Nat) (ks:List TK),Flds P fields fs→flatFs g fs k=some ks→cs.length=k+ks.length→(∀ f∈fields,∃ x,DataW.trod enc P w base spare held n f.type ((cs.drop f.offset).take (P.cellsOf f.type))=some x)→allW ks (cs.drop k)
  | [],[],k,ks,_,h,hl,_=>by
    simp only [flatFs,Option.some.injEq] at h
    subst h
    rw [List.drop_eq_nil_of_le (by simp at hl;omega)]
    trivial
  | [],_::_,_,_,h,_,_,_=>h.elim
  | _::_,[],_,_,h,_,_,_=>h.elim
  | f :: fields,(t,off,sz)::fs,k,ks,hF,h,hl,hx=>by
    obtain ⟨e1,e2,e3,e4,e5⟩:=hF
    simp only [flatFs] at h
    split at h
    · cases h
    · rename_i hb
      have hb':=Nat.eq_of_beq_eq_true hb
      split at h
      · cases h
      · rename_i k1 hk1
        split at h
        · cases h
        · rename_i hl1
          have hl1':=Nat.eq_of_beq_eq_true hl1
          split at h
          · cases h
          · rename_i k2 hk2
            cases h
            obtain ⟨x,hx1⟩:=hx f List.mem_cons_self
            have hsz:=cells_of w e3
            rw [e1,e2,hsz,hb'] at hx1
            have h1:=hg t k1 _ x hk1 (by rw [hsz,hl1']) hx1
            have h2:=trodFs hg fields fs (k+sz) k2 e5 hk2 (by rw [hl,List.length_append,hl1'];omega) fun f' hf'=>hx f' (List.mem_cons_of_mem _ hf')
            refine allW_append (by rw [hl1'];exact h1) ?_
            rw [List.drop_drop,hl1'];exact h2
theorem allW_rep {k1:List TK}:∀ (m:Nat) (cs:List Value),cs.length=m * k1.length→(∀ i,i < m→allW k1 ((cs.drop (i * k1.length)).take k1.length))→allW (repK k1 m) cs
  | 0,cs,hl,_=>by
    have:cs=[]:=by cases cs;rfl;simp at hl
    subst this;trivial
  | m+1,cs,hl,h=>by
    have h0:=h 0 (by omega)
    simp only [Nat.zero_mul,List.drop_zero] at h0
    rw [Nat.add_mul] at hl
    refine allW_append h0 (allW_rep m _ (by rw [List.length_drop,hl];omega) fun i hi=>?_)
    have:=h (i+1) (by omega)
    rwa [List.drop_drop,show k1.length+i * k1.length=(i+1) * k1.length by rw [Nat.add_mul];omega]
theorem trod_flat (tb:Tb P):∀ (n t:Nat) (ks:List TK),flatE tb n t=some ks→P.cellsOf t=ks.length→∀ fuel cs x,DataW.trod enc P w base spare held fuel t cs=some x→allW ks cs
  | 0,_,_,h,_,_,_,_,_=>by cases h
  | n + 1, t, ks,h,hlen,fuel,cs,x,hx=>by
    simp only [flatE] at h
    split at h
    · cases h
    · rename_i r hr
      have hgd:=tb.get hr
      have his:=hgd.is
      split at h
      · rename_i k hk
        rw [hk] at his
        cases h
        obtain ⟨m,rfl,_,hwf⟩:=DataW.trod_int his hx
        simp only [Lit.wf,Bool.and_eq_true,decide_eq_true_eq] at hwf
        exact ⟨⟨rfl,hwf⟩,trivial⟩
      · rename_i hk
        rw [hk] at his
        cases h
        obtain ⟨b,rfl,_⟩:=DataW.trod_bool his hx
        exact ⟨trivial,trivial⟩
      · rename_i hk
        rw [hk] at his
        cases h
        obtain ⟨s,rfl,_,hs⟩:=DataW.trod_string his hx
        exact ⟨hs,trivial⟩
      · rename_i fs hk
        rw [hk] at his
        obtain ⟨fields,h1,h2⟩:=his
        obtain ⟨xs,m,rfl,_,hcl,hxl,hf⟩:=DataW.trod_struct h1 hx
        have:=trodFs (cs:=cs) (n:=m) (fun t ks us x hg hc ht=>trod_flat tb n t ks hg hc m us x ht) fields.toList fs 0 ks h2 h (by rw [hcl,hlen];omega) fun f hf'=>by
          obtain ⟨i,hi,he⟩:=List.getElem_of_mem hf'
          have h3:fields[i]? = some f:=by rw [← he];simp at hi;simp [hi]
          have h4:=hf i f h3
          simp at hi
          rw [List.getElem?_eq_getElem (by omega)] at h4
          exact ⟨_,h4⟩
        simpa using this
      · rename_i mm e hk
        rw [hk] at his
        split at h
        · cases h
        · rename_i re hre
          split at h
          · cases h
          · rename_i k1 hk1
            split at h
            · cases h
            · rename_i hl1
              have hl1':=Nat.eq_of_beq_eq_true hl1
              cases h
              obtain ⟨xs,m,rfl,_,hcl,hxl,hf⟩:=DataW.trod_array his hx
              have hce:P.cellsOf e=k1.length:=by rw [cells_of w (tb.get hre).size,hl1']
              refine allW_rep mm cs (by rw [hcl,hlen,repK_len]) fun i hi=>?_
              have h4:=hf i hi
              rw [hce,List.getElem?_eq_getElem (by omega)] at h4
              exact trod_flat tb n e k1 hk1 hce m _ _ h4
      · cases h

/-- The arguments read behind the call as before: nothing that was there has changed. -/
theorem trodAll_stays {W W':World} (hl:laidOutB P=true) (hb:Below W.heap.size W W') {sp:Nat→Bool}:∀ {ts:List TypeId} {vs:List Value} {ds:List (DataW H)} {ps:List MemPlace},(∀ t∈ts,P.readableRec t=true∧t < P.types.size) →
    DataW.TrodAll enc P W 0 (fun _=>true) true ts vs ds ps→(∀ p∈ps,p.block < W.heap.size∧sp p.block=true)→DataW.TrodAll enc P W' 0 sp true ts vs ds ps
  | [],vs,ds,ps,_,h,_=>by
    obtain ⟨rfl,rfl,rfl⟩:=trodAll_nil h
    exact trodAll_mk0
  | t :: ts,vs,ds,ps,hr,h,hp=>by
    obtain ⟨v,vs',d,ds',p,q,rfl,rfl,rfl,h1,h2⟩:=trodAll_cons h
    have g:=hr t List.mem_cons_self
    exact ⟨p,q,WideElems.Trod_stays hl g.1 g.2 h1 (fun x hx=>hb.same (hp x (List.mem_append_left _ hx)).1) (fun x hx=>(hp x (List.mem_append_left _ hx)).2),
      trodAll_stays hl hb (fun t' ht'=>hr t' (List.mem_cons_of_mem _ ht')) h2 (fun x hx=>hp x (List.mem_append_right _ hx)),rfl⟩
/-- A statement's last step: it returned true,and nothing that was there has changed. -/
theorem law_post {f:Func} {s:ChangeSpec} {apart fresh handsOn again:Bool} {W W':World} {args:Array Value} {ds gs:List (DataW H)} {before:List MemPlace} {tt:TypeId}
    (hW:DataW.Whole enc P f.params.toList s.vars apart W args.toList ds gs before) (hv:s.vars=[]) (hfn:s.fn H ds={ results:=[.lit (.bool true)],args:=ds,vars:=[] })
    (hrt:f.resultTypes = #[tt]) (htt:P.underlying tt=some .bool) (hl:laidOutB P=true) (hread:∀ t∈f.params.toList,P.readableRec t=true∧t < P.types.size) (hb:Below W.heap.size W W') :
    s.post enc P f apart fresh handsOn again W args (.bool true) W':=by
  have hlt:∀ p∈before,p.block < W.heap.size:=fun p hp=>hW.lt p hp
  obtain ⟨p,q,hA,hV,rfl,hz,hn⟩:=hW
  have hV':=hV
  rw [hv] at hV'
  obtain ⟨rfl,rfl⟩:=trodVars_none hV'
  rw [List.append_nil] at hlt hz hn
  have key:∀ sp:Nat→Bool,(∀ x∈p,sp x.block=true)→DataW.TrodAll enc P W' 0 sp true f.params.toList args.toList ds p:=fun sp hs=>trodAll_stays hl hb hread hA fun x hx=>⟨hlt x hx,hs x hx⟩
  have hres:∀ (b:Nat) (sp:Nat→Bool) (hd:Bool),DataW.TrodAll enc P W' b sp hd f.resultTypes.toList ((Value.bool true).resultList f.resultTypes.size) [.lit (.bool true)] []:=fun b sp hd=>by
    rw [hrt];exact trodAll_mk1 (shut_bool htt true)
  refine ⟨ds,[],p,[],p,[],⟨p,[],hA,hV,by simp,hz,hn⟩,?_,?_,?_,World.keptBut_mono (fun x hx=>⟨hx,.inr (.inl hx)⟩) (hb.frame (· ∈ p)),fun _=>⟨?_,?_⟩⟩
  · rw [List.append_nil,hfn];exact hres _ _ _
  · rw [List.append_nil,hfn];exact key _ fun x hx=>by simpa using hlt x hx
  · rw [List.append_nil,hfn,hv];rfl
  · exact ok_one hrt rfl (okWide_bool_mk htt true)
  · refine ⟨.lit (.bool true)::ds,[],p,⟨p,[],?_,by rw [hv];rfl,by simp,?_,hn⟩,fun x hx _=>hx⟩
    · rw [hrt]
      exact ⟨[],p,shut_bool htt true,key _ fun _ _=>rfl,rfl⟩
    · intro b off hx
      rw [hb.frozen (hlt _ hx)]
      exact hz b off hx
end
end Go.Proofs.Ytijbmkjebidanaa
set_option linter.unusedSimpArgs false
set_option linter.unusedVariables false
namespace Go.Proofs.Ytijbmkjebidanaa
open Go.ChangeShapes Go.WideShapes Go.ChangeAt Go.RowKit
theorem open_flat {α:Type} {P:Program} {H:Type} {enc:TypeId × Value→H} {w:World} {base:Nat} {spare:Nat→Bool} {held:Bool} (f:α→List Value) (tb:Tb P) {t:TypeId} {r:TRow} {fs:List (Nat × Nat × Nat)} {ks:List TK} {v:Value} {d:DataW H} {p:List MemPlace} (ht:tb.row t=some r) (hk:r.k = .strct fs) (hf:flatE tb 8 t=some ks) (hl:Nat.beq ks.length r.size=true)
    (dec:∀ cs,allW ks cs→∃ a,f a=cs) {rc:Reach} {b0:Nat} (hv:Value.okWide P w rc b0 t v) (h:DataW.Trod enc P w base spare held t v d p):∃ a,v = .agg ⟨f a⟩∧allW ks (f a):=by
  have his:=(tb.get ht).is
  rw [hk] at his
  obtain ⟨fields,h1,_⟩:=his
  obtain ⟨cs,rfl,_⟩:=okWide_struct h1 hv
  obtain ⟨fuel,hfu⟩:=h
  have hce:P.cellsOf t=ks.length:=by rw [cells_of w (tb.get ht).size,Nat.eq_of_beq_eq_true hl]
  have h3:=trod_flat tb 8 t ks hf hce _ _ _ hfu
  obtain ⟨a,ha⟩:=dec _ h3
  refine ⟨a,?_,by rw [ha];exact h3⟩
  rw [ha]
  cases cs
  rfl

set_option linter.unusedSectionVars false
open Go.Shelf Go.Deep
section
variable {H:Type} {enc:TypeId × Value→H} {P:Program} {w:World} {base:Nat} {spare:Nat→Bool} {held:Bool}
/-- What a type's cells may be,once they have been trodden. -/
def Opens (enc:TypeId × Value→H) (P:Program) (w:World) (base:Nat) (spare:Nat→Bool) (held:Bool) (t:TypeId) (Q:List Value→Prop):Prop:=∀ fuel cs x,DataW.trod enc P w base spare held fuel t cs=some x→Q cs
theorem Opens.flat (tb:Tb P) {t:TypeId} {r:TRow} {ks:List TK} (ht:tb.row t=some r) (hf:flatE tb 8 t=some ks) (hl:Nat.beq ks.length r.size=true):Opens enc P w base spare held t (allW ks) :=
  fun fuel cs x h=>trod_flat tb 8 t ks hf (by rw [cells_of w (tb.get ht).size,Nat.eq_of_beq_eq_true hl]) fuel cs x h
/-- One field of a struct. -/
theorem Opens.field (tb:Tb P) {t ft off sz:Nat} {r:TRow} {fs:List (Nat × Nat × Nat)} {Q:List Value→Prop} (ht:tb.row t=some r) (hk:r.k = .strct fs) (i:Nat) (hi:fldE fs i=some (ft,off,sz)) (hQ:Opens enc P w base spare held ft Q) :
    Opens enc P w base spare held t fun cs=>cs.length=r.size∧Q ((cs.drop off).take sz):=by
  intro fuel cs x hx
  have his:=(tb.get ht).is
  rw [hk] at his
  obtain ⟨fields,h1,h2⟩:=his
  obtain ⟨xs,m,rfl,_,hcl,hxl,hf⟩:=DataW.trod_struct h1 hx
  obtain ⟨f,g1,g2,g3,g4,_⟩:=Flds.get h2 hi
  have g1':fields[i]? = some f:=by rw [← g1];simp
  have h4:=hf i f g1'
  have hlt:i < xs.length:=by rw [hxl];exact (Array.getElem?_eq_some_iff.1 g1').1
  rw [List.getElem?_eq_getElem hlt,g2,g3,cells_of w g4] at h4
  exact ⟨by rw [hcl,cells_of w (tb.get ht).size],hQ _ _ _ h4⟩
theorem Opens.and {t:TypeId} {Q R:List Value→Prop} (h:Opens enc P w base spare held t Q) (h2:Opens enc P w base spare held t R):Opens enc P w base spare held t fun cs=>Q cs∧R cs:=fun f cs x hx=>⟨h f cs x hx,h2 f cs x hx⟩
theorem Opens.mono {t:TypeId} {Q R:List Value→Prop} (h:Opens enc P w base spare held t Q) (h2:∀ cs,Q cs→R cs):Opens enc P w base spare held t R:=fun f cs x hx=>h2 _ (h f cs x hx)
/-- A slice whose elements open. -/
theorem Opens.slice {α:Type} [Inhabited α] (f:α→List Value) (Q:α→Prop) (tb:Tb P) {t e:TypeId} {r re:TRow} (ht:tb.row t=some r) (hk:r.k = .slice e) (he:tb.row e=some re) (hpos:Nat.ble 1 re.size=true)
    (hlen:∀ a,(f a).length=re.size) (hE:Opens enc P w base spare held e fun cs=>∃ a,f a=cs∧Q a) :
    Opens enc P w base spare held t fun cs=>∃ (a:Option Addr) (rs:List α) (cap:Nat),cs=[.slice a rs.length cap]∧RdSl w a f rs∧rs.length≤cap∧cap≤maxLen∧(∀ x∈rs,Q x)∧(a=none→cap=0):=by
  intro fuel cs x hfu
  have hu:P.underlying t=some (.slice e):=by have:=(tb.get ht).is;rw [hk] at this;exact this
  have hce:P.cellsOf e=re.size:=cells_of w (tb.get he).size
  rcases open_slice hu hfu with ⟨h0,_⟩|⟨a,len,cap,m,n,D,Pl,hcs,hb,hlc,hm,hmm,hx,hi⟩
  · exact ⟨none,[],0,h0,.inl rfl,by simp,by simp,by simp,fun _=>rfl⟩
  · have hle:len≤m:=by rw [hmm];split<;>omega
    obtain ⟨R,hR⟩:=choose_lt (α:=α) (p:=fun i x=>w.cells? base (a.add (i * P.cellsOf e)) (P.cellsOf e)=some (f x)∧Q x) (n:=len) (fun i hi'=>by
      obtain ⟨cs',h1,h2⟩:=hi i (by omega)
      obtain ⟨x,hx,hq⟩:=hE _ _ _ h2
      exact ⟨x,by rw [hx];exact h1,hq⟩)
    have hrl:((List.range len).map R).length=len:=by simp
    refine ⟨some a,(List.range len).map R,cap,by rw [hrl];exact hcs,?_,by rw [hrl];exact hlc,hm,?_,fun h=>by cases h⟩
    · by_cases hz:len=0
      · left;simp [hz]
      · right
        have hpos':=Nat.le_of_ble_eq_true hpos
        have hspot:a.spot=none:=by
          obtain ⟨_,h2,h3⟩:=World.cells?_some (hR 0 (by omega)).1
          have h4:=h3 0 (by omega)
          rw [List.getElem?_eq_getElem (by omega)] at h4
          unfold World.cell? at h4
          cases a with|mk b o s =>
          cases s with
          | none=>rfl
          | some s =>
            simp only [Addr.add] at h4
            split at h4
            · simp at h4
            · cases h4
        cases a with|mk b o s =>
        simp only at hspot
        subst hspot
        refine ⟨b,o,rfl,fun k hk'=>?_⟩
        rw [fl_len hlen,hrl] at hk'
        have hdm:=Nat.div_add_mod k re.size
        have hml:=Nat.mod_lt k (show 0 < re.size by omega)
        have hil:k / re.size < len:=by rw [Nat.div_lt_iff_lt_mul (by omega)];exact hk'
        have hgi:((List.range len).map R)[k / re.size]? = some (R (k / re.size)):=by simp [hil]
        have h5:=fl_get hlen hgi hml
        rw [show k / re.size * re.size+k % re.size=k by rw [Nat.mul_comm];exact hdm] at h5
        rw [h5]
        obtain ⟨_,h2,h3⟩:=World.cells?_some (hR _ hil).1
        have h4:=h3 (k % re.size) (by rw [hce];exact hml)
        rw [Addr.add_none,Addr.add_none,hce] at h4
        rw [← h4,show o+k / re.size * re.size+k % re.size=o+k by rw [Nat.add_assoc,show k / re.size * re.size+k % re.size=k by rw [Nat.mul_comm];exact hdm]]
    · intro x hx'
      obtain ⟨i,hi',rfl⟩:=List.mem_map.1 hx'
      exact (hR i (List.mem_range.1 hi')).2
/-- An argument that opens. -/
theorem Opens.arg {t:TypeId} {Q:List Value→Prop} (hE:Opens enc P w base spare held t Q) {v:Value} {d:DataW H} {p:List MemPlace} (h:DataW.Trod enc P w base spare held t v d p):Q v.cells.toList:=by
  obtain ⟨fuel,hfu⟩:=h
  exact hE _ _ _ hfu
/-- A slice that came in. -/
theorem Opens.argSl {α:Type} {R:Option Addr→List α→Nat→Prop} (tb:Tb P) {t e:TypeId} {r:TRow} (ht:tb.row t=some r) (hk:r.k = .slice e) {v:Value} {d:DataW H} {p:List MemPlace} {rc:Reach} {b0:Nat} (hv:Value.okWide P w rc b0 t v)
    (hE:Opens enc P w base spare held t fun cs=>∃ (a:Option Addr) (rs:List α) (cap:Nat),cs=[.slice a rs.length cap]∧R a rs cap) (h:DataW.Trod enc P w base spare held t v d p):∃ (a:Option Addr) (rs:List α) (cap:Nat),v = .slice a rs.length cap∧R a rs cap:=by
  have hu:P.underlying t=some (.slice e):=by have:=(tb.get ht).is;rw [hk] at this;exact this
  obtain ⟨a0,len0,cap0,rfl⟩:=okWide_slice hu hv
  obtain ⟨a,rs,cap,h1,h2⟩:=hE.arg h
  simp only [Value.cells,List.cons.injEq,Value.slice.injEq,and_true] at h1
  obtain ⟨rfl,rfl,rfl⟩:=h1
  exact ⟨_,_,_,rfl,h2⟩
end
section
variable {H:Type} {enc:TypeId × Value→H} {P:Program} {w:World} {base:Nat} {spare:Nat→Bool} {held:Bool}
end
end Go.Proofs.Ytijbmkjebidanaa
set_option linter.unusedSimpArgs false
set_option linter.unusedVariables false
namespace Go.Proofs.Ytijbmkjebidanaa
open Go.ChangeShapes Go.WideShapes Go.ChangeAt Go.RowKit
theorem Try.own:ownKnob Try.prog.godebug=none:=by kernel_rfl
theorem Try.laidOut:laidOutB Try.prog=true:=by kernel_rfl
def clKs:List TK:=[.int .i64,.int .i64,.int .i64,.int .i64]
theorem cl_dec:∀ cs,allW clKs cs→∃ c:Cl,c.v=cs:=by
  rintro cs h
  simp only [clKs] at h
  match cs,h with
  | [.int k1 a,.int k2 b,.int k3 c,.int k4 d],h =>
    obtain ⟨⟨rfl,_⟩,⟨rfl,_⟩,⟨rfl,_⟩,⟨rfl,_⟩,_⟩:=h
    exact ⟨⟨a,b,c,d⟩,rfl⟩
end Go.Proofs.Ytijbmkjebidanaa
set_option linter.unusedSimpArgs false
set_option linter.unusedVariables false
namespace Go.Proofs.Ytijbmkjebidanaa
open Go.RowKit Go.Shelf
section
variable {X:Cx} {σ:Env} {L L':Lst} {ty:TypeId} {pos:String} {af:Array Edge} {x y:Operand} {t t2 e te:TypeId} {r r2 re:TRow} {b o n m j cap:Nat} {cs cs':List Value} {all:Array Oper} {rest:List Oper} {K:Env→Lst→Prop} {dd:Nat}
theorem zc_gen {zero:Array Value} {zc:List Value} (hk:0 < zc.length) (hz:zero=⟨zc⟩):∀ n,(Builtin.zeroCells zero n).toList=(List.replicate n zc).flatten
  | 0=>by subst hz;simp [Builtin.zeroCells]
  | n + 1=>by
    have ih:=zc_gen hk hz n
    subst hz
    simp only [Builtin.zeroCells,Array.toList_map,Array.toList_range] at ih ⊢
    rw [List.replicate_succ',List.flatten_append,← ih,show (n+1) * (⟨zc⟩:Array Value).size=n * (⟨zc⟩:Array Value).size+(⟨zc⟩:Array Value).size by rw [Nat.add_mul,Nat.one_mul],List.range_add,List.map_append]
    congr 1
    simp only [List.map_map,List.flatten_cons,List.flatten_nil,List.append_nil]
    apply List.ext_getElem
    · simp
    · intro i h1 h2
      have hi:i < zc.length:=h2
      have hm:(n * zc.length+i) % zc.length=i:=by rw [Nat.add_comm,Nat.add_mul_mod_self_right,Nat.mod_eq_of_lt hi]
      simp [hm,hi]
theorem R.clearG {zc:List Value} (ht:X.tb.row t=some r) (hk:r.k = .slice e) (he:X.tb.row e=some re) (hz:cellsE re.zero=some zc) (hk0:0 < zc.length) (h10:zc.all Value.oneCell'=true) (hx:ev σ x=some (.slice (some ⟨b,o,none⟩) n cap)) (hn:0 < n)
    (hu:Upd L b (.cells ⟨cs⟩ te (0,0)) (.cells ⟨cs'⟩ te (0,0)) L') (hc:setE cs o (List.replicate n zc).flatten=some cs') (h:R X all rest K σ L') :
    R X all (⟨none,.call { callee:=.builtin .clear,args:=#[x],argTypes:=#[t] },ty,pos,af,none⟩::rest) K σ L :=
  R.value0 rfl rfl fun a w ha hw=>by
    have hall:((List.replicate n zc).flatten).all Value.oneCell'=true:=by
      rw [List.all_eq_true] at h10 ⊢
      intro v hv
      obtain ⟨l,hl,hvl⟩:=List.mem_flatten.1 hv
      rw [(List.mem_replicate.1 hl).2] at hvl
      exact h10 v hvl
    obtain ⟨w',h2,h3,h4⟩:=run_stores X.P ⟨b,o,none⟩ rfl te (List.replicate n zc).flatten 0 w cs cs' hall (hw.get _ _ hu.mem) hc
    have hcs:=cellsE_eq hz
    have hzc:=zc_gen hk0 hcs n
    have hu1:X.P.underlying t=some (.slice e):=by have:=(X.tb.get ht).is;rw [hk] at this;exact this
    refine ⟨.tuple #[],w',L',?_,hw.upd hu h4 h3,h⟩
    obtain ⟨n,rfl⟩:∃ m,n=m+1:=⟨n - 1,by omega⟩
    simp [execOp,resolve,ha.ev hx,invoke,builtin,Builtin.clear_,run_underlying hu1,(X.tb.get he).zero,hzc,h2]
theorem Ok1.sufB {d:Option Nat} {g:Option (Nat × Bool)} {lo:Operand} {i sz:Nat} (ht:X.tb.row t=some r) (hk:r.k = .slice e) (he:X.tb.row e=some re) (hsz:re.size=sz) (hx:ev σ x=some (.slice (some ⟨b,0,none⟩) n cap)) (hl:ev σ lo=some (.int .i64 i)) (h1:i≤n) (h2:n≤cap) (h3:i < cap) :
    Ok1 X ⟨d,.slice t x (some lo) none none,ty,pos,af,g⟩ σ L (.slice (some ⟨b,i * sz,none⟩) (n - i) (cap - i)):=.mk fun a w ha hw=>by
  subst hsz
  rw [slice_run (l:=(i:Int)) (h:=(n:Int)) (m:=(cap:Int)) X.tb ht hk he ha hx rfl rfl (by simp [bd,hl]) (by omega) (by omega) (by omega) (by omega) (.inl rfl)]
  simp only [Int.toNat_natCast,Option.map_some,Addr.add_none,Nat.zero_add,if_neg (show ¬ cap=i by omega)]
theorem Ok1.preB {d:Option Nat} {g:Option (Nat × Bool)} {hi:Operand} {i:Nat} (ht:X.tb.row t=some r) (hk:r.k = .slice e) (he:X.tb.row e=some re) (hx:ev σ x=some (.slice (some ⟨b,0,none⟩) n cap)) (hl:ev σ hi=some (.int .i64 i)) (h2:i≤cap) :
    Ok1 X ⟨d,.slice t x none (some hi) none,ty,pos,af,g⟩ σ L (.slice (some ⟨b,0,none⟩) i cap):=.mk fun a w ha hw=>by
  rw [slice_run (l:=0) (h:=(i:Int)) (m:=(cap:Int)) X.tb ht hk he ha hx rfl (by simp [bd,hl]) rfl (by omega) (by omega) (by omega) (by omega) (.inl rfl)]
  simp [Addr.add_none]
end
set_option linter.unusedSectionVars false
section
variable {X:Cx} {σ:Env} {L:Lst} {ty:TypeId} {pos:String} {af:Array Edge} {d:Option Nat} {g:Option (Nat × Bool)} {x:Operand} {κ α:Type} {kv:κ→Value} {vv:α→Value} {ms:Ms κ α} {clk b c:Nat}
theorem find_born {ms:Ms κ α} {e:κ × α × Nat} (he:e∈ms) (hnd:(ms.map (·.2.2)).Nodup):(Array.mk (ms.map fun x=>(⟨kv x.1,vv x.2.1,x.2.2⟩:MapEntry))).find? (fun y=>y.born == e.2.2)=some ⟨kv e.1,vv e.2.1,e.2.2⟩:=by
  rw [List.find?_toArray]
  induction ms with
  | nil=>cases he
  | cons m ms ih =>
    simp only [List.map_cons,List.nodup_cons] at hnd
    simp only [List.map_cons,List.find?_cons]
    rcases List.mem_cons.1 he with rfl|he
    · simp
    · have:m.2.2≠e.2.2:=fun h=>hnd.1 (h ▸ List.mem_map.2 ⟨e,he,rfl⟩)
      simp only [beq_eq_false_iff_ne.2 this]
      exact ih he hnd.2
theorem Ok1.entry {e:κ × α × Nat} {seen:List Nat} (hx:ev σ x=some (.pointer (some ⟨c,0,none⟩))) (hit:At L c (.mapIter (some b) clk ⟨seen++[e.2.2]⟩ clk)) (hat:At L b (mobj kv vv ms clk)) (he:e∈ms) (hnd:(ms.map (·.2.2)).Nodup) :
    Ok1 X ⟨d,.entry x,ty,pos,af,g⟩ σ L (.tuple ⟨[kv e.1,vv e.2.1]⟩):=.mk fun a w ha hw=>by
  have hb:=hw.get _ _ hat.mem
  have hc:=hw.get _ _ hit.mem
  have g1:(getObj c).run X.P w = .ok (.mapIter (some b) clk ⟨seen++[e.2.2]⟩ clk) w:=by simp only [getObj,Sem.run,hc]
  have g2:(getObj b).run X.P w = .ok (mobj kv vv ms clk) w:=by simp only [getObj,Sem.run,hb];rfl
  have hback:(Array.mk (seen++[e.2.2])).back? = some e.2.2:=by simp
  have hf:=find_born (kv:=kv) (vv:=vv) he hnd
  simp only [execOp,ha.ev hx,Instr.entry,Sem.run_bind,g1,Result.andThen_ok,hback,g2,mobj,bne_self_eq_false,Bool.false_eq_true,if_false,hf,Sem.run_pure]
end
theorem nodup_map_born {κ α:Type} {l:Ms κ α} (h:(l.map (·.2.2)).Nodup):l.Nodup:=by
  induction l with
  | nil=>simp
  | cons m l ih =>
    simp only [List.map_cons,List.nodup_cons] at h ⊢
    exact ⟨fun hm=>h.1 (List.mem_map.2 ⟨m,hm,rfl⟩),ih h.2⟩
theorem nodup_sub_len {β:Type} [DecidableEq β]:∀ {l m:List β},l.Nodup→(∀ x∈l,x∈m)→l.length≤m.length
  | [],_,_,_=>Nat.zero_le _
  | a :: l,m,h,hs=>by
    rw [List.nodup_cons] at h
    have h1:=hs a List.mem_cons_self
    have h2:l.length≤(m.erase a).length:=nodup_sub_len h.2 fun x hx=>by
      have hne:x≠a:=fun e=>h.1 (e ▸ hx)
      exact (List.mem_erase_of_ne hne).2 (hs x (List.mem_cons_of_mem _ hx))
    rw [List.length_erase_of_mem h1] at h2
    have:0 < m.length:=List.length_pos_of_mem h1
    simp only [List.length_cons]
    omega
/-- Which entries have been met. -/
structure Met {κ α:Type} (ms vis:Ms κ α):Prop where
  nd:(vis.map (·.2.2)).Nodup
  sub:∀ e∈vis,e∈ms
theorem Met.start {κ α:Type} (ms:Ms κ α):Met ms []:=⟨by simp,by simp⟩
theorem Met.step {κ α:Type} {ms vis:Ms κ α} (h:Met ms vis) {e:κ × α × Nat} (he:e∈ms) (hn:e.2.2 ∉ vis.map (·.2.2)):Met ms (vis++[e]):=by
  refine ⟨?_,?_⟩
  · rw [List.map_append,List.nodup_append]
    refine ⟨h.nd,by simp,?_⟩
    intro a ha b hb e'
    simp only [List.map_cons,List.map_nil,List.mem_singleton] at hb
    subst hb;subst e'
    exact hn ha
  · intro x hx
    rcases List.mem_append.1 hx with hx|hx
    · exact h.sub x hx
    · rw [List.mem_singleton.1 hx];exact he
theorem Met.perm {κ α:Type} {ms vis:Ms κ α} (h:Met ms vis) (hnd:(ms.map (·.2.2)).Nodup) (hall:∀ e∈ms,e.2.2∈vis.map (·.2.2)):vis.Perm ms:=by
  classical
  have nv:vis.Nodup:=nodup_map_born h.nd
  have nm:ms.Nodup:=nodup_map_born hnd
  refine (List.perm_ext_iff_of_nodup nv nm).2 fun e=>⟨h.sub e,fun he=>?_⟩
  obtain ⟨e',h1,h2⟩:=List.mem_map.1 (hall e he)
  have h3:=h.sub e' h1
  have:e'=e:=by
    have inj:∀ (ms:Ms κ α),(ms.map (·.2.2)).Nodup→e'∈ms→e∈ms→e'.2.2=e.2.2→e'=e:=by
      intro ms
      induction ms with
      | nil=>intro _ h;cases h
      | cons m ms ih =>
        intro hn h1 h2 h3
        simp only [List.map_cons,List.nodup_cons] at hn
        rcases List.mem_cons.1 h1 with a1|a1
        · rcases List.mem_cons.1 h2 with a2|a2
          · rw [a1,a2]
          · exact (hn.1 (a1 ▸ h3 ▸ List.mem_map.2 ⟨e,a2,rfl⟩)).elim
        · rcases List.mem_cons.1 h2 with a2|a2
          · exact (hn.1 (a2 ▸ h3 ▸ List.mem_map.2 ⟨e',a1,rfl⟩)).elim
          · exact ih hn.2 a1 a2 h3
    exact inj ms hnd h3 he h2
  exact this ▸ h1
theorem Met.le {κ α:Type} {ms vis:Ms κ α} (h:Met ms vis) (hnd:(ms.map (·.2.2)).Nodup) {e:κ × α × Nat} (he:e∈ms) (hn:e.2.2 ∉ vis.map (·.2.2)):vis.length < ms.length:=by
  have h2:=h.step he hn
  have h1:((vis++[e]).map (·.2.2)).length≤(ms.map (·.2.2)).length:=nodup_sub_len h2.nd fun x hx=>by
    obtain ⟨y,hy,rfl⟩:=List.mem_map.1 hx
    exact List.mem_map.2 ⟨y,h2.sub y hy,rfl⟩
  simp only [List.length_map,List.length_append,List.length_cons,List.length_nil] at h1
  omega
end Go.Proofs.Ytijbmkjebidanaa
set_option linter.unusedSimpArgs false
set_option linter.unusedVariables false
set_option linter.unusedSectionVars false
namespace Go.Proofs.Ytijbmkjebidanaa
section
variable {κ α:Type} [DecidableEq κ]
def mkeys (ms:Ms κ α):List κ:=ms.map (·.1)
theorem mget_none {k:κ}:∀ {ms:Ms κ α},mget k ms=none ↔ k ∉ mkeys ms
  | []=>by simp [mget,mkeys]
  | x :: r=>by
    have ih:=mget_none (k:=k) (ms:=r)
    by_cases h:x.1=k
    · simp [mget,mkeys,h]
    · simp only [mget,h,if_false,ih,mkeys,List.map_cons,List.mem_cons,not_or]
      exact ⟨fun h'=>⟨fun e=>h e.symm,h'⟩,fun h'=>h'.2⟩
theorem mget_of_mem {e:κ × α × Nat}:∀ {ms:Ms κ α},(mkeys ms).Nodup→e∈ms→mget e.1 ms=some e.2.1
  | [],_,h=>by cases h
  | x :: r,hn,h=>by
    simp only [mkeys,List.map_cons,List.nodup_cons] at hn
    rcases List.mem_cons.1 h with rfl|h
    · simp [mget]
    · have:x.1≠e.1:=fun he=>hn.1 (he ▸ List.mem_map.2 ⟨e,h,rfl⟩)
      simp only [mget,this,if_false]
      exact mget_of_mem hn.2 h
/-- A map that is in order: keys once each,stamps once each and below the clock. -/
structure MWf (s:Ms κ α × Nat):Prop where
  bnd:∀ e∈s.1,e.2.2 < s.2
  nd:(s.1.map (·.2.2)).Nodup
  keys:(mkeys s.1).Nodup
theorem MWf.nil:MWf (([]:Ms κ α),0):=⟨by simp,by simp,by simp [mkeys]⟩
theorem MWf.snoc {s:Ms κ α × Nat} (h:MWf s) {k:κ} {a:α} (hk:mget k s.1=none):MWf (s.1++[(k,a,s.2)],s.2+1):=by
  refine ⟨fun e he=>?_,?_,?_⟩
  · rcases List.mem_append.1 he with he|he
    · have:=h.bnd e he;simp only;omega
    · rw [List.mem_singleton.1 he];simp
  · rw [List.map_append,List.nodup_append]
    refine ⟨h.nd,by simp,fun x hx y hy e=>?_⟩
    obtain ⟨z,hz,rfl⟩:=List.mem_map.1 hx
    have:=h.bnd z hz
    simp only [List.map_cons,List.map_nil,List.mem_singleton] at hy
    omega
  · simp only [mkeys,List.map_append,List.nodup_append]
    refine ⟨h.keys,by simp,fun x hx y hy e=>?_⟩
    simp only [List.map_cons,List.map_nil,List.mem_singleton] at hy
    exact mget_none.1 hk (hy ▸ e ▸ hx)
end
end Go.Proofs.Ytijbmkjebidanaa
set_option linter.unusedSimpArgs false
set_option linter.unusedVariables false
namespace Go.Proofs.Ytijbmkjebidanaa
open Go.RowKit Go.Shelf
set_option maxRecDepth 100000
theorem clvinjK {a b:Cl}:([.int .i64 a.id,.int .i64 a.roles,.int .i64 a.exp,.int .i64 a.ser]:List Value)=[.int .i64 b.id,.int .i64 b.roles,.int .i64 b.exp,.int .i64 b.ser] ↔ a=b:=by
  simp only [List.cons.injEq,Value.int.injEq,true_and,and_true]
  constructor
  · rintro ⟨h1,h2,h3,h4⟩
    cases a;cases b;simp_all
  · rintro h;simp [h]
theorem ktK:KeyT Try.prog 34 kvC:=KeyT.flat tb (fun c:Cl=>[.int .i64 c.id,.int .i64 c.roles,.int .i64 c.exp,.int .i64 c.ser]) rfl rfl rfl (fun _=>rfl) fun _ _ h=>clvinjK.1 h
structure En where
  boot:Int
  ctr:Int
  bits:Int
  key:Option Addr
  asked:Int
def En.v (e:En):List Value:=[.int .i64 e.boot,.int .i64 e.ctr,.int .u64 e.bits,.pointer e.key,.int .i64 e.asked]
structure BE where
  c:Cl
  blk:Nat
  born:Nat
  e:En
abbrev BS:=List BE
def vvP (a:Nat):Value:=.pointer (some ⟨a,0,none⟩)
def bms (es:BS):Ms Cl Nat:=es.map fun x=>(x.c,x.blk,x.born)
def bls (es:BS):Lst:=es.map fun x=>(x.blk,.cells ⟨x.e.v⟩ 103 (0,0))
def BL (b bm:Nat) (es:BS) (clk:Nat):Lst:=(b,.cells ⟨[.map (some bm)]⟩ 96 (0,0))::(bm,mobj kvC vvP (bms es) clk)::bls es
theorem New_ok (w:World):CallM Try.prog 5 [] [] w fun v L=>∃ b bm,v = .pointer (some ⟨b,0,none⟩)∧L=BL b bm [] 0:=by
  refine enterK (tb:=tb) Try.func5 rfl Try.ntmps5 rfl ?_
  repeat' (first|(apply R.is1;first|(apply R.makeMap kvC vvP;exact rfl;intro bm)|(apply R.pure;exact rfl;first|(apply Ok1.assign;exact rfl)|(apply Ok1.build;(iterate 5 exact rfl))|(apply Ok1.buildA;(iterate 6 exact rfl)))|(apply R.box;(iterate 3 exact rfl);intro))|(apply R.is0;first|fail)|(apply R.isG;first|(apply R.guard_run;exact rfl;exact rfl)|(apply R.guard_not;(iterate 3 exact rfl))|(apply R.guard_not0;exact rfl;exact rfl)|(apply R.guard_un;(iterate 3 exact rfl))|(apply R.guard_un0;exact rfl;exact rfl)|(apply R.guard rfl rfl ?_ (fun h=>⟨rfl,?_⟩)<;>try intro))|apply R.nil|(apply T.is;first|apply T.seq|apply T.region|apply T.block|apply T.scope|apply T.label|apply T.skip|apply T.exit|apply T.ret|(apply T.cond_t;exact rfl)|(apply T.cond_f;exact rfl)|(apply T.cond_h;exact rfl;assumption)|(apply T.cond_n;exact rfl;assumption)|(apply T.cond rfl<;>intro))|apply Rnd.step)
  (apply RetOk.t;exact rfl)
  exact ⟨_,by (focus (repeat' first|exact Keep.nil _|exact Ext.one _ _|exact Ext.here _ _|exact Ext.all _|apply Keep.cons|apply Keep.app|apply Keep.last|apply Ext.cons|apply Ext.app);done),_,bm,rfl,rfl⟩
def wante (es:BS) (c:Cl):Int:=if ¬ c.right then 10 else match mget c (bms es) with
  | some _=>8
  | none=>if es.length=16 then 6 else 0
theorem bms_len (es:BS):(bms es).length=es.length:=by simp [bms]
theorem Want_ok (b bm:Nat) (es:BS) (clk:Nat) (c:Cl) (tick:Int) (w:World):CallM Try.prog 8 [.pointer (some ⟨b,0,none⟩),kvC c,.int .i64 tick] (BL b bm es clk) w fun v L=>v = .int .i64 (wante es c) ∧
    ((wante es c≠0∧L=BL b bm es clk) ∨ (wante es c=0∧∃ blk,L=BL b bm (es++[⟨c,blk,clk,⟨0,0,0,none,tick⟩⟩]) (clk+1))):=by
  have hck:=check_ok c.id c.roles c.exp c.ser
  have hbl:=bms_len es
  by_cases hr:c.right
  · rw [if_pos hr] at hck
    cases hm:mget c (bms es) with
    | some a =>
      have hw:wante es c=8:=by unfold wante;rw [if_neg (by simpa using hr),hm]
      rw [hw]
      refine enterK (tb:=tb) Try.func8 rfl Try.ntmps8 rfl ?_
      simp only [kvC,BL]
      repeat' (first|(apply R.is1;first|(apply R.isBin;first|(apply R.pure;exact rfl;first|(apply Ok1.eql_t;exact rfl;exact rfl;omega)|(apply Ok1.eql_f;exact rfl;exact rfl;omega)|(apply Ok1.neq_t;exact rfl;exact rfl;omega)|(apply Ok1.neq_f;exact rfl;exact rfl;omega)|(apply Ok1.eqlP;(iterate 5 exact rfl))|(apply Ok1.neqP;(iterate 5 exact rfl))|(apply Ok1.eqlM;(iterate 5 exact rfl))|(apply Ok1.neqM;(iterate 5 exact rfl))|(apply Ok1.eqlS;(iterate 5 exact rfl))|(apply Ok1.neqS;(iterate 5 exact rfl)))|(apply R.eql rfl rfl rfl<;>intro)|(apply R.neq rfl rfl rfl<;>intro)|(apply R.eqlF;(iterate 8 exact rfl);all_goals intro)|(apply R.neqF;(iterate 8 exact rfl);all_goals intro))|(apply R.isCall;first|apply R.callP rfl rfl rfl hck|(apply R.pure;exact rfl;first|(apply Ok1.lenS;(iterate 3 exact rfl))|(apply Ok1.lenStr;(iterate 3 exact rfl))|(apply Ok1.lenMm;(iterate 3 exact rfl);(focus (repeat' first|exact At.head|apply At.tail|apply At.right);done))|(apply Ok1.lenM_nil;(iterate 3 exact rfl))))|(apply R.pure;exact rfl;first|(apply Ok1.lookup_some (kv:=kvC) (vv:=vvP) c ktK;(iterate 6 exact rfl);(focus (repeat' first|exact At.head|apply At.tail|apply At.right);done);assumption;(first|exact (if_pos rfl).symm|exact (if_neg Bool.false_ne_true).symm))|(apply Ok1.move;exact rfl)|(apply Ok1.fieldAddr;(iterate 5 exact rfl))|(apply Ok1.load;exact rfl;first|(apply Ld.own1;exact rfl;exact rfl;(focus (repeat' first|exact At.head|apply At.tail|apply At.right);done);exact rfl)|(apply Ld.ownk;exact rfl;exact rfl;(focus (repeat' first|exact At.head|apply At.tail|apply At.right);done);exact rfl)|(apply Ld.old1;exact rfl;exact rfl;assumption;(first|exact List.not_mem_nil|assumption))|(apply Ld.blk1;exact rfl;exact rfl;assumption;(first|exact List.not_mem_nil|assumption);exact rfl)|(apply Ld.blkk;exact rfl;exact rfl;assumption;(first|exact List.not_mem_nil|assumption);exact rfl))|(apply Ok1.assign;exact rfl)|(apply Ok1.build;(iterate 5 exact rfl))|(apply Ok1.nilCheck;exact rfl)|(apply Ok1.nilCheckF;exact rfl)|(apply Ok1.buildA;(iterate 6 exact rfl)))|(apply R.box;(iterate 3 exact rfl);intro))|(apply R.is0;first|fail)|(apply R.isG;first|(apply R.guard_run;exact rfl;exact rfl)|(apply R.guard_not;(iterate 3 exact rfl))|(apply R.guard_not0;exact rfl;exact rfl)|(apply R.guard_un;(iterate 3 exact rfl))|(apply R.guard_un0;exact rfl;exact rfl)|(apply R.guard rfl rfl ?_ (fun h=>⟨rfl,?_⟩)<;>try intro))|apply R.nil|(apply T.is;first|(apply T.draw (id:=6);((apply A.tk 0;exact rfl;kernel_rfl;first|(apply Ok1.move;exact rfl))<;>(apply A.tk 1;exact rfl;kernel_rfl;first|(apply Ok1.nilCheck;exact rfl)|(apply Ok1.nilCheckF;exact rfl))<;>(apply A.tk 2;exact rfl;kernel_rfl;first|(apply Ok1.fieldAddr;(iterate 5 exact rfl)))<;>(apply A.tk 3;exact rfl;kernel_rfl;first|(apply Ok1.load;exact rfl;first|(apply Ld.own1;exact rfl;exact rfl;(focus (repeat' first|exact At.head|apply At.tail|apply At.right);done);exact rfl)|(apply Ld.ownk;exact rfl;exact rfl;(focus (repeat' first|exact At.head|apply At.tail|apply At.right);done);exact rfl)|(apply Ld.old1;exact rfl;exact rfl;assumption;(first|exact List.not_mem_nil|assumption))|(apply Ld.blk1;exact rfl;exact rfl;assumption;(first|exact List.not_mem_nil|assumption);exact rfl)|(apply Ld.blkk;exact rfl;exact rfl;assumption;(first|exact List.not_mem_nil|assumption);exact rfl)))<;>(apply A.tk 4;exact rfl;kernel_rfl;first|(apply Ok1.load;exact rfl;first|(apply Ld.own1;exact rfl;exact rfl;(focus (repeat' first|exact At.head|apply At.tail|apply At.right);done);exact rfl)|(apply Ld.ownk;exact rfl;exact rfl;(focus (repeat' first|exact At.head|apply At.tail|apply At.right);done);exact rfl)|(apply Ld.old1;exact rfl;exact rfl;assumption;(first|exact List.not_mem_nil|assumption))|(apply Ld.blk1;exact rfl;exact rfl;assumption;(first|exact List.not_mem_nil|assumption);exact rfl)|(apply Ld.blkk;exact rfl;exact rfl;assumption;(first|exact List.not_mem_nil|assumption);exact rfl)))<;>(apply A.tk 5;exact rfl;kernel_rfl;first|(apply Ok1.lookup_some (kv:=kvC) (vv:=vvP) c ktK;(iterate 6 exact rfl);(focus (repeat' first|exact At.head|apply At.tail|apply At.right);done);assumption;(first|exact (if_pos rfl).symm|exact (if_neg Bool.false_ne_true).symm)))<;>(first|(apply A.tk 6;exact rfl;kernel_rfl;first|(apply Ok1.neq_t;exact rfl;exact rfl;omega)|(apply Ok1.neq_f;exact rfl;exact rfl;omega)|(apply Ok1.neqP;(iterate 5 exact rfl))|(apply Ok1.neqM;(iterate 5 exact rfl))|(apply Ok1.neqS;(iterate 5 exact rfl)))|(apply A.tk 6;exact rfl;kernel_rfl;(first|(apply Ok1.neq;exact rfl;exact rfl)|(apply Ok1.neqF;(iterate 7 exact rfl)));apply A.dec (t:=22);exact rfl;all_goals intro))<;>(apply A.tk 7;exact rfl;kernel_rfl;first|(apply Ok1.assign;exact rfl))<;>(apply A.done;kernel_rfl)))|(apply T.drawC (id:=10) [0,1] (by decide);((apply A.tk 0;exact rfl;kernel_rfl;first|(apply Ok1.move;exact rfl))<;>(apply A.tk 1;exact rfl;kernel_rfl;first|(apply Ok1.nilCheck;exact rfl)|(apply Ok1.nilCheckF;exact rfl))<;>(apply A.tk 2;exact rfl;kernel_rfl;first|(apply Ok1.fieldAddr;(iterate 5 exact rfl)))<;>(apply A.tk 3;exact rfl;kernel_rfl;first|(apply Ok1.load;exact rfl;first|(apply Ld.own1;exact rfl;exact rfl;(focus (repeat' first|exact At.head|apply At.tail|apply At.right);done);exact rfl)|(apply Ld.ownk;exact rfl;exact rfl;(focus (repeat' first|exact At.head|apply At.tail|apply At.right);done);exact rfl)|(apply Ld.old1;exact rfl;exact rfl;assumption;(first|exact List.not_mem_nil|assumption))|(apply Ld.blk1;exact rfl;exact rfl;assumption;(first|exact List.not_mem_nil|assumption);exact rfl)|(apply Ld.blkk;exact rfl;exact rfl;assumption;(first|exact List.not_mem_nil|assumption);exact rfl)))<;>(apply A.tk 4;exact rfl;kernel_rfl;first|(apply Ok1.load;exact rfl;first|(apply Ld.own1;exact rfl;exact rfl;(focus (repeat' first|exact At.head|apply At.tail|apply At.right);done);exact rfl)|(apply Ld.ownk;exact rfl;exact rfl;(focus (repeat' first|exact At.head|apply At.tail|apply At.right);done);exact rfl)|(apply Ld.old1;exact rfl;exact rfl;assumption;(first|exact List.not_mem_nil|assumption))|(apply Ld.blk1;exact rfl;exact rfl;assumption;(first|exact List.not_mem_nil|assumption);exact rfl)|(apply Ld.blkk;exact rfl;exact rfl;assumption;(first|exact List.not_mem_nil|assumption);exact rfl)))<;>(apply A.tk 5;exact rfl;kernel_rfl;first|(apply Ok1.move;exact rfl))<;>(apply A.tk 6;exact rfl;kernel_rfl;first|(apply Ok1.build;(iterate 5 exact rfl))|(apply Ok1.buildA;(iterate 6 exact rfl)))<;>(apply A.one 7;kernel_rfl;exact rfl;((first|(apply R.box;(iterate 3 exact rfl);intro)|fail));apply R.nil;refine ⟨?_,?_⟩;(focus (repeat' first|exact trivial|exact At.head|apply At.tail|apply At.right|refine ⟨?_,?_⟩)))<;>(apply A.one 8;kernel_rfl;exact rfl;((first|fail));apply R.nil;refine ⟨?_,?_⟩;(focus (repeat' first|exact trivial|exact At.head|apply At.tail|apply At.right|refine ⟨?_,?_⟩)))<;>(apply A.done;kernel_rfl)))|apply T.seq|apply T.region|apply T.block|apply T.scope|apply T.label|apply T.skip|apply T.exit|apply T.ret|(apply T.cond_t;exact rfl)|(apply T.cond_f;exact rfl)|(apply T.cond_h;exact rfl;assumption)|(apply T.cond_n;exact rfl;assumption)|(apply T.cond rfl<;>intro))|apply Rnd.step)
      (apply RetOk.t;exact rfl)
      exact ⟨_,by (focus (repeat' first|exact Keep.nil _|exact Ext.one _ _|exact Ext.here _ _|exact Ext.all _|apply Keep.cons|apply Keep.app|apply Keep.last|apply Ext.cons|apply Ext.app);done),rfl,.inl ⟨by simp,rfl⟩⟩
    | none =>
      by_cases hl:es.length=16
      · have hw:wante es c=6:=by unfold wante;rw [if_neg (by simpa using hr),hm];exact if_pos hl
        rw [hw]
        refine enterK (tb:=tb) Try.func8 rfl Try.ntmps8 rfl ?_
        simp only [kvC,BL]
        repeat' (first|(apply R.is1;first|(apply R.isBin;first|(apply R.pure;exact rfl;first|(apply Ok1.eql_t;exact rfl;exact rfl;omega)|(apply Ok1.eql_f;exact rfl;exact rfl;omega)|(apply Ok1.neq_t;exact rfl;exact rfl;omega)|(apply Ok1.neq_f;exact rfl;exact rfl;omega)|(apply Ok1.eqlP;(iterate 5 exact rfl))|(apply Ok1.neqP;(iterate 5 exact rfl))|(apply Ok1.eqlM;(iterate 5 exact rfl))|(apply Ok1.neqM;(iterate 5 exact rfl))|(apply Ok1.eqlS;(iterate 5 exact rfl))|(apply Ok1.neqS;(iterate 5 exact rfl)))|(apply R.eql rfl rfl rfl<;>intro)|(apply R.neq rfl rfl rfl<;>intro)|(apply R.eqlF;(iterate 8 exact rfl);all_goals intro)|(apply R.neqF;(iterate 8 exact rfl);all_goals intro))|(apply R.isCall;first|apply R.callP rfl rfl rfl hck|(apply R.pure;exact rfl;first|(apply Ok1.lenS;(iterate 3 exact rfl))|(apply Ok1.lenStr;(iterate 3 exact rfl))|(apply Ok1.lenMm;(iterate 3 exact rfl);(focus (repeat' first|exact At.head|apply At.tail|apply At.right);done))|(apply Ok1.lenM_nil;(iterate 3 exact rfl))))|(apply R.pure;exact rfl;first|(apply Ok1.lookup_none (kv:=kvC) (vv:=vvP) c ktK;(iterate 6 exact rfl);(focus (repeat' first|exact At.head|apply At.tail|apply At.right);done);assumption;(first|exact (if_pos rfl).symm|exact (if_neg Bool.false_ne_true).symm))|(apply Ok1.move;exact rfl)|(apply Ok1.fieldAddr;(iterate 5 exact rfl))|(apply Ok1.load;exact rfl;first|(apply Ld.own1;exact rfl;exact rfl;(focus (repeat' first|exact At.head|apply At.tail|apply At.right);done);exact rfl)|(apply Ld.ownk;exact rfl;exact rfl;(focus (repeat' first|exact At.head|apply At.tail|apply At.right);done);exact rfl)|(apply Ld.old1;exact rfl;exact rfl;assumption;(first|exact List.not_mem_nil|assumption))|(apply Ld.blk1;exact rfl;exact rfl;assumption;(first|exact List.not_mem_nil|assumption);exact rfl)|(apply Ld.blkk;exact rfl;exact rfl;assumption;(first|exact List.not_mem_nil|assumption);exact rfl))|(apply Ok1.assign;exact rfl)|(apply Ok1.build;(iterate 5 exact rfl))|(apply Ok1.nilCheck;exact rfl)|(apply Ok1.nilCheckF;exact rfl)|(apply Ok1.buildA;(iterate 6 exact rfl)))|(apply R.box;(iterate 3 exact rfl);intro))|(apply R.is0;first|fail)|(apply R.isG;first|(apply R.guard_run;exact rfl;exact rfl)|(apply R.guard_not;(iterate 3 exact rfl))|(apply R.guard_not0;exact rfl;exact rfl)|(apply R.guard_un;(iterate 3 exact rfl))|(apply R.guard_un0;exact rfl;exact rfl)|(apply R.guard rfl rfl ?_ (fun h=>⟨rfl,?_⟩)<;>try intro))|apply R.nil|(apply T.is;first|(apply T.draw (id:=6);((apply A.tk 0;exact rfl;kernel_rfl;first|(apply Ok1.move;exact rfl))<;>(apply A.tk 1;exact rfl;kernel_rfl;first|(apply Ok1.nilCheck;exact rfl)|(apply Ok1.nilCheckF;exact rfl))<;>(apply A.tk 2;exact rfl;kernel_rfl;first|(apply Ok1.fieldAddr;(iterate 5 exact rfl)))<;>(apply A.tk 3;exact rfl;kernel_rfl;first|(apply Ok1.load;exact rfl;first|(apply Ld.own1;exact rfl;exact rfl;(focus (repeat' first|exact At.head|apply At.tail|apply At.right);done);exact rfl)|(apply Ld.ownk;exact rfl;exact rfl;(focus (repeat' first|exact At.head|apply At.tail|apply At.right);done);exact rfl)|(apply Ld.old1;exact rfl;exact rfl;assumption;(first|exact List.not_mem_nil|assumption))|(apply Ld.blk1;exact rfl;exact rfl;assumption;(first|exact List.not_mem_nil|assumption);exact rfl)|(apply Ld.blkk;exact rfl;exact rfl;assumption;(first|exact List.not_mem_nil|assumption);exact rfl)))<;>(apply A.tk 4;exact rfl;kernel_rfl;first|(apply Ok1.load;exact rfl;first|(apply Ld.own1;exact rfl;exact rfl;(focus (repeat' first|exact At.head|apply At.tail|apply At.right);done);exact rfl)|(apply Ld.ownk;exact rfl;exact rfl;(focus (repeat' first|exact At.head|apply At.tail|apply At.right);done);exact rfl)|(apply Ld.old1;exact rfl;exact rfl;assumption;(first|exact List.not_mem_nil|assumption))|(apply Ld.blk1;exact rfl;exact rfl;assumption;(first|exact List.not_mem_nil|assumption);exact rfl)|(apply Ld.blkk;exact rfl;exact rfl;assumption;(first|exact List.not_mem_nil|assumption);exact rfl)))<;>(apply A.tk 5;exact rfl;kernel_rfl;first|(apply Ok1.lookup_none (kv:=kvC) (vv:=vvP) c ktK;(iterate 6 exact rfl);(focus (repeat' first|exact At.head|apply At.tail|apply At.right);done);assumption;(first|exact (if_pos rfl).symm|exact (if_neg Bool.false_ne_true).symm)))<;>(first|(apply A.tk 6;exact rfl;kernel_rfl;first|(apply Ok1.neq_t;exact rfl;exact rfl;omega)|(apply Ok1.neq_f;exact rfl;exact rfl;omega)|(apply Ok1.neqP;(iterate 5 exact rfl))|(apply Ok1.neqM;(iterate 5 exact rfl))|(apply Ok1.neqS;(iterate 5 exact rfl)))|(apply A.tk 6;exact rfl;kernel_rfl;(first|(apply Ok1.neq;exact rfl;exact rfl)|(apply Ok1.neqF;(iterate 7 exact rfl)));apply A.dec (t:=22);exact rfl;all_goals intro))<;>(apply A.tk 7;exact rfl;kernel_rfl;first|(apply Ok1.assign;exact rfl))<;>(apply A.done;kernel_rfl)))|(apply T.drawC (id:=10) [0,1] (by decide);((apply A.tk 0;exact rfl;kernel_rfl;first|(apply Ok1.move;exact rfl))<;>(apply A.tk 1;exact rfl;kernel_rfl;first|(apply Ok1.nilCheck;exact rfl)|(apply Ok1.nilCheckF;exact rfl))<;>(apply A.tk 2;exact rfl;kernel_rfl;first|(apply Ok1.fieldAddr;(iterate 5 exact rfl)))<;>(apply A.tk 3;exact rfl;kernel_rfl;first|(apply Ok1.load;exact rfl;first|(apply Ld.own1;exact rfl;exact rfl;(focus (repeat' first|exact At.head|apply At.tail|apply At.right);done);exact rfl)|(apply Ld.ownk;exact rfl;exact rfl;(focus (repeat' first|exact At.head|apply At.tail|apply At.right);done);exact rfl)|(apply Ld.old1;exact rfl;exact rfl;assumption;(first|exact List.not_mem_nil|assumption))|(apply Ld.blk1;exact rfl;exact rfl;assumption;(first|exact List.not_mem_nil|assumption);exact rfl)|(apply Ld.blkk;exact rfl;exact rfl;assumption;(first|exact List.not_mem_nil|assumption);exact rfl)))<;>(apply A.tk 4;exact rfl;kernel_rfl;first|(apply Ok1.load;exact rfl;first|(apply Ld.own1;exact rfl;exact rfl;(focus (repeat' first|exact At.head|apply At.tail|apply At.right);done);exact rfl)|(apply Ld.ownk;exact rfl;exact rfl;(focus (repeat' first|exact At.head|apply At.tail|apply At.right);done);exact rfl)|(apply Ld.old1;exact rfl;exact rfl;assumption;(first|exact List.not_mem_nil|assumption))|(apply Ld.blk1;exact rfl;exact rfl;assumption;(first|exact List.not_mem_nil|assumption);exact rfl)|(apply Ld.blkk;exact rfl;exact rfl;assumption;(first|exact List.not_mem_nil|assumption);exact rfl)))<;>(apply A.tk 5;exact rfl;kernel_rfl;first|(apply Ok1.move;exact rfl))<;>(apply A.tk 6;exact rfl;kernel_rfl;first|(apply Ok1.build;(iterate 5 exact rfl))|(apply Ok1.buildA;(iterate 6 exact rfl)))<;>(apply A.one 7;kernel_rfl;exact rfl;((first|(apply R.box;(iterate 3 exact rfl);intro)|fail));apply R.nil;refine ⟨?_,?_⟩;(focus (repeat' first|exact trivial|exact At.head|apply At.tail|apply At.right|refine ⟨?_,?_⟩)))<;>(apply A.one 8;kernel_rfl;exact rfl;((first|fail));apply R.nil;refine ⟨?_,?_⟩;(focus (repeat' first|exact trivial|exact At.head|apply At.tail|apply At.right|refine ⟨?_,?_⟩)))<;>(apply A.done;kernel_rfl)))|apply T.seq|apply T.region|apply T.block|apply T.scope|apply T.label|apply T.skip|apply T.exit|apply T.ret|(apply T.cond_t;exact rfl)|(apply T.cond_f;exact rfl)|(apply T.cond_h;exact rfl;assumption)|(apply T.cond_n;exact rfl;assumption)|(apply T.cond rfl<;>intro))|apply Rnd.step)
        (apply RetOk.t;exact rfl)
        exact ⟨_,by (focus (repeat' first|exact Keep.nil _|exact Ext.one _ _|exact Ext.here _ _|exact Ext.all _|apply Keep.cons|apply Keep.app|apply Keep.last|apply Ext.cons|apply Ext.app);done),rfl,.inl ⟨by simp,rfl⟩⟩
      · have hw:wante es c=0:=by unfold wante;rw [if_neg (by simpa using hr),hm];exact if_neg hl
        rw [hw]
        refine enterK (tb:=tb) Try.func8 rfl Try.ntmps8 rfl ?_
        simp only [kvC,BL]
        repeat' (first|(apply R.is1;first|(apply R.isBin;first|(apply R.pure;exact rfl;first|(apply Ok1.eql_t;exact rfl;exact rfl;omega)|(apply Ok1.eql_f;exact rfl;exact rfl;omega)|(apply Ok1.neq_t;exact rfl;exact rfl;omega)|(apply Ok1.neq_f;exact rfl;exact rfl;omega)|(apply Ok1.eqlP;(iterate 5 exact rfl))|(apply Ok1.neqP;(iterate 5 exact rfl))|(apply Ok1.eqlM;(iterate 5 exact rfl))|(apply Ok1.neqM;(iterate 5 exact rfl))|(apply Ok1.eqlS;(iterate 5 exact rfl))|(apply Ok1.neqS;(iterate 5 exact rfl)))|(apply R.eql rfl rfl rfl<;>intro)|(apply R.neq rfl rfl rfl<;>intro)|(apply R.eqlF;(iterate 8 exact rfl);all_goals intro)|(apply R.neqF;(iterate 8 exact rfl);all_goals intro))|(apply R.isCall;first|apply R.callP rfl rfl rfl hck|(apply R.pure;exact rfl;first|(apply Ok1.lenS;(iterate 3 exact rfl))|(apply Ok1.lenStr;(iterate 3 exact rfl))|(apply Ok1.lenMm;(iterate 3 exact rfl);(focus (repeat' first|exact At.head|apply At.tail|apply At.right);done))|(apply Ok1.lenM_nil;(iterate 3 exact rfl))))|(apply R.pure;exact rfl;first|(apply Ok1.lookup_none (kv:=kvC) (vv:=vvP) c ktK;(iterate 6 exact rfl);(focus (repeat' first|exact At.head|apply At.tail|apply At.right);done);assumption;(first|exact (if_pos rfl).symm|exact (if_neg Bool.false_ne_true).symm))|(apply Ok1.move;exact rfl)|(apply Ok1.fieldAddr;(iterate 5 exact rfl))|(apply Ok1.load;exact rfl;first|(apply Ld.own1;exact rfl;exact rfl;(focus (repeat' first|exact At.head|apply At.tail|apply At.right);done);exact rfl)|(apply Ld.ownk;exact rfl;exact rfl;(focus (repeat' first|exact At.head|apply At.tail|apply At.right);done);exact rfl)|(apply Ld.old1;exact rfl;exact rfl;assumption;(first|exact List.not_mem_nil|assumption))|(apply Ld.blk1;exact rfl;exact rfl;assumption;(first|exact List.not_mem_nil|assumption);exact rfl)|(apply Ld.blkk;exact rfl;exact rfl;assumption;(first|exact List.not_mem_nil|assumption);exact rfl))|(apply Ok1.assign;exact rfl)|(apply Ok1.build;(iterate 5 exact rfl))|(apply Ok1.nilCheck;exact rfl)|(apply Ok1.nilCheckF;exact rfl)|(apply Ok1.buildA;(iterate 6 exact rfl)))|(apply R.box;(iterate 3 exact rfl);intro))|(apply R.is0;first|(apply R.mapSet_new (kv:=kvC) (vv:=vvP) c ktK;(iterate 7 exact rfl);(focus (repeat' first|exact Upd.head|apply Upd.tail|apply Upd.right);done);exact hm)|fail)|(apply R.isG;first|(apply R.guard_run;exact rfl;exact rfl)|(apply R.guard_not;(iterate 3 exact rfl))|(apply R.guard_not0;exact rfl;exact rfl)|(apply R.guard_un;(iterate 3 exact rfl))|(apply R.guard_un0;exact rfl;exact rfl)|(apply R.guard rfl rfl ?_ (fun h=>⟨rfl,?_⟩)<;>try intro))|apply R.nil|(apply T.is;first|(apply T.draw (id:=6);((apply A.tk 0;exact rfl;kernel_rfl;first|(apply Ok1.move;exact rfl))<;>(apply A.tk 1;exact rfl;kernel_rfl;first|(apply Ok1.nilCheck;exact rfl)|(apply Ok1.nilCheckF;exact rfl))<;>(apply A.tk 2;exact rfl;kernel_rfl;first|(apply Ok1.fieldAddr;(iterate 5 exact rfl)))<;>(apply A.tk 3;exact rfl;kernel_rfl;first|(apply Ok1.load;exact rfl;first|(apply Ld.own1;exact rfl;exact rfl;(focus (repeat' first|exact At.head|apply At.tail|apply At.right);done);exact rfl)|(apply Ld.ownk;exact rfl;exact rfl;(focus (repeat' first|exact At.head|apply At.tail|apply At.right);done);exact rfl)|(apply Ld.old1;exact rfl;exact rfl;assumption;(first|exact List.not_mem_nil|assumption))|(apply Ld.blk1;exact rfl;exact rfl;assumption;(first|exact List.not_mem_nil|assumption);exact rfl)|(apply Ld.blkk;exact rfl;exact rfl;assumption;(first|exact List.not_mem_nil|assumption);exact rfl)))<;>(apply A.tk 4;exact rfl;kernel_rfl;first|(apply Ok1.load;exact rfl;first|(apply Ld.own1;exact rfl;exact rfl;(focus (repeat' first|exact At.head|apply At.tail|apply At.right);done);exact rfl)|(apply Ld.ownk;exact rfl;exact rfl;(focus (repeat' first|exact At.head|apply At.tail|apply At.right);done);exact rfl)|(apply Ld.old1;exact rfl;exact rfl;assumption;(first|exact List.not_mem_nil|assumption))|(apply Ld.blk1;exact rfl;exact rfl;assumption;(first|exact List.not_mem_nil|assumption);exact rfl)|(apply Ld.blkk;exact rfl;exact rfl;assumption;(first|exact List.not_mem_nil|assumption);exact rfl)))<;>(apply A.tk 5;exact rfl;kernel_rfl;first|(apply Ok1.lookup_none (kv:=kvC) (vv:=vvP) c ktK;(iterate 6 exact rfl);(focus (repeat' first|exact At.head|apply At.tail|apply At.right);done);assumption;(first|exact (if_pos rfl).symm|exact (if_neg Bool.false_ne_true).symm)))<;>(first|(apply A.tk 6;exact rfl;kernel_rfl;first|(apply Ok1.neq_t;exact rfl;exact rfl;omega)|(apply Ok1.neq_f;exact rfl;exact rfl;omega)|(apply Ok1.neqP;(iterate 5 exact rfl))|(apply Ok1.neqM;(iterate 5 exact rfl))|(apply Ok1.neqS;(iterate 5 exact rfl)))|(apply A.tk 6;exact rfl;kernel_rfl;(first|(apply Ok1.neq;exact rfl;exact rfl)|(apply Ok1.neqF;(iterate 7 exact rfl)));apply A.dec (t:=22);exact rfl;all_goals intro))<;>(apply A.tk 7;exact rfl;kernel_rfl;first|(apply Ok1.assign;exact rfl))<;>(apply A.done;kernel_rfl)))|(apply T.drawC (id:=10) [0,1] (by decide);((apply A.tk 0;exact rfl;kernel_rfl;first|(apply Ok1.move;exact rfl))<;>(apply A.tk 1;exact rfl;kernel_rfl;first|(apply Ok1.nilCheck;exact rfl)|(apply Ok1.nilCheckF;exact rfl))<;>(apply A.tk 2;exact rfl;kernel_rfl;first|(apply Ok1.fieldAddr;(iterate 5 exact rfl)))<;>(apply A.tk 3;exact rfl;kernel_rfl;first|(apply Ok1.load;exact rfl;first|(apply Ld.own1;exact rfl;exact rfl;(focus (repeat' first|exact At.head|apply At.tail|apply At.right);done);exact rfl)|(apply Ld.ownk;exact rfl;exact rfl;(focus (repeat' first|exact At.head|apply At.tail|apply At.right);done);exact rfl)|(apply Ld.old1;exact rfl;exact rfl;assumption;(first|exact List.not_mem_nil|assumption))|(apply Ld.blk1;exact rfl;exact rfl;assumption;(first|exact List.not_mem_nil|assumption);exact rfl)|(apply Ld.blkk;exact rfl;exact rfl;assumption;(first|exact List.not_mem_nil|assumption);exact rfl)))<;>(apply A.tk 4;exact rfl;kernel_rfl;first|(apply Ok1.load;exact rfl;first|(apply Ld.own1;exact rfl;exact rfl;(focus (repeat' first|exact At.head|apply At.tail|apply At.right);done);exact rfl)|(apply Ld.ownk;exact rfl;exact rfl;(focus (repeat' first|exact At.head|apply At.tail|apply At.right);done);exact rfl)|(apply Ld.old1;exact rfl;exact rfl;assumption;(first|exact List.not_mem_nil|assumption))|(apply Ld.blk1;exact rfl;exact rfl;assumption;(first|exact List.not_mem_nil|assumption);exact rfl)|(apply Ld.blkk;exact rfl;exact rfl;assumption;(first|exact List.not_mem_nil|assumption);exact rfl)))<;>(apply A.tk 5;exact rfl;kernel_rfl;first|(apply Ok1.move;exact rfl))<;>(apply A.tk 6;exact rfl;kernel_rfl;first|(apply Ok1.build;(iterate 5 exact rfl))|(apply Ok1.buildA;(iterate 6 exact rfl)))<;>(apply A.one 7;kernel_rfl;exact rfl;((first|(apply R.box;(iterate 3 exact rfl);intro)|fail));apply R.nil;refine ⟨?_,?_⟩;(focus (repeat' first|exact trivial|exact At.head|apply At.tail|apply At.right|refine ⟨?_,?_⟩)))<;>(apply A.one 8;kernel_rfl;exact rfl;((first|(apply R.mapSet_new (kv:=kvC) (vv:=vvP) c ktK;(iterate 7 exact rfl);(focus (repeat' first|exact Upd.head|apply Upd.tail|apply Upd.right);done);exact hm)|fail));apply R.nil;refine ⟨?_,?_⟩;(focus (repeat' first|exact trivial|exact At.head|apply At.tail|apply At.right|refine ⟨?_,?_⟩)))<;>(apply A.done;kernel_rfl)))|apply T.seq|apply T.region|apply T.block|apply T.scope|apply T.label|apply T.skip|apply T.exit|apply T.ret|(apply T.cond_t;exact rfl)|(apply T.cond_f;exact rfl)|(apply T.cond_h;exact rfl;assumption)|(apply T.cond_n;exact rfl;assumption)|(apply T.cond rfl<;>intro))|apply Rnd.step)
        rename_i bc blk
        (apply RetOk.t;exact rfl)
        refine ⟨BL b bm (es++[⟨c,blk,clk,⟨0,0,0,none,tick⟩⟩]) (clk+1),?_,rfl,.inr ⟨by simp,blk,rfl⟩⟩
        simp only [BL,bms,bls,List.map_append,List.map_cons,List.map_nil]
        (focus (repeat' first|exact Keep.nil _|exact Ext.one _ _|exact Ext.here _ _|exact Ext.all _|apply Keep.cons|apply Keep.app|apply Keep.last|apply Ext.cons|apply Ext.app);done)
  · rw [if_neg hr] at hck
    have hw:wante es c=10:=by unfold wante;rw [if_pos hr]
    rw [hw]
    refine enterK (tb:=tb) Try.func8 rfl Try.ntmps8 rfl ?_
    simp only [kvC,BL]
    repeat' (first|(apply R.is1;first|(apply R.isBin;first|(apply R.pure;exact rfl;first|(apply Ok1.eql_t;exact rfl;exact rfl;omega)|(apply Ok1.eql_f;exact rfl;exact rfl;omega)|(apply Ok1.neq_t;exact rfl;exact rfl;omega)|(apply Ok1.neq_f;exact rfl;exact rfl;omega)|(apply Ok1.eqlP;(iterate 5 exact rfl))|(apply Ok1.neqP;(iterate 5 exact rfl))|(apply Ok1.eqlM;(iterate 5 exact rfl))|(apply Ok1.neqM;(iterate 5 exact rfl))|(apply Ok1.eqlS;(iterate 5 exact rfl))|(apply Ok1.neqS;(iterate 5 exact rfl)))|(apply R.eql rfl rfl rfl<;>intro)|(apply R.neq rfl rfl rfl<;>intro)|(apply R.eqlF;(iterate 8 exact rfl);all_goals intro)|(apply R.neqF;(iterate 8 exact rfl);all_goals intro))|(apply R.isCall;first|apply R.callP rfl rfl rfl hck|(apply R.pure;exact rfl;first|(apply Ok1.lenS;(iterate 3 exact rfl))|(apply Ok1.lenStr;(iterate 3 exact rfl))|(apply Ok1.lenMm;(iterate 3 exact rfl);(focus (repeat' first|exact At.head|apply At.tail|apply At.right);done))|(apply Ok1.lenM_nil;(iterate 3 exact rfl))))|(apply R.pure;exact rfl;first|(apply Ok1.move;exact rfl)|(apply Ok1.fieldAddr;(iterate 5 exact rfl))|(apply Ok1.load;exact rfl;first|(apply Ld.own1;exact rfl;exact rfl;(focus (repeat' first|exact At.head|apply At.tail|apply At.right);done);exact rfl)|(apply Ld.ownk;exact rfl;exact rfl;(focus (repeat' first|exact At.head|apply At.tail|apply At.right);done);exact rfl)|(apply Ld.old1;exact rfl;exact rfl;assumption;(first|exact List.not_mem_nil|assumption))|(apply Ld.blk1;exact rfl;exact rfl;assumption;(first|exact List.not_mem_nil|assumption);exact rfl)|(apply Ld.blkk;exact rfl;exact rfl;assumption;(first|exact List.not_mem_nil|assumption);exact rfl))|(apply Ok1.assign;exact rfl)|(apply Ok1.build;(iterate 5 exact rfl))|(apply Ok1.nilCheck;exact rfl)|(apply Ok1.nilCheckF;exact rfl)|(apply Ok1.buildA;(iterate 6 exact rfl)))|(apply R.box;(iterate 3 exact rfl);intro))|(apply R.is0;first|fail)|(apply R.isG;first|(apply R.guard_run;exact rfl;exact rfl)|(apply R.guard_not;(iterate 3 exact rfl))|(apply R.guard_not0;exact rfl;exact rfl)|(apply R.guard_un;(iterate 3 exact rfl))|(apply R.guard_un0;exact rfl;exact rfl)|(apply R.guard rfl rfl ?_ (fun h=>⟨rfl,?_⟩)<;>try intro))|apply R.nil|(apply T.is;first|apply T.seq|apply T.region|apply T.block|apply T.scope|apply T.label|apply T.skip|apply T.exit|apply T.ret|(apply T.cond_t;exact rfl)|(apply T.cond_f;exact rfl)|(apply T.cond_h;exact rfl;assumption)|(apply T.cond_n;exact rfl;assumption)|(apply T.cond rfl<;>intro))|apply Rnd.step)
    (apply RetOk.t;exact rfl)
    exact ⟨_,by (focus (repeat' first|exact Keep.nil _|exact Ext.one _ _|exact Ext.here _ _|exact Ext.all _|apply Keep.cons|apply Keep.app|apply Keep.last|apply Ext.cons|apply Ext.app);done),rfl,.inl ⟨by simp,rfl⟩⟩
def NRc (a b:Int):Prop:=1≤a∧a≤65535∧1≤b∧b≤2147483647
def lookC (x:En) (a b:Int):Int:=if a > x.boot ∨ (a=x.boot∧x.ctr - b < 0) then 0 else if a < x.boot ∨ 64≤x.ctr - b then 9 else if andI .u64 (x.bits / pw (x.ctr - b).toNat) 1=1 then 8 else 0
def takeC (x:En) (a b:Int):En :=
  if lookC x a b≠0 then x
  else if a > x.boot then ⟨a,b,1,x.key,x.asked⟩
  else if b > x.ctr then ⟨a,b,orI .u64 (IntKind.u64.wrap (x.bits * pw (b - x.ctr).toNat)) 1,x.key,x.asked⟩
  else ⟨x.boot,x.ctr,orI .u64 x.bits (IntKind.u64.wrap (1 * pw (x.ctr - b).toNat)),x.key,x.asked⟩
theorem wrapN {n:Nat} (h:n < 18446744073709551616):IntKind.u64.wrap (n:Int)=n:=by
  have:IntKind.u64.wrap (n:Int)=(n:Int) % 18446744073709551616:=by simp [IntKind.wrap,IntKind.bits,IntKind.signed]
  rw [this];omega
theorem wrapI (i:Int):IntKind.u64.wrap i=i % 18446744073709551616:=by simp [IntKind.wrap,IntKind.bits,IntKind.signed]
theorem orN {m n:Nat} (hm:m < 18446744073709551616) (hn:n < 18446744073709551616):orI .u64 (m:Int) (n:Int)=((m ||| n:Nat):Int):=by
  unfold orI
  have e:IntKind.u64.bits=64:=rfl
  rw [e,BitVec.ofInt_natCast,BitVec.ofInt_natCast,BitVec.toNat_or,BitVec.toNat_ofNat,BitVec.toNat_ofNat,Nat.mod_eq_of_lt (by simpa using hm),Nat.mod_eq_of_lt (by simpa using hn)]
  exact wrapN (Nat.or_lt_two_pow (n:=64) hm hn)
theorem andN1 {m:Nat} (hm:m < 18446744073709551616):andI .u64 (m:Int) 1=((m % 2:Nat):Int):=by
  unfold andI
  have e:IntKind.u64.bits=64:=rfl
  rw [e,BitVec.ofInt_natCast,show (1:Int)=((1:Nat):Int) from rfl,BitVec.ofInt_natCast,BitVec.toNat_and,BitVec.toNat_ofNat,BitVec.toNat_ofNat,Nat.mod_eq_of_lt (by simpa using hm),Nat.mod_eq_of_lt (by decide),Nat.and_one_is_mod]
  exact wrapN (by omega)
theorem one_bit {k:Nat} (h:Nat.testBit 1 k=true):k=0:=by
  rw [show (1:Nat)=2 ^ 0 from rfl,Nat.testBit_two_pow] at h
  exact (of_decide_eq_true h).symm
theorem pwN (k:Nat):pw k=((2 ^ k:Nat):Int):=by rw [pw_eq];simp
def ltN (p q:Int × Int):Prop:=p.1 < q.1 ∨ p.1=q.1∧p.2 < q.2
instance (p q:Int × Int):Decidable (ltN p q):=by unfold ltN;infer_instance
def latN (tk:List (Int × Int)):Int × Int:=tk.foldl (fun o p=>if ltN o p then p else o) (0,0)
theorem latN_snoc (tk:List (Int × Int)) (p:Int × Int):latN (tk++[p])=if ltN (latN tk) p then p else latN tk:=by
  unfold latN;rw [List.foldl_append];rfl
theorem latN_go:∀ (tk:List (Int × Int)) (o:Int × Int),¬ ltN (tk.foldl (fun o p=>if ltN o p then p else o) o) o∧∀ p∈tk,¬ ltN (tk.foldl (fun o p=>if ltN o p then p else o) o) p
  | [],o=>⟨by simp only [List.foldl_nil];unfold ltN;omega,by simp⟩
  | q :: r,o=>by
    simp only [List.foldl_cons]
    obtain ⟨h1,h2⟩:=latN_go r (if ltN o q then q else o)
    generalize r.foldl (fun o p=>if ltN o p then p else o) (if ltN o q then q else o)=R at *
    by_cases hl:ltN o q
    · rw [if_pos hl] at h1
      refine ⟨fun h=>h1 (by unfold ltN at *;omega),fun p hp=>?_⟩
      rcases List.mem_cons.1 hp with rfl|hp
      · exact h1
      · exact h2 p hp
    · rw [if_neg hl] at h1
      refine ⟨h1,fun p hp=>?_⟩
      rcases List.mem_cons.1 hp with rfl|hp
      · exact fun h=>by unfold ltN at *;omega
      · exact h2 p hp
theorem latN_max (tk:List (Int × Int)):∀ p∈tk,¬ ltN (latN tk) p:=(latN_go tk (0,0)).2
/-- A window that holds what a list says. -/
structure WinR (x:En) (tk:List (Int × Int)):Prop where
  lat:latN tk=(x.boot,x.ctr)
  rt:∀ p∈tk,NRc p.1 p.2
  bn:∃ m:Nat,x.bits=m∧m < 18446744073709551616∧∀ k:Nat,k < 64→(m.testBit k=true ↔ (x.boot,x.ctr - (k:Int))∈tk)
theorem WinR.nil (key:Option Addr) (asked:Int):WinR ⟨0,0,0,key,asked⟩ []:=⟨rfl,by simp,0,rfl,by decide,fun k _=>by simp⟩
def vlookN (tk:List (Int × Int)) (a b:Int):Int:=if a < (latN tk).1 ∨ (a=(latN tk).1∧b≤(latN tk).2 - 64) then 9 else if (a,b)∈tk then 8 else 0
theorem win_look {x:En} {tk:List (Int × Int)} (h:WinR x tk) (a b:Int):lookC x a b=vlookN tk a b:=by
  obtain ⟨hl,hr,m,hm,hm2,hb⟩:=h
  have hmx:=latN_max tk
  unfold lookC vlookN
  rw [hl] at hmx ⊢
  simp only
  by_cases h1:a > x.boot ∨ (a=x.boot∧x.ctr - b < 0)
  · rw [if_pos h1,if_neg (by omega),if_neg]
    intro hp
    exact hmx _ hp (by unfold ltN;simp only;omega)
  rw [if_neg h1]
  by_cases h2:a < x.boot ∨ 64≤x.ctr - b
  · rw [if_pos h2,if_pos (by omega)]
  rw [if_neg h2,if_neg (show ¬ (a < x.boot ∨ a=x.boot∧b≤x.ctr - 64) by omega)]
  obtain ⟨k,hk⟩:∃ k:Nat,x.ctr - b=k:=⟨(x.ctr - b).toNat,by omega⟩
  have hbk:=hb k (by omega)
  have ha:a=x.boot:=by omega
  have hbb:b=x.ctr - (k:Int):=by omega
  rw [hk,Int.toNat_natCast,hm,pwN,show ((m:Int) / ((2 ^ k:Nat):Int))=((m / 2 ^ k:Nat):Int) from (Int.natCast_ediv m (2 ^ k)).symm ▸ rfl,andN1 (Nat.lt_of_le_of_lt (Nat.div_le_self _ _) hm2)]
  have e:(((m / 2 ^ k % 2:Nat):Int)=1) ↔ m.testBit k=true:=by
    rw [Nat.testBit_eq_decide_div_mod_eq,decide_eq_true_iff];omega
  by_cases ht:m.testBit k=true
  · rw [if_pos (e.2 ht),if_pos (by rw [ha,hbb];exact hbk.1 ht)]
  · rw [if_neg (fun g=>ht (e.1 g)),if_neg (fun g=>ht (hbk.2 (by rw [ha,hbb] at g;exact g)))]
/-- A nonce is taken. -/
theorem win_take {x:En} {tk:List (Int × Int)} (h:WinR x tk) {a b:Int} (hN:NRc a b) (h0:lookC x a b=0):WinR (takeC x a b) (tk++[(a,b)]):=by
  have hlk:=win_look h a b
  obtain ⟨hl,hr,m,hm,hm2,hb⟩:=h
  have hmx:=latN_max tk
  rw [hl] at hmx
  have hrt:∀ p∈tk++[(a,b)],NRc p.1 p.2:=by
    intro p hp
    rcases List.mem_append.1 hp with h|h
    · exact hr p h
    · rw [List.mem_singleton.1 h];exact hN
  have hlt:latN (tk++[(a,b)])=if ltN (x.boot,x.ctr) (a,b) then (a,b) else (x.boot,x.ctr):=by rw [latN_snoc,hl]
  rw [h0] at hlk
  unfold vlookN at hlk
  rw [hl] at hlk
  simp only at hlk
  have hnold:¬ (a < x.boot ∨ a=x.boot∧b≤x.ctr - 64):=fun g=>by rw [if_pos g] at hlk;cases hlk
  rw [if_neg hnold] at hlk
  unfold takeC
  rw [if_neg (show ¬ lookC x a b≠0 from fun g=>g h0)]
  by_cases h1:a > x.boot
  · rw [if_pos h1]
    refine ⟨by rw [hlt,if_pos (by unfold ltN;simp only;omega)],hrt,1,rfl,by decide,fun k hk=>?_⟩
    simp only [List.mem_append,List.mem_singleton,Prod.mk.injEq,true_and]
    constructor
    · intro g
      have:=one_bit g
      subst this
      exact .inr (by simp)
    · rintro (g|g)
      · exact absurd (show ltN (x.boot,x.ctr) (a,b - (k:Int)) by unfold ltN;simp only;omega) (hmx _ g)
      · have:k=0:=by omega
        subst this;rfl
  rw [if_neg h1]
  have ha:a=x.boot:=by omega
  by_cases h2:b > x.ctr
  · rw [if_pos h2]
    obtain ⟨j,hj⟩:∃ j:Nat,b - x.ctr=j:=⟨(b - x.ctr).toNat,by omega⟩
    have hw:IntKind.u64.wrap (x.bits * pw (b - x.ctr).toNat)=((m <<< j % 18446744073709551616:Nat):Int):=by
      rw [hj,Int.toNat_natCast,hm,pwN,wrapI,Nat.shiftLeft_eq]
      simp
    rw [hw,show (1:Int)=((1:Nat):Int) from rfl,orN (Nat.mod_lt _ (by decide)) (by decide)]
    refine ⟨by rw [hlt,if_pos (by unfold ltN;simp only;omega)],hrt,_,rfl,Nat.or_lt_two_pow (n:=64) (Nat.mod_lt _ (by decide)) (by decide),fun k hk=>?_⟩
    have e64:(18446744073709551616:Nat)=2 ^ 64:=rfl
    rw [Nat.testBit_or,e64,Nat.testBit_mod_two_pow,Nat.testBit_shiftLeft]
    simp only [List.mem_append,List.mem_singleton,Prod.mk.injEq,Bool.or_eq_true,Bool.and_eq_true,decide_eq_true_eq,true_and]
    constructor
    · rintro (⟨_,g1,g2⟩|g)
      · have:=(hb (k - j) (by omega)).1 g2
        left
        rw [ha,show b - (k:Int)=x.ctr - ((k - j:Nat):Int) by omega]
        exact this
      · have:=one_bit g
        subst this
        exact .inr (by simp)
    · rintro (g|g)
      · left
        have hle:b - (k:Int)≤x.ctr:=by
          have:=hmx _ g
          unfold ltN at this
          simp only at this
          omega
        refine ⟨hk,by omega,(hb (k - j) (by omega)).2 ?_⟩
        rw [← ha,show x.ctr - ((k - j:Nat):Int)=b - (k:Int) by omega]
        exact g
      · right
        have:k=0:=by omega
        subst this;rfl
  rw [if_neg h2]
  obtain ⟨j,hj⟩:∃ j:Nat,x.ctr - b=j:=⟨(x.ctr - b).toNat,by omega⟩
  have hj64:j < 64:=by omega
  have hp64:2 ^ j < 18446744073709551616:=Nat.pow_lt_pow_right (by decide) hj64
  have hw:IntKind.u64.wrap (1 * pw (x.ctr - b).toNat)=((2 ^ j:Nat):Int):=by
    rw [hj,Int.toNat_natCast,Int.one_mul,pwN,wrapN hp64]
  rw [hw,hm,orN hm2 hp64]
  refine ⟨by rw [hlt,if_neg (by unfold ltN;simp only;omega)],hrt,_,rfl,Nat.or_lt_two_pow (n:=64) hm2 hp64,fun k hk=>?_⟩
  rw [Nat.testBit_or,Nat.testBit_two_pow]
  simp only [List.mem_append,List.mem_singleton,Prod.mk.injEq,Bool.or_eq_true,decide_eq_true_eq]
  rw [hb k hk]
  constructor
  · rintro (g|g)
    · exact .inl g
    · exact .inr ⟨ha.symm,by omega⟩
  · rintro (g|⟨_,g⟩)
    · exact .inl g
    · exact .inr (by omega)
section
variable {X:Cx} {σ:Env} {L:Lst} {d:Option Nat} {ty ty2 t:TypeId} {pos:String} {af:Array Edge} {g:Option (Nat × Bool)} {x y:Operand} {i j:Int}
theorem Ok1.shlU {k2:IntKind} (hx:ev σ x=some (.int .u64 i)) (hy:ev σ y=some (.int k2 j)) (h:0≤j):Ok1 X ⟨d,.binOp .shl t x y ty2,ty,pos,af,g⟩ σ L (.int .u64 (IntKind.u64.wrap (i * pw j.toNat))):=by
  have e:IntKind.u64.wrap (i * pw j.toNat)=IntKind.u64.wrap (i * pw (min j.toNat 64)):=by
    rcases Nat.le_total j.toNat 64 with h1|h1
    · rw [Nat.min_eq_left h1]
    · obtain ⟨c,hc⟩:∃ c,j.toNat=64+c:=⟨j.toNat - 64,by omega⟩
      have hz:∀ z:Int,(z * 18446744073709551616) % 18446744073709551616=0:=by omega
      have e2:i * ((2 ^ (64+c):Nat):Int)=(i * ((2 ^ c:Nat):Int)) * 18446744073709551616:=by
        rw [Nat.pow_add,Int.natCast_mul,Int.mul_comm ((2 ^ 64:Nat):Int),← Int.mul_assoc];rfl
      rw [Nat.min_eq_right h1,wrapI,wrapI,pwN,pwN,hc,e2,hz]
      exact (hz i).symm
  rw [e]
  exact .mk fun a w ha hw=>by
    have hn:¬ j < 0:=by omega
    rw [pw_eq]
    simp [execOp,ha.ev hx,ha.ev hy,eqGuard,binOp,Op.shift,hn,IntKind.bits]
end
instance (a b:Int):Decidable (NRc a b):=by unfold NRc;infer_instance
theorem nonceC_ok (a b:Int):CallP Try.prog 89 [.agg ⟨[.int .i64 a,.int .i64 b]⟩] (.int .i64 (if NRc a b then 0 else 10)):=by
  refine enterP (tb:=tb) Try.func89 rfl Try.ntmps89 rfl fun w=>?_
  repeat' (first|(apply R.is1;first|(apply R.isBin;first|(apply R.lss rfl rfl rfl<;>intro)|(apply R.gtr rfl rfl rfl<;>intro))|(apply R.pure;exact rfl;first|(apply Ok1.move;exact rfl)|(apply Ok1.fieldAddr;(iterate 5 exact rfl))|(apply Ok1.load;exact rfl;(apply Ld.own1;exact rfl;exact rfl;exact At.head;exact rfl))|(apply Ok1.assign;exact rfl)|(apply Ok1.pick_t;exact rfl;exact rfl)|(apply Ok1.pick_f;exact rfl;exact rfl))|(apply R.box;(iterate 3 exact rfl);intro))|(apply R.isG;first|(apply R.guard_run;exact rfl;exact rfl)|(apply R.guard_not;(iterate 3 exact rfl)))|apply R.nil|(apply T.is;first|apply T.seq|apply T.region|apply T.skip|apply T.ret|(apply T.cond_t;exact rfl)|(apply T.cond_f;exact rfl)))
  all_goals (apply RetOk.t;exact rfl)
  all_goals first
    | (rw [if_pos (by unfold NRc;omega)];done)
    | (rw [if_neg (by unfold NRc;omega)];done)
theorem wlookC_ok (e:Nat) (x:En) (a b:Int) (hN:NRc a b) (hc:0≤x.ctr∧x.ctr≤2147483647) (w:World) (hb:w.heap[e]? = some (.cells ⟨x.v⟩ 103 (0,0))):CallW Try.prog 75 [.pointer (some ⟨e,0,none⟩),.agg ⟨[.int .i64 a,.int .i64 b]⟩] w fun v _=>v = .int .i64 (lookC x a b):=by
  have hck:=nonceC_ok a b
  rw [if_pos hN] at hck
  obtain ⟨n1,n2,n3,n4⟩:=hN
  obtain ⟨c1,c2⟩:=hc
  have hb64:∀ j:Int,j < 64→j.toNat≤IntKind.u64.bits:=fun j h=>by show j.toNat≤64;omega
  obtain ⟨wb,wc,bits,key,asked⟩:=x
  have e0:En.v ⟨wb,wc,bits,key,asked⟩=[.int .i64 wb,.int .i64 wc,.int .u64 bits,.pointer key,.int .i64 asked]:=rfl
  rw [e0] at hb
  simp only at c1 c2
  unfold lookC
  simp only
  refine enterW (tb:=tb) Try.func75 rfl Try.ntmps75 rfl ?_
  repeat' (first|(apply R.is1;first|(apply R.isBin;first|(apply R.pure;exact rfl;first|(apply Ok1.eqlP;(iterate 5 exact rfl))|(apply Ok1.shr;exact rfl;exact rfl;omega;(apply hb64;omega);exact rfl)|(apply Ok1.andK;exact rfl;exact rfl)|(apply Ok1.neq_f;exact rfl;exact rfl;omega))|(apply R.eql rfl rfl rfl<;>intro))|(apply R.isCall;apply R.callP rfl rfl rfl hck)|(apply R.pure;exact rfl;first|(apply Ok1.load;exact rfl;first|(apply Ld.ownk;exact rfl;exact rfl;exact At.head;exact rfl)|(apply Ld.blk1;exact rfl;exact rfl;exact hb;exact List.not_mem_nil;exact rfl))|(apply Ok1.move;exact rfl)|(apply Ok1.fieldAddr;(iterate 5 exact rfl))|(apply Ok1.assign;exact rfl)|(apply Ok1.nilCheck;exact rfl))|(apply R.box;(iterate 3 exact rfl);intro))|apply R.nil|(apply T.is;first|(apply T.drawC (id:=6) [0] (by decide);((apply A.tk 0;exact rfl;kernel_rfl;(apply Ok1.move;exact rfl))<;>(apply A.tk 1;exact rfl;kernel_rfl;(apply Ok1.nilCheck;exact rfl))<;>(apply A.tk 2;exact rfl;kernel_rfl;(apply Ok1.fieldAddr;(iterate 5 exact rfl)))<;>(apply A.tk 3;exact rfl;kernel_rfl;(apply Ok1.fieldAddr;(iterate 5 exact rfl)))<;>(apply A.tk 4;exact rfl;kernel_rfl;(apply Ok1.load;exact rfl;(apply Ld.blk1;exact rfl;exact rfl;exact hb;exact List.not_mem_nil;exact rfl)))<;>(apply A.tk 5;exact rfl;kernel_rfl;(apply Ok1.fieldAddr;(iterate 5 exact rfl)))<;>(apply A.tk 6;exact rfl;kernel_rfl;(apply Ok1.load;exact rfl;(apply Ld.own1;exact rfl;exact rfl;exact At.head;exact rfl)))<;>(apply A.tk 7;exact rfl;kernel_rfl;(apply Ok1.sub64;exact rfl;exact rfl;omega;omega))<;>(apply A.tk 8;exact rfl;kernel_rfl;(apply Ok1.assign;exact rfl))<;>(apply A.done;kernel_rfl)))|(apply T.drawC (id:=7) [0] (by decide);((apply A.tk 0;exact rfl;kernel_rfl;(apply Ok1.fieldAddr;(iterate 5 exact rfl)))<;>(apply A.tk 1;exact rfl;kernel_rfl;(apply Ok1.load;exact rfl;(apply Ld.own1;exact rfl;exact rfl;exact At.head;exact rfl)))<;>(apply A.tk 2;exact rfl;kernel_rfl;(apply Ok1.move;exact rfl))<;>(apply A.tk 3;exact rfl;kernel_rfl;(apply Ok1.nilCheck;exact rfl))<;>(apply A.tk 4;exact rfl;kernel_rfl;(apply Ok1.fieldAddr;(iterate 5 exact rfl)))<;>(apply A.tk 5;exact rfl;kernel_rfl;(apply Ok1.fieldAddr;(iterate 5 exact rfl)))<;>(apply A.tk 6;exact rfl;kernel_rfl;(apply Ok1.load;exact rfl;(apply Ld.blk1;exact rfl;exact rfl;exact hb;exact List.not_mem_nil;exact rfl)))<;>((apply A.tk 7;exact rfl;kernel_rfl;((apply Ok1.gtr;exact rfl;exact rfl));apply A.dec (t:=30);exact rfl;all_goals intro))<;>(apply A.tk 8;exact rfl;kernel_rfl;(apply Ok1.move;exact rfl))<;>(first|(apply A.skG 9;(iterate 3 exact rfl);kernel_rfl)|(apply A.tkG 9;(iterate 3 exact rfl);kernel_rfl;(apply Ok1.fieldAddr;(iterate 5 exact rfl))))<;>(first|(apply A.skG 10;(iterate 3 exact rfl);kernel_rfl)|(apply A.tkG 10;(iterate 3 exact rfl);kernel_rfl;(apply Ok1.load;exact rfl;(apply Ld.own1;exact rfl;exact rfl;exact At.head;exact rfl))))<;>(first|(apply A.skG 11;(iterate 3 exact rfl);kernel_rfl)|(apply A.tkG 11;(iterate 3 exact rfl);kernel_rfl;(apply Ok1.move;exact rfl)))<;>(first|(apply A.skG 12;(iterate 3 exact rfl);kernel_rfl)|(apply A.tkG 12;(iterate 3 exact rfl);kernel_rfl;(apply Ok1.nilCheck;exact rfl)))<;>(first|(apply A.skG 13;(iterate 3 exact rfl);kernel_rfl)|(apply A.tkG 13;(iterate 3 exact rfl);kernel_rfl;(apply Ok1.fieldAddr;(iterate 5 exact rfl))))<;>(first|(apply A.skG 14;(iterate 3 exact rfl);kernel_rfl)|(apply A.tkG 14;(iterate 3 exact rfl);kernel_rfl;(apply Ok1.fieldAddr;(iterate 5 exact rfl))))<;>(first|(apply A.skG 15;(iterate 3 exact rfl);kernel_rfl)|(apply A.tkG 15;(iterate 3 exact rfl);kernel_rfl;(apply Ok1.load;exact rfl;(apply Ld.blk1;exact rfl;exact rfl;exact hb;exact List.not_mem_nil;exact rfl))))<;>(first|(apply A.skG 16;(iterate 3 exact rfl);kernel_rfl)|(apply A.tkG 16;(iterate 3 exact rfl);kernel_rfl;((apply Ok1.eql;exact rfl;exact rfl));apply A.dec (t:=39);exact rfl;all_goals intro))<;>(first|(apply A.skG 17;(iterate 3 exact rfl);kernel_rfl)|(apply A.tkG 17;(iterate 3 exact rfl);kernel_rfl;(apply Ok1.move;exact rfl)))<;>(first|(apply A.skG 18;(iterate 3 exact rfl);kernel_rfl)|(apply A.skipU 18;exact rfl;exact rfl;rotate_left 3;exact rfl;exact rfl;rotate_right 3;kernel_rfl;kernel_rfl;kernel_rfl)|(apply A.tkG 18;(iterate 3 exact rfl);kernel_rfl;(apply Ok1.move;exact rfl)))<;>(first|(apply A.skG 19;(iterate 3 exact rfl);kernel_rfl)|(apply A.skipU 19;exact rfl;exact rfl;rotate_left 3;exact rfl;exact rfl;rotate_right 3;kernel_rfl;kernel_rfl;kernel_rfl)|(apply A.tkG 19;(iterate 3 exact rfl);kernel_rfl;((apply Ok1.lss;exact rfl;exact rfl));apply A.dec (t:=42);exact rfl;all_goals intro))<;>(first|(apply A.skG 20;(iterate 3 exact rfl);kernel_rfl)|(apply A.tkG 20;(iterate 3 exact rfl);kernel_rfl;first|(apply Ok1.pick_t;exact rfl;exact rfl)|(apply Ok1.pick_f;exact rfl;exact rfl)))<;>(apply A.tk 21;exact rfl;kernel_rfl;first|(apply Ok1.pick_t;exact rfl;exact rfl)|(apply Ok1.pick_f;exact rfl;exact rfl))<;>(apply A.tk 22;exact rfl;kernel_rfl;(apply Ok1.assign;exact rfl))<;>(apply A.done;kernel_rfl)))|(apply T.drawC (id:=9) [0] (by decide);((apply A.tk 0;exact rfl;kernel_rfl;(apply Ok1.fieldAddr;(iterate 5 exact rfl)))<;>(apply A.tk 1;exact rfl;kernel_rfl;(apply Ok1.load;exact rfl;(apply Ld.own1;exact rfl;exact rfl;exact At.head;exact rfl)))<;>(apply A.tk 2;exact rfl;kernel_rfl;(apply Ok1.move;exact rfl))<;>(apply A.tk 3;exact rfl;kernel_rfl;(apply Ok1.nilCheck;exact rfl))<;>(apply A.tk 4;exact rfl;kernel_rfl;(apply Ok1.fieldAddr;(iterate 5 exact rfl)))<;>(apply A.tk 5;exact rfl;kernel_rfl;(apply Ok1.fieldAddr;(iterate 5 exact rfl)))<;>(apply A.tk 6;exact rfl;kernel_rfl;(apply Ok1.load;exact rfl;(apply Ld.blk1;exact rfl;exact rfl;exact hb;exact List.not_mem_nil;exact rfl)))<;>((apply A.tk 7;exact rfl;kernel_rfl;first|(apply Ok1.lss_t;exact rfl;exact rfl;omega)|(apply Ok1.lss_f;exact rfl;exact rfl;omega)))<;>(apply A.tk 8;exact rfl;kernel_rfl;(apply Ok1.move;exact rfl))<;>(first|(apply A.skG 9;(iterate 3 exact rfl);kernel_rfl)|(apply A.tkG 9;(iterate 3 exact rfl);kernel_rfl;(apply Ok1.move;exact rfl)))<;>(first|(apply A.skG 10;(iterate 3 exact rfl);kernel_rfl)|(apply A.tkG 10;(iterate 3 exact rfl);kernel_rfl;((apply Ok1.geq;exact rfl;exact rfl));apply A.dec (t:=56);exact rfl;all_goals intro))<;>(apply A.tk 11;exact rfl;kernel_rfl;first|(apply Ok1.pick_t;exact rfl;exact rfl)|(apply Ok1.pick_f;exact rfl;exact rfl))<;>(apply A.tk 12;exact rfl;kernel_rfl;(apply Ok1.assign;exact rfl))<;>(apply A.done;kernel_rfl)))|apply T.seq|apply T.region|apply T.block|apply T.skip|apply T.ret|(apply T.cond_t;exact rfl)|(apply T.cond_f;exact rfl)))
  all_goals (apply RetOk.t;exact rfl)
  all_goals (repeat' split)<;>first|rfl|(exfalso;omega)
theorem wlookC_bad (e:Nat) (a b:Int) (hN:¬ NRc a b):CallP Try.prog 75 [.pointer (some ⟨e,0,none⟩),.agg ⟨[.int .i64 a,.int .i64 b]⟩] (.int .i64 10):=by
  have hck:=nonceC_ok a b
  rw [if_neg hN] at hck
  refine enterP (tb:=tb) Try.func75 rfl Try.ntmps75 rfl fun w=>?_
  repeat' (first|(apply R.is1;first|(apply R.isBin;(apply R.pure;exact rfl;first|(apply Ok1.eqlP;(iterate 5 exact rfl))|(apply Ok1.neq_t;exact rfl;exact rfl;omega)))|(apply R.isCall;apply R.callP rfl rfl rfl hck)|(apply R.pure;exact rfl;first|(apply Ok1.load;exact rfl;(apply Ld.ownk;exact rfl;exact rfl;exact At.head;exact rfl))|(apply Ok1.move;exact rfl)|(apply Ok1.assign;exact rfl))|(apply R.box;(iterate 3 exact rfl);intro))|apply R.nil|(apply T.is;first|apply T.seq|apply T.region|apply T.skip|apply T.ret|(apply T.cond_t;exact rfl)|(apply T.cond_f;exact rfl)))
  (apply RetOk.t;exact rfl)
  rfl
theorem wtakeC_bad (e:Nat) (a b:Int) (hN:¬ NRc a b):CallP Try.prog 54 [.pointer (some ⟨e,0,none⟩),.agg ⟨[.int .i64 a,.int .i64 b]⟩] (.int .i64 10):=by
  have hck:=wlookC_bad e a b hN
  refine enterP (tb:=tb) Try.func54 rfl Try.ntmps54 rfl fun w=>?_
  repeat' (first|(apply R.is1;first|(apply R.isBin;(apply R.pure;exact rfl;(apply Ok1.neq_t;exact rfl;exact rfl;omega)))|(apply R.isCall;apply R.callP rfl rfl rfl hck)|(apply R.pure;exact rfl;first|(apply Ok1.load;exact rfl;(apply Ld.ownk;exact rfl;exact rfl;exact At.head;exact rfl))|(apply Ok1.move;exact rfl)|(apply Ok1.assign;exact rfl))|(apply R.box;(iterate 3 exact rfl);intro))|apply R.nil|(apply T.is;first|apply T.seq|apply T.region|apply T.ret|(apply T.cond_t;exact rfl)))
  (apply RetOk.t;exact rfl)
  rfl
theorem wtakeC_ok (e:Nat) (x:En) (a b:Int) (hN:NRc a b) (hc:0≤x.ctr∧x.ctr≤2147483647) (w:World):CallM Try.prog 54 [.pointer (some ⟨e,0,none⟩),.agg ⟨[.int .i64 a,.int .i64 b]⟩] [(e,.cells ⟨x.v⟩ 103 (0,0))] w fun v L=>v = .int .i64 (lookC x a b)∧L=[(e,.cells ⟨(takeC x a b).v⟩ 103 (0,0))]:=by
  have hlk:=fun w1 h=>wlookC_ok e x a b hN hc w1 h
  obtain ⟨n1,n2,n3,n4⟩:=hN
  obtain ⟨c1,c2⟩:=hc
  unfold takeC
  have hl8:lookC x a b=0→¬ a < x.boot:=fun h h2=>by
    unfold lookC at h
    rw [if_neg (by omega),if_pos (by omega)] at h
    omega
  generalize lookC x a b=E at *
  obtain ⟨wb,wc,bits,key,asked⟩:=x
  have e0:En.v ⟨wb,wc,bits,key,asked⟩=[.int .i64 wb,.int .i64 wc,.int .u64 bits,.pointer key,.int .i64 asked]:=rfl
  rw [e0] at hlk ⊢
  simp only at c1 c2 hl8 ⊢
  refine enterK (tb:=tb) Try.func54 rfl Try.ntmps54 rfl ?_
  repeat' (first|(apply R.is1;first|(apply R.isBin;(apply R.neq rfl rfl rfl<;>intro))|(apply R.isCall;(apply R.callV (vs:=[.pointer (some ⟨e,0,none⟩),.agg ⟨[.int .i64 a,.int .i64 b]⟩]);(iterate 3 exact rfl);intro w1 hw1;exact hlk w1 (hw1.get _ _ (At.mem (by (focus (repeat' first|exact At.head|apply At.tail);done))))))|(apply R.pure;exact rfl;first|(apply Ok1.load;exact rfl;(apply Ld.ownk;exact rfl;exact rfl;exact At.head;exact rfl))|(apply Ok1.move;exact rfl)|(apply Ok1.fieldAddr;(iterate 5 exact rfl))|(apply Ok1.assign;exact rfl)|(apply Ok1.nilCheck;exact rfl))|(apply R.box;(iterate 3 exact rfl);intro))|(apply R.is0;(apply R.store;(iterate 6 exact rfl);(focus (repeat' first|exact Upd.head|apply Upd.tail);done);exact rfl))|apply R.nil|(apply T.is;first|(apply T.drawC (id:=5) [0,1] (by decide);((apply A.tk 0;exact rfl;kernel_rfl;(apply Ok1.fieldAddr;(iterate 5 exact rfl)))<;>(apply A.tk 1;exact rfl;kernel_rfl;(apply Ok1.load;exact rfl;(apply Ld.own1;exact rfl;exact rfl;exact At.head;exact rfl)))<;>(apply A.tk 2;exact rfl;kernel_rfl;(apply Ok1.move;exact rfl))<;>(apply A.tk 3;exact rfl;kernel_rfl;(apply Ok1.nilCheck;exact rfl))<;>(apply A.tk 4;exact rfl;kernel_rfl;(apply Ok1.fieldAddr;(iterate 5 exact rfl)))<;>(apply A.tk 5;exact rfl;kernel_rfl;(apply Ok1.fieldAddr;(iterate 5 exact rfl)))<;>(apply A.tk 6;exact rfl;kernel_rfl;(apply Ok1.load;exact rfl;(apply Ld.own1;exact rfl;exact rfl;(focus (repeat' first|exact At.head|apply At.tail);done);exact rfl)))<;>((apply A.tk 7;exact rfl;kernel_rfl;((apply Ok1.gtr;exact rfl;exact rfl));apply A.dec (t:=36);exact rfl;all_goals intro))<;>(apply A.tk 8;exact rfl;kernel_rfl;(apply Ok1.assign;exact rfl))<;>(apply A.done;kernel_rfl)))|(apply T.drawC (id:=7) [0,1] (by decide);((apply A.tk 0;exact rfl;kernel_rfl;(apply Ok1.fieldAddr;(iterate 5 exact rfl)))<;>(apply A.tk 1;exact rfl;kernel_rfl;(apply Ok1.load;exact rfl;(apply Ld.own1;exact rfl;exact rfl;exact At.head;exact rfl)))<;>(apply A.tk 2;exact rfl;kernel_rfl;(apply Ok1.move;exact rfl))<;>(apply A.tk 3;exact rfl;kernel_rfl;(apply Ok1.nilCheck;exact rfl))<;>(apply A.tk 4;exact rfl;kernel_rfl;(apply Ok1.fieldAddr;(iterate 5 exact rfl)))<;>(apply A.tk 5;exact rfl;kernel_rfl;(apply Ok1.fieldAddr;(iterate 5 exact rfl)))<;>(apply A.tk 6;exact rfl;kernel_rfl;(apply Ok1.load;exact rfl;(apply Ld.own1;exact rfl;exact rfl;(focus (repeat' first|exact At.head|apply At.tail);done);exact rfl)))<;>((apply A.tk 7;exact rfl;kernel_rfl;((apply Ok1.gtr;exact rfl;exact rfl));apply A.dec (t:=52);exact rfl;all_goals intro))<;>(apply A.tk 8;exact rfl;kernel_rfl;(apply Ok1.assign;exact rfl))<;>(apply A.done;kernel_rfl)))|(apply T.drawC (id:=8) [0] (by decide);((apply A.tk 0;exact rfl;kernel_rfl;(apply Ok1.move;exact rfl))<;>(apply A.tk 1;exact rfl;kernel_rfl;(apply Ok1.move;exact rfl))<;>(apply A.tk 2;exact rfl;kernel_rfl;(apply Ok1.nilCheck;exact rfl))<;>(apply A.tk 3;exact rfl;kernel_rfl;(apply Ok1.fieldAddr;(iterate 5 exact rfl)))<;>(apply A.tk 5;exact rfl;kernel_rfl;(apply Ok1.fieldAddr;(iterate 5 exact rfl)))<;>(apply A.tk 6;exact rfl;kernel_rfl;(apply Ok1.load;exact rfl;(apply Ld.own1;exact rfl;exact rfl;exact At.head;exact rfl)))<;>(apply A.tk 7;exact rfl;kernel_rfl;(apply Ok1.move;exact rfl))<;>(apply A.tk 8;exact rfl;kernel_rfl;(apply Ok1.nilCheck;exact rfl))<;>(apply A.tk 9;exact rfl;kernel_rfl;(apply Ok1.fieldAddr;(iterate 5 exact rfl)))<;>(apply A.tk 10;exact rfl;kernel_rfl;(apply Ok1.fieldAddr;(iterate 5 exact rfl)))<;>(apply A.two 4 11;kernel_rfl;exact rfl;exact rfl;rotate_left 1;(focus (((((apply R.pure;exact rfl;(apply Ok1.load;exact rfl;(apply Ld.own1;exact rfl;exact rfl;(focus (repeat' first|exact At.head|apply At.tail);done);exact rfl)))));apply R.nil;refine ⟨?_,?_⟩;(focus ((repeat' (first|exact trivial|(refine ⟨?_,?_⟩;exact At.head))))))<;>(apply A.tk 12;exact rfl;kernel_rfl;(apply Ok1.sub64;exact rfl;exact rfl;omega;omega))<;>(apply A.one 4;kernel_rfl;exact rfl;(((apply R.pure;exact rfl;(apply Ok1.load;exact rfl;(apply Ld.own1;exact rfl;exact rfl;(focus (repeat' first|exact At.head|apply At.tail);done);exact rfl)))));apply R.nil;refine ⟨?_,?_⟩;(focus ((repeat' (first|exact trivial|(refine ⟨?_,?_⟩;exact At.head))))))<;>(apply A.tk 13;exact rfl;kernel_rfl;(apply Ok1.shlU;exact rfl;exact rfl;omega))<;>(apply A.tk 14;exact rfl;kernel_rfl;(apply Ok1.orK;exact rfl;exact rfl))<;>(apply A.tk 15;exact rfl;kernel_rfl;(apply Ok1.nilCheck;exact rfl))<;>(apply A.tk 16;exact rfl;kernel_rfl;(apply Ok1.fieldAddr;(iterate 5 exact rfl)))<;>(apply A.one 17;kernel_rfl;exact rfl;(((apply R.store;(iterate 6 exact rfl);(focus (repeat' first|exact Upd.head|apply Upd.tail);done);exact rfl)));apply R.nil;refine ⟨?_,?_⟩;(focus ((repeat' (first|exact trivial|(refine ⟨?_,?_⟩;exact At.head))))))<;>(apply A.done;kernel_rfl)));rotate_right 1;(focus (((((apply R.pure;exact rfl;(apply Ok1.load;exact rfl;(apply Ld.own1;exact rfl;exact rfl;(focus (repeat' first|exact At.head|apply At.tail);done);exact rfl)))));apply R.nil;refine ⟨?_,?_⟩;(focus ((repeat' (first|exact trivial|(refine ⟨?_,?_⟩;exact At.head))))))<;>(apply A.one 11;kernel_rfl;exact rfl;(((apply R.pure;exact rfl;(apply Ok1.load;exact rfl;(apply Ld.own1;exact rfl;exact rfl;(focus (repeat' first|exact At.head|apply At.tail);done);exact rfl)))));apply R.nil;refine ⟨?_,?_⟩;(focus ((repeat' (first|exact trivial|(refine ⟨?_,?_⟩;exact At.head))))))<;>(apply A.tk 12;exact rfl;kernel_rfl;(apply Ok1.sub64;exact rfl;exact rfl;omega;omega))<;>(apply A.tk 13;exact rfl;kernel_rfl;(apply Ok1.shlU;exact rfl;exact rfl;omega))<;>(apply A.tk 14;exact rfl;kernel_rfl;(apply Ok1.orK;exact rfl;exact rfl))<;>(apply A.tk 15;exact rfl;kernel_rfl;(apply Ok1.nilCheck;exact rfl))<;>(apply A.tk 16;exact rfl;kernel_rfl;(apply Ok1.fieldAddr;(iterate 5 exact rfl)))<;>(apply A.one 17;kernel_rfl;exact rfl;(((apply R.store;(iterate 6 exact rfl);(focus (repeat' first|exact Upd.head|apply Upd.tail);done);exact rfl)));apply R.nil;refine ⟨?_,?_⟩;(focus ((repeat' (first|exact trivial|(refine ⟨?_,?_⟩;exact At.head))))))<;>(apply A.done;kernel_rfl))))))|(apply T.drawC (id:=4) [0] (by decide);((apply A.tk 0;exact rfl;kernel_rfl;(apply Ok1.move;exact rfl))<;>(apply A.tk 1;exact rfl;kernel_rfl;(apply Ok1.nilCheck;exact rfl))<;>(apply A.tk 2;exact rfl;kernel_rfl;(apply Ok1.fieldAddr;(iterate 5 exact rfl)))<;>(apply A.tk 4;exact rfl;kernel_rfl;(apply Ok1.move;exact rfl))<;>(apply A.tk 5;exact rfl;kernel_rfl;(apply Ok1.nilCheck;exact rfl))<;>(apply A.tk 6;exact rfl;kernel_rfl;(apply Ok1.fieldAddr;(iterate 5 exact rfl)))<;>(apply A.tk 7;exact rfl;kernel_rfl;(apply Ok1.fieldAddr;(iterate 5 exact rfl)))<;>(apply A.tk 9;exact rfl;kernel_rfl;(apply Ok1.fieldAddr;(iterate 5 exact rfl)))<;>(apply A.tk 10;exact rfl;kernel_rfl;(apply Ok1.load;exact rfl;(apply Ld.own1;exact rfl;exact rfl;exact At.head;exact rfl)))<;>(apply A.two 3 8;kernel_rfl;exact rfl;exact rfl;rotate_left 1;(focus (((((apply R.pure;exact rfl;(apply Ok1.load;exact rfl;(apply Ld.own1;exact rfl;exact rfl;(focus (repeat' first|exact At.head|apply At.tail);done);exact rfl)))));apply R.nil;refine ⟨?_,?_⟩;(focus ((repeat' (first|exact trivial|(refine ⟨?_,?_⟩;exact At.head))))))<;>(apply A.tk 11;exact rfl;kernel_rfl;(apply Ok1.sub64;exact rfl;exact rfl;omega;omega))<;>(apply A.tk 12;exact rfl;kernel_rfl;(apply Ok1.shlU;exact rfl;exact rfl;omega))<;>(apply A.one 3;kernel_rfl;exact rfl;(((apply R.pure;exact rfl;(apply Ok1.load;exact rfl;(apply Ld.own1;exact rfl;exact rfl;(focus (repeat' first|exact At.head|apply At.tail);done);exact rfl)))));apply R.nil;refine ⟨?_,?_⟩;(focus ((repeat' (first|exact trivial|(refine ⟨?_,?_⟩;exact At.head))))))<;>(apply A.tk 13;exact rfl;kernel_rfl;(apply Ok1.orK;exact rfl;exact rfl))<;>(apply A.tk 14;exact rfl;kernel_rfl;(apply Ok1.nilCheck;exact rfl))<;>(apply A.tk 15;exact rfl;kernel_rfl;(apply Ok1.fieldAddr;(iterate 5 exact rfl)))<;>(apply A.one 16;kernel_rfl;exact rfl;(((apply R.store;(iterate 6 exact rfl);(focus (repeat' first|exact Upd.head|apply Upd.tail);done);exact rfl)));apply R.nil;refine ⟨?_,?_⟩;(focus ((repeat' (first|exact trivial|(refine ⟨?_,?_⟩;exact At.head))))))<;>(apply A.done;kernel_rfl)));rotate_right 1;(focus (((((apply R.pure;exact rfl;(apply Ok1.load;exact rfl;(apply Ld.own1;exact rfl;exact rfl;(focus (repeat' first|exact At.head|apply At.tail);done);exact rfl)))));apply R.nil;refine ⟨?_,?_⟩;(focus ((repeat' (first|exact trivial|(refine ⟨?_,?_⟩;exact At.head))))))<;>(apply A.one 8;kernel_rfl;exact rfl;(((apply R.pure;exact rfl;(apply Ok1.load;exact rfl;(apply Ld.own1;exact rfl;exact rfl;(focus (repeat' first|exact At.head|apply At.tail);done);exact rfl)))));apply R.nil;refine ⟨?_,?_⟩;(focus ((repeat' (first|exact trivial|(refine ⟨?_,?_⟩;exact At.head))))))<;>(apply A.tk 11;exact rfl;kernel_rfl;(apply Ok1.sub64;exact rfl;exact rfl;omega;omega))<;>(apply A.tk 12;exact rfl;kernel_rfl;(apply Ok1.shlU;exact rfl;exact rfl;omega))<;>(apply A.tk 13;exact rfl;kernel_rfl;(apply Ok1.orK;exact rfl;exact rfl))<;>(apply A.tk 14;exact rfl;kernel_rfl;(apply Ok1.nilCheck;exact rfl))<;>(apply A.tk 15;exact rfl;kernel_rfl;(apply Ok1.fieldAddr;(iterate 5 exact rfl)))<;>(apply A.one 16;kernel_rfl;exact rfl;(((apply R.store;(iterate 6 exact rfl);(focus (repeat' first|exact Upd.head|apply Upd.tail);done);exact rfl)));apply R.nil;refine ⟨?_,?_⟩;(focus ((repeat' (first|exact trivial|(refine ⟨?_,?_⟩;exact At.head))))))<;>(apply A.done;kernel_rfl))))))|apply T.seq|apply T.region|apply T.block|apply T.skip|apply T.ret|(apply T.cond_t;exact rfl)|(apply T.cond_f;exact rfl)))
  · (apply RetOk.t;exact rfl)
    rename_i h
    simp only [if_pos h]
    exact ⟨_,by rw [e0];(focus (repeat' first|exact Keep.nil _|exact Ext.one _ _|apply Keep.cons|apply Ext.cons);done),trivial,rfl⟩
  all_goals (apply RetOk.t;exact rfl)
  · rename_i h0 h1
    subst h0
    simp only [if_neg (show ¬ ((0:Int)≠0) from fun h=>h rfl),if_pos (show a > wb from h1)]
    simp only [En.v]
    exact ⟨_,by (focus (repeat' first|exact Keep.nil _|exact Ext.one _ _|apply Keep.cons|apply Ext.cons);done),trivial,rfl⟩
  all_goals rename_i h0 h1 h2
  all_goals subst h0
  all_goals simp only [if_neg (show ¬ ((0:Int)≠0) from fun h=>h rfl),if_neg (show ¬ a > wb from h1)]
  all_goals first
    | (simp only [if_pos (show b > wc from h2),En.v];exact ⟨_,by (focus (repeat' first|exact Keep.nil _|exact Ext.one _ _|apply Keep.cons|apply Ext.cons);done),trivial,rfl⟩)
    | (simp only [if_neg (show ¬ b > wc from h2),En.v];exact ⟨_,by (focus (repeat' first|exact Keep.nil _|exact Ext.one _ _|apply Keep.cons|apply Ext.cons);done),trivial,rfl⟩)
def k0:List Int:=[48,49,50,51,52,53,54,55,56,57,97,98,99,100,101,102]
theorem len64_ok (x:Int) (h0:0≤x) (h1:x≤18446744073709551615):CallP Try.prog 103 [.int .u64 x] (.int .i64 (blen x.toNat)):=by
  refine enterP (tb:=tb) Try.func103 rfl Try.ntmps103 rfl fun w=>?_
  repeat' (first|(apply R.is1;first|(apply R.isBin;first|(apply R.pure;exact rfl;first|(apply Ok1.add64;exact rfl;exact rfl;omega;omega)|(apply Ok1.geq_t;exact rfl;exact rfl;omega)|(apply Ok1.geq_f;exact rfl;exact rfl;omega)|(apply Ok1.shr;exact rfl;exact rfl;omega;exact Nat.le_of_ble_eq_true rfl;(first|exact pwE1|exact pwE2|exact pwE3|exact pwE4|exact pwE5|exact pwE6|exact pwE7|exact pwE8|exact pwE16|exact pwE24|exact pwE32|exact rfl)))|(apply R.geq rfl rfl rfl<;>intro))|(apply R.pure;exact rfl;first|(apply Ok1.len8;(iterate 4 exact rfl);omega;omega;kernel_rfl)|(apply Ok1.move;exact rfl)|(apply Ok1.assign;exact rfl)|(apply Ok1.index1;(iterate 6 exact rfl);omega;omega;exact rfl)|(apply Ok1.indexk;(iterate 6 exact rfl);omega;omega;exact rfl)|(apply Ok1.convI64;(iterate 5 exact rfl);omega;omega)|(apply Ok1.convU64;(iterate 5 exact rfl);omega;omega)|(apply Ok1.convU32;(iterate 5 exact rfl);omega;omega)|(apply Ok1.convU8;(iterate 5 exact rfl);omega;omega)|(apply Ok1.conv;(iterate 5 exact rfl))))|(apply R.is0;first|fail)|(apply R.isG;first|(apply R.guard_run;exact rfl;exact rfl)|(apply R.guard_not;(iterate 3 exact rfl))|(apply R.guard_not0;exact rfl;exact rfl)|(apply R.guard_un;(iterate 3 exact rfl))|(apply R.guard_un0;exact rfl;exact rfl)|(apply R.guard rfl rfl ?_ (fun h=>⟨rfl,?_⟩)<;>try intro))|apply R.nil|(apply T.is;first|apply T.seq|apply T.region|apply T.block|apply T.scope|apply T.label|apply T.skip|apply T.exit|apply T.ret|(apply T.cond_t;exact rfl)|(apply T.cond_f;exact rfl)|(apply T.cond_h;exact rfl;assumption)|(apply T.cond_n;exact rfl;assumption)|(apply T.cond rfl<;>intro))|apply Rnd.step)
  all_goals (apply RetOk.t;exact rfl)
  all_goals congr 1
  all_goals rw [Nat.min_eq_left (blen_le 8 (by omega))]
  all_goals first
    | (rw [blen32 (x:=x.toNat) (by omega),blen16 (x:=x.toNat / 4294967296) (by omega),blen8 (x:=x.toNat / 4294967296 / 65536) (by omega),show (x / 4294967296 / 65536 / 256).toNat=x.toNat / 4294967296 / 65536 / 256 by omega];omega)
    | (rw [blen32 (x:=x.toNat) (by omega),blen16 (x:=x.toNat / 4294967296) (by omega),show (x / 4294967296 / 65536).toNat=x.toNat / 4294967296 / 65536 by omega];omega)
    | (rw [blen32 (x:=x.toNat) (by omega),blen8 (x:=x.toNat / 4294967296) (by omega),show (x / 4294967296 / 256).toNat=x.toNat / 4294967296 / 256 by omega];omega)
    | (rw [blen32 (x:=x.toNat) (by omega),show (x / 4294967296).toNat=x.toNat / 4294967296 by omega];omega)
    | (rw [blen16 (x:=x.toNat) (by omega),blen8 (x:=x.toNat / 65536) (by omega),show (x / 65536 / 256).toNat=x.toNat / 65536 / 256 by omega];omega)
    | (rw [blen16 (x:=x.toNat) (by omega),show (x / 65536).toNat=x.toNat / 65536 by omega];omega)
    | (rw [blen8 (x:=x.toNat) (by omega),show (x / 256).toNat=x.toNat / 256 by omega];omega)
    | omega
theorem len_ok (x:Int) (h0:0≤x) (h1:x≤18446744073709551615):CallP Try.prog 85 [.int .u64 x] (.int .i64 (blen x.toNat)):=by
  refine enterP (tb:=tb) Try.func85 rfl Try.ntmps85 rfl fun w=>?_
  repeat' (first|(apply R.is1;first|(apply R.isCall;first|apply R.callP rfl rfl rfl (len64_ok _ (by omega) (by omega)))|(apply R.pure;exact rfl;first|(apply Ok1.move;exact rfl)|(apply Ok1.assign;exact rfl)|(apply Ok1.convI64;(iterate 5 exact rfl);omega;omega)|(apply Ok1.convU64;(iterate 5 exact rfl);omega;omega)|(apply Ok1.convU32;(iterate 5 exact rfl);omega;omega)|(apply Ok1.convU8;(iterate 5 exact rfl);omega;omega)|(apply Ok1.conv;(iterate 5 exact rfl))))|(apply R.is0;first|fail)|(apply R.isG;first|(apply R.guard_run;exact rfl;exact rfl)|(apply R.guard_not;(iterate 3 exact rfl))|(apply R.guard_not0;exact rfl;exact rfl)|(apply R.guard_un;(iterate 3 exact rfl))|(apply R.guard_un0;exact rfl;exact rfl)|(apply R.guard rfl rfl ?_ (fun h=>⟨rfl,?_⟩)<;>try intro))|apply R.nil|(apply T.is;first|apply T.seq|apply T.region|apply T.block|apply T.scope|apply T.label|apply T.skip|apply T.exit|apply T.ret|(apply T.cond_t;exact rfl)|(apply T.cond_f;exact rfl)|(apply T.cond_h;exact rfl;assumption)|(apply T.cond_n;exact rfl;assumption)|(apply T.cond rfl<;>intro))|apply Rnd.step)
  all_goals (apply RetOk.t;exact rfl)
  rfl
end Go.Proofs.Ytijbmkjebidanaa
set_option linter.unusedSimpArgs false
set_option linter.unusedVariables false
namespace Go.Proofs.Ytijbmkjebidanaa
open Go.RowKit Go.Shelf Go.Sort
def ltC (c d:Cl):Prop:=c.ser < d.ser ∨ c.ser=d.ser∧(c.id < d.id ∨ c.id=d.id∧(c.exp < d.exp ∨ c.exp=d.exp∧c.roles < d.roles))
theorem cmpI_neg (x y:Int):cmpI x y < 0 ↔ x < y:=by
  unfold cmpI
  repeat' split
  all_goals omega
theorem cmpI_zero (x y:Int):cmpI x y=0 ↔ x=y:=by
  unfold cmpI
  repeat' split
  all_goals omega
theorem cmpCl_neg (c d:Cl):cmpCl c d < 0 ↔ ltC c d:=by
  unfold cmpCl ltC
  split
  · rename_i h;subst h;simp
  · have h1:=cmpI_neg c.ser d.ser
    have h2:=cmpI_neg c.id d.id
    have h3:=cmpI_neg c.exp d.exp
    have h4:=cmpI_neg c.roles d.roles
    have z1:=cmpI_zero c.ser d.ser
    have z2:=cmpI_zero c.id d.id
    have z3:=cmpI_zero c.exp d.exp
    have z4:=cmpI_zero c.roles d.roles
    unfold or4
    repeat' split
    all_goals omega
theorem cl_ext {c d:Cl} (h1:c.ser=d.ser) (h2:c.id=d.id) (h3:c.exp=d.exp) (h4:c.roles=d.roles):c=d:=by cases c;cases d;simp_all
theorem ltC_total {c d:Cl} (h:¬ ltC c d) (h':¬ ltC d c):c=d:=by
  unfold ltC at h h'
  apply cl_ext<;>omega
end Go.Proofs.Ytijbmkjebidanaa
set_option linter.unusedSimpArgs false
set_option linter.unusedVariables false
set_option linter.unusedSectionVars false
namespace Go.Proofs.Ytijbmkjebidanaa
open Go.RowKit Go.Shelf Go.Sort
section
variable {α:Type} [Inhabited α] {enc:α→List Value} {k:Nat}
theorem flatK_get (hk : ∀ x,(enc x).length=k) (d:Array α) {t:Nat} (ht:t < d.size * k):(flatK enc k d)[t]? = (fl enc d.toList)[t]?:=by
  have k0 : 0 < k := by rcases Nat.eq_zero_or_pos k with h|h;· subst h;simp at ht
                        · exact h
  have hdm:=Nat.div_add_mod t k
  have hml:=Nat.mod_lt t k0
  have hil:t / k < d.size:=by rw [Nat.div_lt_iff_lt_mul k0];exact ht
  have hg:d.toList[t / k]? = some d[t / k]!:=by simp [hil]
  have h5:=fl_get hk hg hml
  rw [show t / k * k+t % k=t by rw [Nat.mul_comm];exact hdm] at h5
  rw [h5]
  have h6:=get_flatK enc k d t ht
  rw [getElem!_pos _ t (by simpa using ht)] at h6
  rw [Array.getElem?_eq_getElem (by simpa using ht),h6,List.getElem?_eq_getElem (by rw [hk];exact hml),getElem!_pos _ _ (by rw [hk];exact hml)]
theorem putCells_own (hk:∀ x,(enc x).length=k) (d:Array α) {old junk:List Value} (ho:old.length=d.size * k) :
    putCells id 0 (flatK enc k d) ⟨old++junk⟩=⟨fl enc d.toList++junk⟩:=by
  apply Array.ext_getElem?
  intro t
  have hl:(fl enc d.toList).length=d.size * k:=by rw [fl_len hk];simp
  simp only [putCells,Array.getElem?_mapIdx,Nat.zero_le,true_and,Nat.zero_add,Nat.sub_zero,size_flatK,id,List.getElem?_toArray]
  by_cases ht:t < d.size * k
  · rw [List.getElem?_append_left (by omega),List.getElem?_append_left (by omega),List.getElem?_eq_getElem (by omega),← flatK_get hk d ht]
    simp [ht]
  · rw [List.getElem?_append_right (by omega),List.getElem?_append_right (by omega),ho,hl]
    cases junk[t - d.size * k]? with
    | none=>rfl
    | some v=>simp [ht]

theorem sortWorld_own (hk:∀ x,(enc x).length=k) {w:World} {b m:Nat} {d:Array α} {os:Array Obj} {old junk:List Value} {e:TypeId} {fz:Nat × Nat} (hb:w.heap[b]? = some (.cells ⟨old++junk⟩ e fz)) (ho:old.length=d.size * k) :
    Chg [b] w (sortWorldK enc k w b 0 m d os)∧(sortWorldK enc k w b 0 m d os).heap[b]? = some (.cells ⟨fl enc d.toList++junk⟩ e fz):=by
  have hlt:=(Array.getElem?_eq_some_iff.1 hb).1
  refine ⟨⟨rfl,rfl,rfl,?_,?_,?_⟩,?_⟩
  · simp [sortWorldK,grow,putRowK,putRow,mapBlock,Sort.ahead]
  · simp [sortWorldK,grow,putRowK,putRow,mapBlock,Sort.ahead]
  · intro i hi hs
    have hne:b≠i:=fun h=>hs (by simp [h])
    simp [sortWorldK,grow,putRowK,putRow,mapBlock,Sort.ahead,Array.getElem?_append,hi,Array.getElem_modify,hne]
  · simp only [sortWorldK,grow,putRowK,putRow,mapBlock,Sort.ahead]
    rw [Array.getElem?_append_left (by simpa using hlt),Array.getElem?_modify,if_pos rfl,hb]
    simp only [Option.map_some,onCells,putCells_own hk d ho]

/-- Ascending: no later one is less than an earlier one. -/
def Asc (cf:α→α→Int) (rs:List α):Prop:=rs.Pairwise fun a b=>¬ cf b a < 0

/-- What the program's slices.SortFunc does to an own slice of rows. -/
theorem sort_ok {P:Program} {ρ:Ren} (L:SlLaysF0.n6 P ρ) (aE:∀ w,(isAgg (ρ.t 24)).run P w = .ok true w) (zE:∀ w,(Go.sizeOf (ρ.t 24)).run P w = .ok k w) (hk:∀ x,(enc x).length=k) (h1:∀ x,∀ v∈enc x,v.oneCell'=true) (cf:α→α→Int) (hO:SWO (ltOf cf)) (g:Nat) (cb:List Value) {f:FuncId} (hf:ρ.f 6=f)
    (b cap:Nat) (rs:List α) (junk:List Value) (e:TypeId) (w:World) (he:Enters P g) (hsz:rs.length≤1000000)
    (hcmp:∀ W,Chg [b] w W→∀ x y,CallW P g ([.agg ⟨enc x⟩,.agg ⟨enc y⟩]++cb) W fun v _=>v = .int .i64 (cf x y)) :
    CallM P f [.slice (some ⟨b,0,none⟩) rs.length cap,.func (.func g) #[] cb.toArray] [(b,.cells ⟨fl enc rs++junk⟩ e (0,0))] w fun v L'=>v = .tuple #[]∧∃ rs':List α,rs'.Perm rs∧Asc cf rs' ∧ L'=[(b,.cells ⟨fl enc rs'++junk⟩ e (0,0))] :=
  ⟨fun hw=>by
    subst hf
    have hb:=hw.get b _ List.mem_cons_self
    have hlt:=(Array.getElem?_eq_some_iff.1 hb).1
    have hfl:(fl enc rs).length=rs.length * k:=fl_len hk rs
    have hH:HoldsK enc k w b 0 rs.toArray:=by
      intro j hj
      have hj':j < rs.length * k:=by simpa using hj
      have h2:=flatK_get hk rs.toArray (t:=j) (by simpa using hj')
      refine ⟨?_,?_⟩
      · simp only [World.cell?,hb,Nat.zero_add]
        rw [getElem!_pos _ j hj]
        rw [Array.getElem?_eq_getElem hj] at h2
        simp only [id,h2]
        simp [List.getElem?_append_left,hfl,hj']
      · simp [World.frozen?,hb]
    have hcm:CmpLays P g cb.toArray enc k cf b 0 rs.toArray.size w:=by
      intro m os dk hs x y
      have hc:=(sortWorld_own hk (m:=m) (d:=dk) (os:=os) hb (by rw [hfl,hs];simp)).1
      have:=(hcmp _ hc x y).run
      have e1:(#[Value.agg (enc x).toArray,Value.agg (enc y).toArray]++cb.toArray:Array Value)=([Value.agg ⟨enc x⟩,Value.agg ⟨enc y⟩]++cb).toArray:=by simp
      rw [e1]
      refine Calls.mono this ?_
      rintro e w' ⟨v,h3,h4,h5⟩
      exact ⟨by rw [h3,h4],h5.grow⟩
    have:=AnyQ.slices_SortFunc L k aE zE enc hk h1 cf hO g cb.toArray b 0 cap rs.toArray w he hcm hH hlt (by simp;omega)
    have e0:rs.toArray.size=rs.length:=by simp
    rw [e0] at this
    refine Calls.mono this ?_
    rintro e' w' ⟨h3,d',n,os,hp,hs,hw'⟩
    have hds:d'.size=rs.length:=by simpa using hp.1
    obtain ⟨g1,g2⟩:=sortWorld_own hk (m:=n) (d:=d') (os:=os) hb (by rw [hfl,hds])
    refine ⟨.tuple #[],[(b,.cells ⟨fl enc d'.toList++junk⟩ e (0,0))],h3,⟨rfl,d'.toList,?_,?_,rfl⟩,?_⟩
    · have h4:=hp.2.2
      have e1:d'.extract 0 rs.length=d':=by rw [← hds];simp
      have e2:rs.toArray.extract 0 rs.length=rs.toArray:=by rw [← e0];simp
      rw [e1,e2] at h4
      exact h4
    · refine List.pairwise_iff_getElem.2 fun i j hi hj hij=>?_
      have h4:=hs i j (Nat.zero_le _) hij (by simp at hj ⊢;omega)
      simp only [ltOf,decide_eq_false_iff_not] at h4
      simp only [Array.length_toList] at hi hj
      rw [getElem!_pos d' i (by omega),getElem!_pos d' j (by omega)] at h4
      exact h4
    · rw [hw']
      exact hw.upd .head g1 g2⟩
end
end Go.Proofs.Ytijbmkjebidanaa
set_option linter.unusedSimpArgs false
set_option linter.unusedVariables false
namespace Go.Proofs.Ytijbmkjebidanaa
open Go.RowKit Go.Shelf Go.Sort
set_option maxRecDepth 100000
theorem insC_nil (p:Option Addr) (cap:Nat) (f:Value):CallP Try.prog 94 [.slice p 0 cap,.int .i64 0,.int .i64 0,f] (.tuple #[]):=by
  refine enterP (tb:=tb) Try.func94 rfl Try.ntmps94 rfl fun w=>?_
  repeat' (first|(apply R.is1;first|(apply R.isBin;first|(apply R.pure;exact rfl;first|(apply Ok1.add64;exact rfl;exact rfl;omega;omega)|(apply Ok1.sub64;exact rfl;exact rfl;omega;omega)|(apply Ok1.lss_t;exact rfl;exact rfl;omega)|(apply Ok1.lss_f;exact rfl;exact rfl;omega)|(apply Ok1.gtr_t;exact rfl;exact rfl;omega)|(apply Ok1.gtr_f;exact rfl;exact rfl;omega))|(apply R.lss rfl rfl rfl<;>intro)|(apply R.gtr rfl rfl rfl<;>intro))|(apply R.pure;exact rfl;first|(apply Ok1.move;exact rfl)|(apply Ok1.load;exact rfl;first|(apply Ld.own1;exact rfl;exact rfl;(focus (repeat' first|exact At.head|apply At.tail|apply At.right);done);exact rfl)|(apply Ld.ownk;exact rfl;exact rfl;(focus (repeat' first|exact At.head|apply At.tail|apply At.right);done);exact rfl)|(apply Ld.old1;exact rfl;exact rfl;assumption;(first|exact List.not_mem_nil|assumption))|(apply Ld.blk1;exact rfl;exact rfl;assumption;(first|exact List.not_mem_nil|assumption);exact rfl)|(apply Ld.blkk;exact rfl;exact rfl;assumption;(first|exact List.not_mem_nil|assumption);exact rfl))|(apply Ok1.assign;exact rfl)|(apply Ok1.indexAddr;(iterate 5 exact rfl);omega;omega)|(apply Ok1.indexAddrA;(iterate 5 exact rfl);omega;omega)|(apply Ok1.pick_t;exact rfl;exact rfl)|(apply Ok1.pick_f;exact rfl;exact rfl)|(apply Ok1.pick_h;exact rfl;assumption;exact rfl)|(apply Ok1.pick_n;exact rfl;assumption;exact rfl)))|(apply R.is0;first|(apply R.store;(iterate 6 exact rfl);(focus (repeat' first|exact Upd.head|apply Upd.tail|apply Upd.right);done);exact rfl)|fail)|(apply R.isG;first|(apply R.guard_run;exact rfl;exact rfl)|(apply R.guard_not;(iterate 3 exact rfl))|(apply R.guard_not0;exact rfl;exact rfl)|(apply R.guard_un;(iterate 3 exact rfl))|(apply R.guard_un0;exact rfl;exact rfl)|(apply R.guard rfl rfl ?_ (fun h=>⟨rfl,?_⟩)<;>try intro))|apply R.nil|(apply T.is;first|apply T.rounds 2|apply T.seq|apply T.region|apply T.block|apply T.scope|apply T.label|apply T.skip|apply T.exit|apply T.ret|(apply T.cond_t;exact rfl)|(apply T.cond_f;exact rfl)|(apply T.cond_h;exact rfl;assumption)|(apply T.cond_n;exact rfl;assumption)|(apply T.cond rfl<;>intro))|apply Rnd.step)
  all_goals (apply RetOk.n)
  all_goals rfl
theorem pdqC_nil (p:Option Addr) (cap:Nat) (l:Int) (f:Value):CallP Try.prog 84 [.slice p 0 cap,.int .i64 0,.int .i64 0,.int .i64 l,f] (.tuple #[]):=by
  refine enterP (tb:=tb) Try.func84 rfl Try.ntmps84 rfl fun w=>?_
  repeat' (first|(apply R.is1;first|(apply R.isBin;first|(apply R.pure;exact rfl;first|(apply Ok1.add64;exact rfl;exact rfl;omega;omega)|(apply Ok1.sub64;exact rfl;exact rfl;omega;omega)|(apply Ok1.lss_t;exact rfl;exact rfl;omega)|(apply Ok1.lss_f;exact rfl;exact rfl;omega)|(apply Ok1.leq_t;exact rfl;exact rfl;omega)|(apply Ok1.leq_f;exact rfl;exact rfl;omega)|(apply Ok1.gtr_t;exact rfl;exact rfl;omega)|(apply Ok1.gtr_f;exact rfl;exact rfl;omega)|(apply Ok1.geq_t;exact rfl;exact rfl;omega)|(apply Ok1.geq_f;exact rfl;exact rfl;omega)|(apply Ok1.eql_t;exact rfl;exact rfl;omega)|(apply Ok1.eql_f;exact rfl;exact rfl;omega)|(apply Ok1.quo64;exact rfl;exact rfl;omega;omega;omega)|(apply Ok1.eqlP;(iterate 5 exact rfl))|(apply Ok1.eqlM;(iterate 5 exact rfl))|(apply Ok1.eqlS;(iterate 5 exact rfl)))|(apply R.lss rfl rfl rfl<;>intro)|(apply R.leq rfl rfl rfl<;>intro)|(apply R.gtr rfl rfl rfl<;>intro)|(apply R.geq rfl rfl rfl<;>intro)|(apply R.eql rfl rfl rfl<;>intro)|(apply R.eqlF;(iterate 8 exact rfl);all_goals intro))|(apply R.isCall;first|apply R.callP rfl rfl rfl (insC_nil _ _ _))|(apply R.pure;exact rfl;first|(apply Ok1.move;exact rfl)|(apply Ok1.load;exact rfl;first|(apply Ld.own1;exact rfl;exact rfl;(focus (repeat' first|exact At.head|apply At.tail|apply At.right);done);exact rfl)|(apply Ld.ownk;exact rfl;exact rfl;(focus (repeat' first|exact At.head|apply At.tail|apply At.right);done);exact rfl)|(apply Ld.old1;exact rfl;exact rfl;assumption;(first|exact List.not_mem_nil|assumption))|(apply Ld.blk1;exact rfl;exact rfl;assumption;(first|exact List.not_mem_nil|assumption);exact rfl)|(apply Ld.blkk;exact rfl;exact rfl;assumption;(first|exact List.not_mem_nil|assumption);exact rfl))|(apply Ok1.assign;exact rfl)|(apply Ok1.indexAddr;(iterate 5 exact rfl);omega;omega)|(apply Ok1.indexAddrA;(iterate 5 exact rfl);omega;omega)|(apply Ok1.extract;exact rfl;exact rfl)|(apply Ok1.pick_t;exact rfl;exact rfl)|(apply Ok1.pick_f;exact rfl;exact rfl)|(apply Ok1.pick_h;exact rfl;assumption;exact rfl)|(apply Ok1.pick_n;exact rfl;assumption;exact rfl)|(apply Ok1.not_t;exact rfl)|(apply Ok1.not_f;exact rfl)|(apply Ok1.not;exact rfl)|(apply Ok1.neg;exact rfl)))|(apply R.is0;first|fail)|(apply R.isG;first|(apply R.guard_run;exact rfl;exact rfl)|(apply R.guard_not;(iterate 3 exact rfl))|(apply R.guard_not0;exact rfl;exact rfl)|(apply R.guard_un;(iterate 3 exact rfl))|(apply R.guard_un0;exact rfl;exact rfl)|(apply R.guard rfl rfl ?_ (fun h=>⟨rfl,?_⟩)<;>try intro))|apply R.nil|(apply T.is;first|apply T.rounds 2|apply T.seq|apply T.region|apply T.block|apply T.scope|apply T.label|apply T.skip|apply T.exit|apply T.ret|(apply T.cond_t;exact rfl)|(apply T.cond_f;exact rfl)|(apply T.cond_h;exact rfl;assumption)|(apply T.cond_n;exact rfl;assumption)|(apply T.cond rfl<;>intro))|apply Rnd.step)
  all_goals (apply RetOk.n)
  all_goals rfl
theorem sortC_nil (p:Option Addr) (cap:Nat) (f:Value):CallP Try.prog 67 [.slice p 0 cap,f] (.tuple #[]):=by
  refine enterP (tb:=tb) Try.func67 rfl Try.ntmps67 rfl fun w=>?_
  repeat' (first|(apply R.is1;first|(apply R.isCall;first|apply R.callP rfl rfl rfl (len_ok _ (by omega) (by omega))|apply R.callP rfl rfl rfl (pdqC_nil _ _ _ _)|(apply R.pure;exact rfl;first|(apply Ok1.lenS;(iterate 3 exact rfl))|(apply Ok1.lenStr;(iterate 3 exact rfl))|(apply Ok1.lenMm;(iterate 3 exact rfl);(focus (repeat' first|exact At.head|apply At.tail|apply At.right);done))|(apply Ok1.lenM_nil;(iterate 3 exact rfl))))|(apply R.pure;exact rfl;first|(apply Ok1.move;exact rfl)|(apply Ok1.assign;exact rfl)|(apply Ok1.convI64;(iterate 5 exact rfl);omega;omega)|(apply Ok1.convU64;(iterate 5 exact rfl);omega;omega)|(apply Ok1.convU32;(iterate 5 exact rfl);omega;omega)|(apply Ok1.convU8;(iterate 5 exact rfl);omega;omega)|(apply Ok1.conv;(iterate 5 exact rfl))))|(apply R.is0;first|fail)|(apply R.isG;first|(apply R.guard_run;exact rfl;exact rfl)|(apply R.guard_not;(iterate 3 exact rfl))|(apply R.guard_not0;exact rfl;exact rfl)|(apply R.guard_un;(iterate 3 exact rfl))|(apply R.guard_un0;exact rfl;exact rfl)|(apply R.guard rfl rfl ?_ (fun h=>⟨rfl,?_⟩)<;>try intro))|apply R.nil|(apply T.is;first|apply T.seq|apply T.region|apply T.block|apply T.scope|apply T.label|apply T.skip|apply T.exit|apply T.ret|(apply T.cond_t;exact rfl)|(apply T.cond_f;exact rfl)|(apply T.cond_h;exact rfl;assumption)|(apply T.cond_n;exact rfl;assumption)|(apply T.cond rfl<;>intro))|apply Rnd.step)
  all_goals (apply RetOk.n)
  all_goals rfl

theorem Cl.v_len (c:Cl):c.v.length=4:=rfl
theorem swoC:SWO (ltOf cmpCl) where
  irrefl:=fun x=>by simp only [ltOf,decide_eq_false_iff_not,cmpCl_neg,ltC];omega
  trans:=fun x y z=>by simp only [ltOf,decide_eq_true_eq,cmpCl_neg,ltC];omega
  ntrans:=fun x y z=>by simp only [ltOf,decide_eq_false_iff_not,cmpCl_neg,ltC];omega
theorem sortC_ok (rs:List Cl) (hlen:rs.length≤1000) (ov:Ov) (hov:OvOk 4 ov rs.length (fl Cl.v rs)) (w:World) :
    CallM Try.prog 67 [slV ov rs.length,.func (.func 68) #[] #[]] (blkL 34 ov (fl Cl.v rs)) w fun v L=>v = .tuple #[]∧∃ rs',rs'.Perm rs∧Asc cmpCl rs' ∧ L=blkL 34 ov (fl Cl.v rs'):=by
  cases ov with
  | none =>
    have h0:rs.length=0:=hov.2
    have:rs=[]:=by cases rs;rfl;simp at h0
    subst this
    exact ⟨fun hw=>((sortC_nil none 0 _).run w).mono fun e' w' ⟨h1,h2⟩=>⟨_,_,h1,⟨rfl,[],.refl _,.nil,rfl⟩,hw.step h2⟩⟩
  | some x =>
    obtain ⟨b,j,junk⟩:=x
    exact sort_ok Try.sortC (fun w=>(tb.get (t:=34) rfl).agg rfl w) (tb.get (t:=34) rfl).size Cl.v_len (fun x v hv=>by
      simp only [Cl.v,List.mem_cons,List.not_mem_nil,or_false] at hv
      rcases hv with rfl|rfl|rfl|rfl<;>rfl) _ swoC 68 [] rfl b _ rs junk _ w (tb.ent rfl) (by omega)
      (fun W hW x y=>(compare_ok x y).at W)
end Go.Proofs.Ytijbmkjebidanaa
