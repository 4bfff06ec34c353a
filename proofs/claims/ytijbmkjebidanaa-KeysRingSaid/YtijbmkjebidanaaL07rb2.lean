/- Texts of the proof: S0, Eng21, Eng24, Eng26, Tab, Dg1, Dg2, Dg3, Dg4, Dg5. -/
import Derived.Test.YtijbmkjebidanaaL07rb1
import Derived.Test.YtijbmkjebidanaaProg
set_option linter.unusedSimpArgs false
set_option linter.unusedVariables false
namespace Go.Proofs.Ytijbmkjebidanaa
open Go.RowKit Go.Shelf
def wr (i:Int):Int:=IntKind.u32.wrap i
theorem wr_mod (i:Int):wr i=i % 4294967296:=by simp [wr,IntKind.wrap,IntKind.bits,IntKind.signed]
theorem wr_in {i:Int} (h1:0≤i) (h2:i≤4294967295):wr i=i:=by rw [wr_mod];omega
theorem wr_bv (v:BitVec 32):IntKind.u32.wrap (v.toNat:Int)=v.toNat:=by
  have:=v.isLt
  exact wr_in (i:=(v.toNat:Int)) (by omega) (by omega)
theorem orI_nat (a b:Int):orI .u32 a b=(BitVec.ofInt 32 a ||| BitVec.ofInt 32 b).toNat:=wr_bv (BitVec.ofInt 32 a ||| BitVec.ofInt 32 b)
def rotr (x p q:Int):Int:=orI .u32 (wr (x * q)) (x / p)
def turned (x p1 q1 p2 q2 p3 q3:Int):Int:=xorI .u32 (xorI .u32 (rotr x p1 q1) (rotr x p2 q2)) (rotr x p3 q3)
def chI (a b c:Int):Int:=xorI .u32 (andI .u32 a b) (andI .u32 (xorI .u32 4294967295 a) c)
def majI (a b c:Int):Int:=xorI .u32 (xorI .u32 (andI .u32 a b) (andI .u32 a c)) (andI .u32 b c)
/-- Four bytes,the highest first. -/
def wordI (a b c d:Int):Int:=a * 16777216+b * 65536+c * 256+d
theorem or_nat (a b:Nat) (i:Nat) (h:b < 2 ^ i) (h2:2 ^ i * a+b < 4294967296):(BitVec.ofNat 32 (2 ^ i * a) ||| BitVec.ofNat 32 b)=BitVec.ofNat 32 (2 ^ i * a+b):=by
  apply BitVec.eq_of_toNat_eq
  have h3:2 ^ i * a < 4294967296:=by omega
  have h4:b < 4294967296:=by
    have:0≤2 ^ i * a:=Nat.zero_le _
    omega
  rw [BitVec.toNat_or,BitVec.toNat_ofNat,BitVec.toNat_ofNat,BitVec.toNat_ofNat,Nat.mod_eq_of_lt h3,Nat.mod_eq_of_lt h4,Nat.mod_eq_of_lt h2,Nat.two_pow_add_eq_or_of_lt h]
theorem orI_add {x y:Int} (a b i:Nat) (hx:x=(2 ^ i * a:Nat)) (hy:y=b) (h:b < 2 ^ i) (h2:2 ^ i * a+b < 4294967296):orI .u32 x y=x+y:=by
  subst hx;subst hy
  rw [orI_nat,BitVec.ofInt_natCast,BitVec.ofInt_natCast,or_nat a b i h h2,BitVec.toNat_ofNat,Nat.mod_eq_of_lt h2]
  omega
theorem word_or {a b c d:Int} (ha:0≤a∧a≤255) (hb:0≤b∧b≤255) (hc:0≤c∧c≤255) (hd:0≤d∧d≤255):orI .u32 (orI .u32 (orI .u32 (wr (a * 16777216)) (wr (b * 65536))) (wr (c * 256))) d=wordI a b c d:=by
  rw [wr_in (i:=a * 16777216) (by omega) (by omega),wr_in (i:=b * 65536) (by omega) (by omega),wr_in (i:=c * 256) (by omega) (by omega)]
  have h1:orI .u32 (a * 16777216) (b * 65536)=a * 16777216+b * 65536:=orI_add (a.toNat) (b.toNat * 65536) 24 (by omega) (by omega) (by omega) (by omega)
  have h2:orI .u32 (a * 16777216+b * 65536) (c * 256)=a * 16777216+b * 65536+c * 256:=orI_add (a.toNat * 256+b.toNat) (c.toNat * 256) 16 (by omega) (by omega) (by omega) (by omega)
  have h3:orI .u32 (a * 16777216+b * 65536+c * 256) d=a * 16777216+b * 65536+c * 256+d:=orI_add (a.toNat * 65536+b.toNat * 256+c.toNat) d.toNat 8 (by omega) (by omega) (by omega) (by omega)
  rw [h1,h2,h3]
  rfl
structure H8 where
  a:Int
  b:Int
  c:Int
  d:Int
  e:Int
  f:Int
  g:Int
  h:Int
def H8.l (s:H8):List Int:=[s.a,s.b,s.c,s.d,s.e,s.f,s.g,s.h]
def u32s (l:List Int):List Value:=l.map (.int .u32)
def u8s (l:List Int):List Value:=l.map (.int .u8)
def H8.v (s:H8):List Value:=u32s s.l
def oneI (s:H8) (k w:Int):Int:=wr (wr (wr (wr (s.h+turned s.e 64 67108864 2048 2097152 33554432 128)+chI s.e s.f s.g)+k)+w)
def twoI (s:H8):Int:=wr (turned s.a 4 1073741824 8192 524288 4194304 1024+majI s.a s.b s.c)
def stepI (s:H8) (k w:Int):H8:=⟨wr (oneI s k w+twoI s),s.a,s.b,s.c,wr (s.d+oneI s k w),s.e,s.f,s.g⟩
def addH (s t:H8):H8:=⟨wr (s.a+t.a),wr (s.b+t.b),wr (s.c+t.c),wr (s.d+t.d),wr (s.e+t.e),wr (s.f+t.f),wr (s.g+t.g),wr (s.h+t.h)⟩
/-- The words of a block's bytes b. -/
def nextI (b l:List Int):Int :=
  if l.length < 16 then wordI (b.getD (4 * l.length) 0) (b.getD (4 * l.length+1) 0) (b.getD (4 * l.length+2) 0) (b.getD (4 * l.length+3) 0)
  else wr (wr (wr (l.getD (l.length - 16) 0+xorI .u32 (xorI .u32 (rotr (l.getD (l.length - 15) 0) 128 33554432) (rotr (l.getD (l.length - 15) 0) 262144 16384)) (l.getD (l.length - 15) 0 / 8))+l.getD (l.length - 7) 0)
    + xorI .u32 (xorI .u32 (rotr (l.getD (l.length - 2) 0) 131072 32768) (rotr (l.getD (l.length - 2) 0) 524288 8192)) (l.getD (l.length - 2) 0 / 1024))
def schedI (b:List Int):Nat→List Int
  | 0=>[]
  | i+1=>schedI b i++[nextI b (schedI b i)]
theorem sched_len (b:List Int) (i:Nat):(schedI b i).length=i:=by
  induction i with
  | zero=>rfl
  | succ i ih=>simp [schedI,ih]
def roundsI (K W:List Int) (s:H8):Nat→H8
  | 0=>s
  | i+1=>stepI (roundsI K W s i) (K.getD i 0) (W.getD i 0)
def mixI (K b:List Int) (s:H8):H8:=addH s (roundsI K (schedI b 64) s 64)
/-- All whole blocks. -/
def allI (K:List Int):Nat→List Int→H8→H8
  | 0,_,s=>s
  | n+1,b,s=>allI K n (b.drop 64) (mixI K (b.take 64) s)
def h0I:H8:=⟨1779033703,3144134277,1013904242,2773480762,1359893119,2600822924,528734635,1541459225⟩
def kI:List Int:=[1116352408,1899447441,3049323471,3921009573,961987163,1508970993,2453635748,2870763221,3624381080,310598401,607225278,1426881987,1925078388,2162078206,2614888103,3248222580,3835390401,4022224774,264347078,604807628,770255983,1249150122,1555081692,1996064986,2554220882,2821834349,2952996808,3210313671,3336571891,3584528711,113926993,338241895,666307205,773529912,1294757372,1396182291,1695183700,1986661051,2177026350,2456956037,2730485921,2820302411,3259730800,3345764771,3516065817,3600352804,4094571909,275423344,430227734,506948616,659060556,883997877,958139571,1322822218,1537002063,1747873779,1955562222,2024104815,2227730452,2361852424,2428436474,2756734187,3204031479,3329325298]
def lenI (n:Int):List Int:=[n / 72057594037927936 % 256,n / 281474976710656 % 256,n / 1099511627776 % 256,n / 4294967296 % 256,n / 16777216 % 256,n / 65536 % 256,n / 256 % 256,n % 256]
/-- What stands behind n bytes: a sign,zeros,the length. -/
def padI (n:Nat):List Int:=128::(List.replicate ((119 - n % 64) % 64) 0++lenI (8 * n))
def outI (s:H8):List Int:=s.l.flatMap fun x=>[x / 16777216 % 256,x / 65536 % 256,x / 256 % 256,x % 256]
def shaI (b:List Int):List Int:=outI (allI kI ((b++padI b.length).length / 64) (b++padI b.length) h0I)
theorem out_len (s:H8):(outI s).length=32:=by simp [outI,H8.l]
theorem sha_len (b:List Int):(shaI b).length=32:=out_len _
theorem kI_len:kI.length=64:=rfl

theorem allI_add (K:List Int) (j:Nat):∀ (i:Nat) (b:List Int) (s:H8),allI K (i+j) b s=allI K j (b.drop (64 * i)) (allI K i b s)
  | 0,b,s=>by simp [allI]
  | i+1,b,s=>by
    rw [show i+1+j=(i+j)+1 by omega,allI,allI_add K j i,allI,List.drop_drop,show 64+64 * i=64 * (i+1) by omega]
theorem allI_app (K:List Int):∀ (i:Nat) (b c:List Int) (s:H8),64 * i≤b.length→allI K i (b++c) s=allI K i b s
  | 0,_,_,_,_=>rfl
  | i+1,b,c,s,h=>by
    rw [allI,allI,List.drop_append_of_le_length (by omega),List.take_append_of_le_length (by omega)]
    exact allI_app K i _ c _ (by rw [List.length_drop];omega)
/-- The words and what is left,once bytes b have come. -/
def wordsI (b:List Int):H8:=allI kI (b.length / 64) b h0I
def leftI (b:List Int):List Int:=b.drop (64 * (b.length / 64))
theorem left_len (b:List Int):(leftI b).length=b.length % 64:=by unfold leftI;rw [List.length_drop];omega
theorem feed (b x:List Int):allI kI ((leftI b++x).length / 64) (leftI b++x) (wordsI b)=wordsI (b++x)∧(leftI b++x).drop (64 * ((leftI b++x).length / 64))=leftI (b++x):=by
  have hl:=left_len b
  have hd:leftI b++x=(b++x).drop (64 * (b.length / 64)):=by
    unfold leftI;rw [List.drop_append_of_le_length (by omega)]
  have hn:(b++x).length / 64=b.length / 64+(leftI b++x).length / 64:=by
    rw [List.length_append,List.length_append,hl];omega
  constructor
  · unfold wordsI
    rw [hn,allI_add,← hd,allI_app kI _ b x _ (by omega)]
  · conv=>rhs;unfold leftI
    rw [hn,Nat.mul_add,← List.drop_drop,← hd]
theorem sha_words (b:List Int):shaI b=outI (wordsI (b++padI b.length)):=rfl
set_option linter.unusedSectionVars false
theorem fl_app {α:Type} (v:α→List Value) (xs ys:List α):fl v (xs++ys)=fl v xs++fl v ys:=by simp [fl]
section
variable {X:Cx} {σ:Env} {L Lr:Lst} {dd:Nat} {ty:TypeId} {pos:String} {af:Array Edge} {x y:Operand} {t t2 e:TypeId} {r r2 re:TRow}
variable {all:Array Oper} {rest:List Oper} {K:Env→Lst→Prop}
theorem append_none {P:Program} (tb:Tb P) {w:World} {ov:Ov} {n cap2 e2:Nat} {p2:Option Addr} (ht:tb.row t=some r) (hk:r.k = .slice e) (he:tb.row e=some re) (ht2:tb.row t2=some r2) (hk2:r2.k = .slice e2) (hn:ov=none→n=0) :
    (Builtin.append_ #[t,t2] ty #[slV ov n,.slice p2 0 cap2]).run P w = .ok (slV ov n) w:=by
  have hu:P.underlying t=some (.slice e):=by have:=(tb.get ht).is;rw [hk] at this;exact this
  have hu2:P.underlying t2=some (.slice e2):=by have:=(tb.get ht2).is;rw [hk2] at this;exact this
  have hf:(Builtin.firstCells re.size 0 (.slice p2 0 cap2)).run P w = .ok #[] w:=by
    cases p2<;>simp [Builtin.firstCells,loadCells,loadCellsFrom]
  unfold Builtin.append_
  cases ov with
  | none =>
    simp [slV,run_underlying hu,run_underlying hu2,(tb.get he).size,Builtin.lenOf,hf]
  | some q =>
    obtain ⟨b,j,junk⟩:=q
    simp [slV,run_underlying hu,run_underlying hu2,(tb.get he).size,Builtin.lenOf,hf,storeCells]
theorem append_none' {P:Program} (tb:Tb P) {w:World} {ov:Ov} {n e2:Nat} {s2:Value} (ht:tb.row t=some r) (hk:r.k = .slice e) (he:tb.row e=some re) (ht2:tb.row t2=some r2) (hk2:r2.k = .slice e2) (hn:ov=none→n=0) (hs2:Builtin.lenOf s2=Pure.pure 0) (hh:Holds w s2 []) :
    (Builtin.append_ #[t,t2] ty #[slV ov n,s2]).run P w = .ok (slV ov n) w:=by
  have hu:P.underlying t=some (.slice e):=by have:=(tb.get ht).is;rw [hk] at this;exact this
  have hu2:P.underlying t2=some (.slice e2):=by have:=(tb.get ht2).is;rw [hk2] at this;exact this
  have hf:(Builtin.firstCells re.size 0 s2).run P w = .ok #[] w:=first_run hh (by simp)
  unfold Builtin.append_
  cases ov with
  | none =>
    simp [slV,run_underlying hu,run_underlying hu2,(tb.get he).size,hs2,hf]
  | some q =>
    obtain ⟨b,j,junk⟩:=q
    simp [slV,run_underlying hu,run_underlying hu2,(tb.get he).size,hs2,hf,storeCells]
/-- append(s,y...): s a slice of one's own,y any slice of which is known what it holds. -/
theorem R.appendH {ov:Ov} {n m e2:Nat} {old news zc:List Value} {s2:Value} (hn:Nat.blt dd X.n=true) (ht:X.tb.row t=some r) (hk:r.k = .slice e) (he:X.tb.row e=some re) (hz:cellsE re.zero=some zc) (hzl:zc.length=re.size) (ht2:X.tb.row t2=some r2) (hk2:r2.k = .slice e2) (hb1:Nat.ble 1 re.bytes=true) (hb2:Nat.ble re.bytes 65536=true)
    (hx:ev σ x=some (slV ov n)) (hy:ev σ y=some s2) (hs2:Builtin.lenOf s2=Pure.pure m) (hok:OvOk re.size ov n old) (hp:Ext L (blkL e ov old) Lr) (hh:∀ w,Hp X.w0 X.S L w→Holds w s2 news) (hlen:news.length=m * re.size)
    (h1:news.all Value.oneCell'=true) (hbig:n+m≤1073741824)
    (h:∀ ov',OvOk re.size ov' (n+m) (old++news)→R X all rest K ((dd,slV ov' (n+m))::σ) (blkL e ov' (old++news)++Lr)) :
    R X all (⟨some dd,.call { callee:=.builtin .append,args:=#[x,y],argTypes:=#[t,t2] },ty,pos,af,none⟩::rest) K σ L :=
  R.value rfl rfl hn fun a w ha hw=>by
    have hw2:=hw.perm hp.perm
    rcases Nat.eq_zero_or_pos m with h0|h0
    · subst h0
      have hnews:news=[]:=by cases news;rfl;simp at hlen
      subst hnews
      have hrun:=append_none' X.tb (w:=w) (ty:=ty) (n:=n) (ov:=ov) ht hk he ht2 hk2 (fun e=>by subst e;exact hok.2) hs2 (hh w hw)
      refine ⟨slV ov n,w,blkL e ov (old++[])++Lr,?_,by rw [List.append_nil];exact hw2,h ov (by rw [List.append_nil];exact hok)⟩
      simp [execOp,resolve,ha.ev hx,ha.ev hy,invoke,builtin,hrun]
    · have h3:=Nat.le_of_ble_eq_true hb2
      have hbig':(2 * (n+m)+768) * re.bytes≤281474976710656:=by
        have:=Nat.mul_le_mul (show 2 * (n+m)+768≤2147484416 by omega) h3
        omega
      obtain ⟨b',j',junk',w',g1,g2,g3⟩:=append_run X.tb (ty:=ty) ht hk he hz hzl ht2 hk2 hw2 (OwnAt.mid hok) hs2 (hh w hw) hlen h1 h0 hbig' (Nat.le_of_ble_eq_true hb1)
      refine ⟨slV (some (b',j',junk')) (n+m),w',_,?_,g3,h (some (b',j',junk')) ⟨by rw [List.length_append,hok.1,hlen,Nat.add_mul],g1⟩⟩
      simp [execOp,resolve,ha.ev hx,ha.ev hy,invoke,builtin,g2]
      rfl
theorem R.buildSlice0 (hn:Nat.blt dd X.n=true) (ht:X.tb.row t=some r) (hk:r.k = .slice e) (he:X.tb.row e=some re)
    (h:∀ b,R X all rest K ((dd,slV (some (b,0,[])) 0)::σ) ((b,.cells ⟨[]⟩ e (0,0))::L)):R X all (⟨some dd,.buildSlice t 0 #[],ty,pos,af,none⟩::rest) K σ L :=
  R.value rfl rfl hn fun a w ha hw=>by
    refine ⟨.slice (some ⟨w.heap.size,0,none⟩) 0 0,w.alloc (.cells ⟨[]⟩ e (0,0)),_,?_,hw.alloc _,h _⟩
    have h2:=(X.tb.get ht).is
    rw [hk] at h2
    simp only [TK.is] at h2
    have h3:Array.range 0 = #[]:=by apply Array.toList_inj.1;simp
    simp [execOp,Instr.buildSlice,run_underlying h2,(X.tb.get he).size,Instr.fill,newRow,run_newObj,h3]
theorem Ok1.neqB {d:Option Nat} {g:Option (Nat × Bool)} {ty2:TypeId} {b:Bool} (ht:X.tb.row t=some r) (hk:r.k = .bool) (hx:ev σ x=some (.bool b)) (hy:ev σ y=some (.bool b)):Ok1 X ⟨d,.binOp .neq t x y ty2,ty,pos,af,g⟩ σ L (.bool false):=.mk fun a w ha hw=>by
  have hu:X.P.underlying t=some .bool:=by have:=(X.tb.get ht).is;rw [hk] at this;exact this
  have hE:∀ n,(Op.equalIn (n+1) t (.bool b) (.bool b)).run X.P w = .ok true w:=by
    intro n
    rw [Op.equalIn]
    simp [run_underlying hu]
  obtain ⟨n,hm⟩:∃ n,Op.maxDepth=n+1:=⟨_,rfl⟩
  simp [execOp,ha.ev hx,ha.ev hy,eqGuard,binOp,Op.equal,hm,hE]
theorem R.make1 {n:Nat} {k k':IntKind} {z':Value} (hn:Nat.blt dd X.n=true) (ht:X.tb.row t=some r) (hk:r.k = .slice e) (he:X.tb.row e=some re) (hz:cellsE re.zero=some [z']) (hs:Nat.beq re.size 1=true) (hb:Nat.ble re.bytes 65536=true)
    (hx:ev σ x=some (.int k n)) (hy:ev σ y=some (.int k' n)) (hle:n≤1073741824)
    (h:∀ b,R X all rest K ((dd,.slice (some ⟨b,0,none⟩) n n)::σ) ((b,.cells ⟨List.replicate n z'⟩ e (0,0))::L)):R X all (⟨some dd,.makeSlice t x y,ty,pos,af,none⟩::rest) K σ L :=
  R.value rfl rfl hn fun a w ha hw=>by
    have hu:X.P.underlying t=some (.slice e):=by have:=(X.tb.get ht).is;rw [hk] at this;exact this
    obtain ⟨i,hi,hib⟩:∃ i,X.P.info? e=some i∧i.bytes=re.bytes:=by
      have:=(X.tb.get he).bytes
      cases h:X.P.info? e with
      | none=>rw [h] at this;cases this
      | some i=>rw [h] at this;exact ⟨i,rfl,by simpa using this⟩
    have hti:∀ w,(typeInfo e).run X.P w = .ok i w:=fun w=>by simp [typeInfo,hi]
    have hzc:=cellsE_eq hz
    have hs1:=Nat.eq_of_beq_eq_true hs
    have hb1:=Nat.le_of_ble_eq_true hb
    have hwr:IntKind.i64.wrap (n:Int)=n:=IntWalk.i64_in _ ⟨by omega,by omega⟩
    have hlt:¬ ((re.bytes:Int) * (n:Int) > 2 ^ 48):=by
      have:re.bytes * n≤65536 * 1073741824:=Nat.mul_le_mul hb1 hle
      have h9:((re.bytes * n:Nat):Int)=(re.bytes:Int) * (n:Int):=by simp
      have h10:(2:Int) ^ 48=281474976710656:=by decide
      omega
    have hcells:(Array.range (n * 1)).map (fun i=>(Array.mk [z'])[i % (Array.mk [z']).size]!)=(⟨List.replicate n z'⟩:Array Value):=by
      apply Array.ext_getElem?
      intro j
      by_cases hj:j < n<;>simp [Array.getElem?_map,Array.getElem?_range,List.getElem?_replicate,hj,Nat.mod_one]
    refine ⟨.slice (some ⟨w.heap.size,0,none⟩) n n,w.alloc (.cells ⟨List.replicate n z'⟩ e (0,0)),_,?_,hw.alloc _,h _⟩
    have hai:∀ (k:IntKind) (w:World),(asInt (.int k n)).run X.P w = .ok (n:Int) w:=fun k w=>by simp [asInt,asIntOf]
    have hlt':¬ (2 ^ 48 < (re.bytes:Int) * (n:Int)):=hlt
    simp only [execOp,ha.ev hx,ha.ev hy,Instr.makeSlice,Sem.run_bind,run_underlying hu,Result.andThen_ok,hai,hti,hib,hwr,gt_iff_lt,hlt',show ¬ ((n:Int) < 0) by omega,Int.lt_irrefl,decide_false,Bool.or_self,Bool.false_eq_true,if_false,Sem.run_pure,run_askRoom,(X.tb.get he).size,hs1,Int.toNat_natCast,newRow,run_newObj]
    by_cases h0:n=0
    · subst h0
      have h3:Array.range (0 * 1) = #[]:=by apply Array.toList_inj.1;simp
      simp [h3]
    · have hne:¬ n * 1=0:=by omega
      simp only [if_neg hne,Sem.run_bind,(X.tb.get he).zero,hzc,Result.andThen_ok,Sem.run_pure,run_newObj,hcells]
      rfl
end
section
variable {X:Cx} {all:Array Oper} {C:Lst} {fuel:Nat} {listed:Array Bool} {K:Env→Lst→Prop} {σ:Env}
end
section
variable {α:Type} {v:α→List Value} {sz:Nat}
theorem fl_takeG (hv:∀ a,(v a).length=sz) (l:List α) (i:Nat):(fl v l).take (i * sz)=fl v (l.take i):=by
  induction l generalizing i with
  | nil=>simp [fl]
  | cons a l ih =>
    cases i with
    | zero=>simp [fl]
    | succ i =>
      have:=ih i
      simp only [fl,List.map_cons,List.flatten_cons,List.take_succ_cons] at this ⊢
      rw [Nat.add_mul,List.take_append,← this,hv,List.take_of_length_le (by rw [hv];omega)]
      congr 2
      omega
theorem fl_dropG (hv:∀ a,(v a).length=sz) (l:List α) (i:Nat):(fl v l).drop (i * sz)=fl v (l.drop i):=by
  induction l generalizing i with
  | nil=>simp [fl]
  | cons a l ih =>
    cases i with
    | zero=>simp [fl]
    | succ i =>
      have:=ih i
      simp only [fl,List.map_cons,List.flatten_cons,List.drop_succ_cons] at this ⊢
      rw [Nat.add_mul,List.drop_append,← this,hv,List.drop_of_length_le (by rw [hv];omega),List.nil_append]
      congr 1
      omega
theorem fl_cut (l:List α) {i:Nat} {x:α} (h:l[i]? = some x):fl v l=fl v (l.take i)++(v x++fl v (l.drop (i+1))):=by
  obtain ⟨hi,rfl⟩:=List.getElem?_eq_some_iff.1 h
  conv=>lhs;rw [← List.take_append_drop i l,List.drop_eq_getElem_cons hi]
  simp only [fl,List.map_append,List.map_cons,List.flatten_append,List.flatten_cons]
theorem fl_set (l:List α) {i:Nat} (a:α) (h:i < l.length):fl v (l.set i a)=fl v (l.take i)++(v a++fl v (l.drop (i+1))):=by
  have h1:(l.set i a)[i]? = some a:=by simp [h]
  rw [fl_cut _ h1]
  congr 2
  · rw [List.take_set_of_le (Nat.le_refl _)]
  · congr 1
    rw [List.drop_set_of_lt (by omega)]
/-- A whole row written. -/
theorem setE_row (hv:∀ a,(v a).length=sz) {l:List α} {i:Nat} (hi:i < l.length) (a:α) (junk:List Value):setE (fl v l++junk) (0+i * sz) (v a)=some (fl v (l.set i a)++junk):=by
  have h1:l[i]? = some l[i]:=List.getElem?_eq_getElem hi
  rw [fl_cut l h1,fl_set l a hi]
  have hl:(fl v (l.take i)).length=0+i * sz:=by rw [fl_len hv,List.length_take,Nat.min_eq_left (by omega)];omega
  have:=setE_mid (fl v (l.take i)) (vs:=v a) (junk:=v l[i]++fl v (l.drop (i+1))++junk) (by rw [List.length_append,List.length_append,hv,hv];omega)
  rw [hl] at this
  have e:fl v (l.take i)++(v l[i]++fl v (l.drop (i+1)))++junk=fl v (l.take i)++(v l[i]++fl v (l.drop (i+1))++junk):=by simp only [List.append_assoc]
  rw [e,this]
  congr 1
  rw [show (v l[i]++fl v (l.drop (i+1))++junk).drop (v a).length=fl v (l.drop (i+1))++junk by rw [List.append_assoc,List.drop_append,hv,List.drop_of_length_le (by rw [hv];omega),hv,Nat.sub_self];rfl]
  simp only [List.append_assoc]
end
theorem setE_one {v:Value}:∀ {cs:List Value} {o:Nat},o < cs.length→setE cs o [v]=some (cs.set o v)
  | [],o,h=>by simp at h
  | c::cs,0,h=>by cases cs<;>simp [setE]
  | c::cs,o+1,h=>by simp [setE,setE_one (by simpa using h)]
theorem RdSl.ofMem {α:Type} {v:α→List Value} {rs:List α} {w0 w:World} {S:List Nat} {L:Lst} {b:Nat} {e:TypeId} {fz:Nat × Nat} {cs junk:List Value} (hw:Hp w0 S L w) (hm:(b,Obj.cells ⟨cs⟩ e fz)∈L) (hc:cs=fl v rs++junk):RdSl w (some ⟨b,0,none⟩) v rs:=by
  subst hc
  right
  refine ⟨b,0,rfl,fun k hk=>?_⟩
  have:=hw.get b _ hm
  simp only [World.cell?,this]
  simp [hk,List.getElem?_append_left]
theorem fl_oneG {α:Type} {v:α→List Value} (h:∀ a,(v a).all Value.oneCell'=true) (rs:List α):(fl v rs).all Value.oneCell'=true:=by
  rw [List.all_eq_true]
  intro x hx
  obtain ⟨l,hl,hx⟩:=List.mem_flatten.1 hx
  obtain ⟨r,_,rfl⟩:=List.mem_map.1 hl
  exact List.all_eq_true.1 (h r) x hx
theorem subE_app:∀ (xs junk:List Value) {n:Nat},xs.length=n→subE (xs++junk) 0 n=some xs
  | [],junk,n,h=>by simp at h;subst h;cases junk<;>rfl
  | x :: xs,junk,n,h=>by
    cases n with
    | zero=>simp at h
    | succ n =>
      have:=subE_app xs junk (n:=n) (by simpa using h)
      simp only [List.cons_append,subE,this]
theorem subE_all {xs:List Value} {n:Nat} (h:xs.length=n):subE xs 0 n=some xs:=by
  have:=subE_app xs [] h
  rwa [List.append_nil] at this
theorem setE_all {cs vs:List Value} (h:vs.length=cs.length):setE cs 0 vs=some vs:=by
  have:=setE_mid [] (vs:=vs) (junk:=cs) (by omega)
  simpa [h] using this
/-- Where a slice's last ones lie. -/
def sufP (p:Option Addr) (cap i sz:Nat):Option Addr:=if cap=i then p else p.map (·.add (i * sz))
section
variable {α:Type} {v:α→List Value} {sz:Nat} {xs:List α} {w:World} {p:Option Addr}
theorem RdSl.suf (hv:∀ a,(v a).length=sz) (h:RdSl w p v xs) {cap i:Nat} (h1:i≤xs.length) (h2:xs.length≤cap):RdSl w (sufP p cap i sz) v (xs.drop i):=by
  by_cases hc:cap=i
  · left;exact List.drop_eq_nil_of_le (by omega)
  · rcases h with h|⟨b,o,rfl,h⟩
    · left;rw [h];exact List.drop_nil
    · right
      refine ⟨b,o+i * sz,by simp [sufP,hc,Addr.add_none],fun k hk=>?_⟩
      rw [← fl_dropG hv] at hk ⊢
      rw [List.length_drop] at hk
      rw [List.getElem?_drop,← h (i * sz+k) (by omega),Nat.add_assoc]
theorem RdSl.pre (hv:∀ a,(v a).length=sz) (h:RdSl w p v xs) (i:Nat):RdSl w p v (xs.take i):=by
  rcases h with h|⟨b,o,rfl,h⟩
  · left;rw [h];exact List.take_nil
  · right
    refine ⟨b,o,rfl,fun k hk=>?_⟩
    rw [← fl_takeG hv] at hk ⊢
    rw [List.length_take] at hk
    rw [List.getElem?_take,if_pos (by omega)]
    exact h k (by omega)
theorem Off.suf {S:List Nat} (h:Off p S) (cap i sz:Nat):Off (sufP p cap i sz) S:=by
  intro a ha
  unfold sufP at ha
  split at ha
  · exact h a ha
  · cases p with
    | none=>cases ha
    | some a0 =>
      simp only [Option.map_some,Option.some.injEq] at ha
      subst ha
      have:=h a0 rfl
      unfold Addr.add
      split<;>exact this
theorem RdSl.chg' {w':World} {S:List Nat} (h:RdSl w p v xs) (hc:Chg S w w') (ho:xs≠[]→Off p S):RdSl w' p v xs:=by
  by_cases hx:xs=[]
  · exact .inl hx
  · exact h.chg hc (ho hx)
/-- What is old lies in none of the blocks that are one's own. -/
theorem RdSl.old {w':World} {S:List Nat} {L Li Lr:Lst} (hv:∀ a,(v a).length=sz) (hs:1≤sz) (h:RdSl w p v xs) (ho:xs≠[]→Off p S) (hw:Hp w S L w') (he:Ext L Li Lr):xs≠[]→Off p (blks Li):=by
  intro hx a ha hm
  rcases h with h|⟨b,o,hp,h⟩
  · exact hx h
  · rw [hp] at ha
    cases ha
    obtain ⟨⟨b',ob⟩,hmem,hb'⟩:=List.mem_map.1 hm
    simp only at hb'
    subst hb'
    rcases hw.own b' ob (he.mem _ hmem) with h1|h1
    · have h2:0 < (fl v xs).length:=by
        rw [fl_len hv]
        have:0 < xs.length:=List.length_pos_iff.2 hx
        exact Nat.mul_pos this hs
      have h3:=h 0 h2
      rw [List.getElem?_eq_getElem h2] at h3
      simp only [World.cell?] at h3
      have h4:w.heap[b']? = none:=Array.getElem?_eq_none h1
      rw [h4] at h3
      simp at h3
    · exact ho hx _ hp h1
theorem RdSl.holds {n cap:Nat} (h:RdSl w p v xs) (hne:xs≠[]):Holds w (.slice p n cap) (fl v xs):=by
  rcases h with h|⟨b,o,rfl,h⟩
  · exact absurd h hne
  · exact fun i hi=>h i hi
end
section
variable {X:Cx} {σ:Env} {L Lr:Lst} {d:Option Nat} {dd:Nat} {ty:TypeId} {pos:String} {af:Array Edge} {g:Option (Nat × Bool)} {x y:Operand} {t t2 e:TypeId} {r r2 re:TRow}
variable {all:Array Oper} {rest:List Oper} {K:Env→Lst→Prop} {p:Option Addr} {n cap i:Nat}
theorem Ok1.sufR {lo:Operand} {sz:Nat} (ht:X.tb.row t=some r) (hk:r.k = .slice e) (he:X.tb.row e=some re) (hsz:re.size=sz) (hx:ev σ x=some (.slice p n cap)) (hh:ev σ lo=some (.int .i64 i)) (h1:i≤n) (h2:n≤cap) :
    Ok1 X ⟨d,.slice t x (some lo) none none,ty,pos,af,g⟩ σ L (.slice (sufP p cap i sz) (n - i) (cap - i)):=.mk fun a w ha hw=>by
  subst hsz
  rw [slice_run (l:=(i:Int)) (h:=(n:Int)) (m:=(cap:Int)) X.tb ht hk he ha hx rfl rfl (by simp [bd,hh]) (by omega) (by omega) (by omega) (by omega) (.inl rfl)]
  simp [sufP]
theorem Ok1.preR {hi:Operand} (ht:X.tb.row t=some r) (hk:r.k = .slice e) (he:X.tb.row e=some re) (hx:ev σ x=some (.slice p n cap)) (hh:ev σ hi=some (.int .i64 i)) (h1:i≤cap) :
    Ok1 X ⟨d,.slice t x none (some hi) none,ty,pos,af,g⟩ σ L (.slice p i cap):=.mk fun a w ha hw=>by
  rw [slice_run (l:=0) (h:=(i:Int)) (m:=(cap:Int)) X.tb ht hk he ha hx rfl (by simp [bd,hh]) rfl (by omega) (by omega) (by omega) (by omega) (.inl rfl)]
  have:p.map (·.add (0 * re.size))=p:=by cases p<;>simp [Addr.add]
  simp only [Int.toNat_zero,this,ite_self,Int.toNat_natCast,Nat.sub_zero]
theorem Ok1.capS (ht:X.tb.row t=some r) (hk:r.k = .slice e) (hx:ev σ x=some (.slice p n cap)):Ok1 X ⟨d,.call { callee:=.builtin .cap,args:=#[x],argTypes:=#[t] },ty,pos,af,g⟩ σ L (.int .i64 cap):=.mk fun a w ha hw=>by
  have h2:=(X.tb.get ht).is
  rw [hk] at h2
  simp only [TK.is] at h2
  simp [execOp,resolve,ha.ev hx,invoke,builtin,Builtin.cap_,run_underlying h2,goInt]
/-- append(s,y...): s a slice of one's own,y one that is read. -/
theorem R.appendRd {α:Type} {v:α→List Value} {xs:List α} {sz:Nat} {ov:Ov} {m cap2 e2:Nat} {old zc:List Value} (hn:Nat.blt dd X.n=true) (ht:X.tb.row t=some r) (hk:r.k = .slice e) (he:X.tb.row e=some re) (hz:cellsE re.zero=some zc) (hzl:zc.length=re.size) (ht2:X.tb.row t2=some r2) (hk2:r2.k = .slice e2) (hb1:Nat.ble 1 re.bytes=true) (hb2:Nat.ble re.bytes 65536=true)
    (hx:ev σ x=some (slV ov n)) (hy:ev σ y=some (.slice p m cap2)) (hok:OvOk re.size ov n old) (hp:Ext L (blkL e ov old) Lr) (hm:m=xs.length) (hv:∀ a,(v a).length=sz) (hs:re.size=sz) (hh:∀ w,Hp X.w0 X.S L w→RdSl w p v xs)
    (h1:(fl v xs).all Value.oneCell'=true) (hbig:n+m≤1073741824)
    (h:∀ ov',OvOk re.size ov' (n+m) (old++fl v xs)→(ov.isSome=true→ov'.isSome=true)→R X all rest K ((dd,slV ov' (n+m))::σ) (blkL e ov' (old++fl v xs)++Lr)) :
    R X all (⟨some dd,.call { callee:=.builtin .append,args:=#[x,y],argTypes:=#[t,t2] },ty,pos,af,none⟩::rest) K σ L:=by
  subst hm
  cases xs with
  | nil =>
    refine R.value rfl rfl hn fun a w ha hw=>?_
    have hw2:=hw.perm hp.perm
    have hrun:=append_none X.tb (w:=w) (ty:=ty) (n:=n) (p2:=p) (cap2:=cap2) (ov:=ov) ht hk he ht2 hk2 (fun e=>by subst e;exact hok.2)
    refine ⟨slV ov n,w,blkL e ov (old++[])++Lr,?_,by rw [List.append_nil];exact hw2,h ov (by simpa [fl] using hok) id⟩
    simp [execOp,resolve,ha.ev hx,ha.ev hy,invoke,builtin,hrun]
  | cons x0 xs =>
    refine R.appendH hn ht hk he hz hzl ht2 hk2 hb1 hb2 hx hy rfl hok hp (fun w hw=>(hh w hw).holds (by simp)) ?_ h1 hbig fun ov' h2=>h ov' h2 fun _=>by
      cases ov' with
      | none=>have:=h2.2;simp at this
      | some _=>rfl
    rw [fl_len hv,hs]
/-- Room for n,made ahead of any: append(nil,make(..,n)...). -/
theorem grow_run {P : Program} (tb : Tb P) (ht : tb.row t=some r) (hk:r.k = .slice e) (he:tb.row e=some re) {z:Value} (hz:cellsE re.zero=some [z]) (hsz:re.size=1) (ht2:tb.row t2=some r2) (hk2:r2.k = .int .i64)
    {w0 w:World} {S:List Nat} {n:Nat} (hw:Hp w0 S L w) (hm:1≤n) (hbig:(2 * n+768) * re.bytes≤281474976710656) (hb1:1≤re.bytes) :
    ∃ b' j' w',(Builtin.append_ #[t,t2] ty #[.slice none 0 0,.int .i64 n]).run P w = .ok (.slice (some ⟨b',0,none⟩) n (n+j')) w' ∧ Hp w0 S ((b',.cells ⟨List.replicate (n+j') z⟩ e (0,0))::L) w':=by
  have hu:P.underlying t=some (.slice e):=by have:=(tb.get ht).is;rw [hk] at this;exact this
  have hu2:P.underlying t2=some (.int .i64):=by have:=(tb.get ht2).is;rw [hk2] at this;exact this
  obtain ⟨i,hi,hib⟩:∃ i,P.info? e=some i∧i.bytes=re.bytes:=by
    have:=(tb.get he).bytes
    cases h:P.info? e with
    | none=>rw [h] at this;cases this
    | some i=>rw [h] at this;exact ⟨i,rfl,by simpa using this⟩
  have hti:∀ w,(typeInfo e).run P w = .ok i w:=fun w=>by simp [typeInfo,hi]
  have hzc:=cellsE_eq hz
  have hnx:=nextcap_le n 0 (by omega)
  have h48:(2:Nat) ^ 48=281474976710656:=by decide
  have hnb:¬ Builtin.nextslicecap n 0 * re.bytes > 2 ^ 48:=by
    have:=Nat.mul_le_mul_right re.bytes hnx
    omega
  have hn2:n * 1≤n * re.bytes:=Nat.mul_le_mul_left _ hb1
  have hn3:(2 * n+768) * re.bytes=2 * (n * re.bytes)+768 * re.bytes:=by rw [Nat.add_mul,Nat.mul_assoc]
  have hwn:IntKind.i64.wrap (n:Int)=n:=wrap_in (by omega) (by omega)
  have hnn:¬ (n:Int) < 0:=by omega
  have hlb:¬ ((n:Int) * (re.bytes:Int) > 2 ^ 48):=by
    have h1:n * re.bytes≤2 ^ 48:=by omega
    have h2:((n * re.bytes:Nat):Int)≤((2 ^ 48:Nat):Int):=Int.ofNat_le.2 h1
    have h3:((2 ^ 48:Nat):Int)=2 ^ 48:=by decide
    rw [Int.natCast_mul] at h2
    omega
  have hzr:∀ k,(Builtin.zeroCells re.zero.cells k).toList=List.replicate k z:=by
    intro k
    have hc:re.zero.cells = #[z]:=by apply Array.toList_inj.1;rw [hzc]
    rw [hc]
    refine List.eq_replicate_iff.2 ⟨by simp [Builtin.zeroCells],fun x hx=>?_⟩
    simp only [Builtin.zeroCells,Array.toList_map,List.mem_map,List.size_toArray,List.length_singleton,Nat.mod_one] at hx
    obtain ⟨_,_,rfl⟩:=hx
    rfl
  obtain ⟨q,hq⟩:∃ q,(Question.appendCap n 0 e).cut (w.tape w.drawn (.appendCap n 0 e))=n+q:=⟨_,rfl⟩
  refine ⟨w.heap.size,q,w.drew.alloc (.cells ⟨List.replicate (n+q) z⟩ e (0,0)),?_,(hw.step (Chg.drew [] w)).alloc _⟩
  have harr:((#[]:Array Value)++Builtin.zeroCells re.zero.cells n++Builtin.zeroCells re.zero.cells (n+q - n):Array Value)=⟨List.replicate (n+q) z⟩:=by
    apply Array.toList_inj.1
    rw [Array.toList_append,Array.toList_append,hzr,hzr,Nat.add_sub_cancel_left,List.nil_append,List.replicate_append_replicate]
  have hai:∀ w,(asInt (.int .i64 (n:Int))).run P w = .ok (n:Int) w:=fun w=>by simp [asInt,asIntOf]
  have hmx : ¬ (n : Int) > IntKind.i64.max := by have:IntKind.i64.max=9223372036854775807:=by decide
                                                 omega
  unfold Builtin.append_
  simp only [hmx,false_and,List.getElem?_toArray,List.getElem?_cons_zero,List.getElem?_cons_succ,Sem.run_bind,run_underlying hu,run_underlying hu2,Result.andThen_ok,(tb.get he).size,Sem.run_pure,if_true,hai,hwn,hnn,if_false,Nat.zero_add,Nat.not_le.2 (show 0 < n by omega),hti,hib,Sem.run_ite,hlb,Int.toNat_natCast,Bool.not_true,Bool.false_eq_true,
    show ¬ re.bytes=0 by omega,or_false,and_false,false_or,hnb,run_choose,Question.forced,hq,run_askRoom,World.drew_eq,Builtin.firstCells,hsz,Nat.mul_one,show ¬ n=0 by omega,(tb.get he).zero,newRow,run_newObj,harr]
  rfl
theorem R.growMk {z:Value} (hn:Nat.blt dd X.n=true) (ht:X.tb.row t=some r) (hk:r.k = .slice e) (he:X.tb.row e=some re) (hz:cellsE re.zero=some [z]) (hsz:Nat.beq re.size 1=true) (ht2:X.tb.row t2=some r2) (hk2:r2.k = .int .i64) (hb1:Nat.ble 1 re.bytes=true) (hb2:Nat.ble re.bytes 65536=true)
    (hx:ev σ x=some (.slice none 0 0)) (hy:ev σ y=some (.int .i64 n)) (hm:1≤n) (hbig:n≤1073741824)
    (h:∀ b' j',R X all rest K ((dd,.slice (some ⟨b',0,none⟩) n (n+j'))::σ) ((b',.cells ⟨List.replicate (n+j') z⟩ e (0,0))::L)) :
    R X all (⟨some dd,.call { callee:=.builtin .append,args:=#[x,y],argTypes:=#[t,t2] },ty,pos,af,none⟩::rest) K σ L :=
  R.value rfl rfl hn fun a w ha hw=>by
    have h3:=Nat.le_of_ble_eq_true hb2
    have hbig':(2 * n+768) * re.bytes≤281474976710656:=by
      have:=Nat.mul_le_mul (show 2 * n+768≤2147484416 by omega) h3
      omega
    obtain ⟨b',j',w',g1,g2⟩:=grow_run X.tb (ty:=ty) ht hk he hz (Nat.eq_of_beq_eq_true hsz) ht2 hk2 hw hm hbig' (Nat.le_of_ble_eq_true hb1)
    refine ⟨_,w',_,?_,g2,h b' j'⟩
    simp [execOp,resolve,ha.ev hx,ha.ev hy,invoke,builtin,g1]
end
def rowsTab:List (Option TRow):=[
  none,
  some { k:=.fn,size:=1,bytes:=8,zero:=.nilFunc },
  some { k:=.int .i64,size:=1,bytes:=8,zero:=.int .i64 0 },
  some { k:=.int .i64,size:=1,bytes:=8,zero:=.int .i64 0 },
  some { k:=.bool,size:=1,bytes:=1,zero:=.bool false },
  some { k:=.int .u8,size:=1,bytes:=1,zero:=.int .u8 0 },
  some { k:=.int .u8,size:=1,bytes:=1,zero:=.int .u8 0 },
  none,
  none,
  some { k:=.string,size:=1,bytes:=16,zero:=.string ByteArray.empty },
  some { k:=.string,size:=1,bytes:=16,zero:=.string ByteArray.empty },
  some { k:=.string,size:=1,bytes:=16,zero:=.string ByteArray.empty },
  some { k:=.int .u64,size:=1,bytes:=8,zero:=.int .u64 0 },
  none,
  none,
  some { k:=.ptr 211,size:=1,bytes:=8,zero:=.pointer none },
  some { k:=.ptr 214,size:=1,bytes:=8,zero:=.pointer none },
  some { k:=.ptr 222,size:=1,bytes:=8,zero:=.pointer none },
  none,
  none,
  none,
  some { k:=.int .i32,size:=1,bytes:=4,zero:=.int .i32 0 },
  some { k:=.slice 32,size:=1,bytes:=24,zero:=.slice none 0 0 },
  some { k:=.strct [(3,0,1),(3,1,1),(3,2,1),(3,3,1)],size:=4,bytes:=32,zero:=.agg #[.int .i64 0,.int .i64 0,.int .i64 0,.int .i64 0] },
  some { k:=.strct [(3,0,1),(3,1,1),(3,2,1),(3,3,1)],size:=4,bytes:=32,zero:=.agg #[.int .i64 0,.int .i64 0,.int .i64 0,.int .i64 0] },
  some { k:=.strct [(3,0,1),(3,1,1)],size:=2,bytes:=16,zero:=.agg #[.int .i64 0,.int .i64 0] },
  some { k:=.strct [(3,0,1),(3,1,1)],size:=2,bytes:=16,zero:=.agg #[.int .i64 0,.int .i64 0] },
  some { k:=.ptr 96,size:=1,bytes:=8,zero:=.pointer none },
  some { k:=.fn,size:=1,bytes:=8,zero:=.nilFunc },
  some { k:=.slice 56,size:=1,bytes:=24,zero:=.slice none 0 0 },
  some { k:=.slice 5,size:=1,bytes:=24,zero:=.slice none 0 0 },
  some { k:=.strct [(3,0,1),(3,1,1),(24,2,4),(30,6,1),(26,7,2)],size:=9,bytes:=88,zero:=.agg #[.int .i64 0,.int .i64 0,.int .i64 0,.int .i64 0,.int .i64 0,.int .i64 0,.slice none 0 0,.int .i64 0,.int .i64 0] },
  some { k:=.strct [(3,0,1),(3,1,1),(24,2,4),(30,6,1),(26,7,2)],size:=9,bytes:=88,zero:=.agg #[.int .i64 0,.int .i64 0,.int .i64 0,.int .i64 0,.int .i64 0,.int .i64 0,.slice none 0 0,.int .i64 0,.int .i64 0] },
  some { k:=.int .u64,size:=1,bytes:=8,zero:=.int .u64 0 },
  some { k:=.strct [(3,0,1),(3,1,1),(3,2,1),(3,3,1)],size:=4,bytes:=32,zero:=.agg #[.int .i64 0,.int .i64 0,.int .i64 0,.int .i64 0] },
  none,
  none,
  none,
  some { k:=.int .i64,size:=1,bytes:=8,zero:=.int .i64 0 },
  none,
  none,
  some { k:=.slice 34,size:=1,bytes:=24,zero:=.slice none 0 0 },
  none,
  some { k:=.slice 24,size:=1,bytes:=24,zero:=.slice none 0 0 },
  none,
  none,
  some { k:=.ptr 109,size:=1,bytes:=8,zero:=.pointer none },
  none,
  none,
  none,
  none,
  some { k:=.strct [(3,0,1),(3,1,1)],size:=2,bytes:=16,zero:=.agg #[.int .i64 0,.int .i64 0] },
  none,
  none,
  some { k:=.slice 26,size:=1,bytes:=24,zero:=.slice none 0 0 },
  some { k:=.strct [(24,0,4),(4,4,1),(3,5,1),(30,6,1),(54,7,1)],size:=8,bytes:=96,zero:=.agg #[.int .i64 0,.int .i64 0,.int .i64 0,.int .i64 0,.bool false,.int .i64 0,.slice none 0 0,.slice none 0 0] },
  some { k:=.strct [(24,0,4),(4,4,1),(3,5,1),(30,6,1),(54,7,1)],size:=8,bytes:=96,zero:=.agg #[.int .i64 0,.int .i64 0,.int .i64 0,.int .i64 0,.bool false,.int .i64 0,.slice none 0 0,.slice none 0 0] },
  none,
  none,
  none,
  none,
  none,
  none,
  some { k:=.slice 76,size:=1,bytes:=24,zero:=.slice none 0 0 },
  some { k:=.arr 32 5,size:=32,bytes:=32,zero:=.agg #[.int .u8 0,.int .u8 0,.int .u8 0,.int .u8 0,.int .u8 0,.int .u8 0,.int .u8 0,.int .u8 0,.int .u8 0,.int .u8 0,.int .u8 0,.int .u8 0,.int .u8 0,.int .u8 0,.int .u8 0,.int .u8 0,.int .u8 0,.int .u8 0,.int .u8 0,.int .u8 0,.int .u8 0,.int .u8 0,.int .u8 0,.int .u8 0,.int .u8 0,.int .u8 0,.int .u8 0,.int .u8 0,.int .u8 0,.int .u8 0,.int .u8 0,.int .u8 0] },
  some { k:=.strct [(34,0,4),(64,4,32)],size:=36,bytes:=64,zero:=.agg #[.int .i64 0,.int .i64 0,.int .i64 0,.int .i64 0,.int .u8 0,.int .u8 0,.int .u8 0,.int .u8 0,.int .u8 0,.int .u8 0,.int .u8 0,.int .u8 0,.int .u8 0,.int .u8 0,.int .u8 0,.int .u8 0,.int .u8 0,.int .u8 0,.int .u8 0,.int .u8 0,.int .u8 0,.int .u8 0,.int .u8 0,.int .u8 0,.int .u8 0,.int .u8 0,.int .u8 0,.int .u8 0,.int .u8 0,.int .u8 0,.int .u8 0,.int .u8 0,.int .u8 0,.int .u8 0,.int .u8 0,.int .u8 0] },
  some { k:=.strct [(34,0,4),(64,4,32)],size:=36,bytes:=64,zero:=.agg #[.int .i64 0,.int .i64 0,.int .i64 0,.int .i64 0,.int .u8 0,.int .u8 0,.int .u8 0,.int .u8 0,.int .u8 0,.int .u8 0,.int .u8 0,.int .u8 0,.int .u8 0,.int .u8 0,.int .u8 0,.int .u8 0,.int .u8 0,.int .u8 0,.int .u8 0,.int .u8 0,.int .u8 0,.int .u8 0,.int .u8 0,.int .u8 0,.int .u8 0,.int .u8 0,.int .u8 0,.int .u8 0,.int .u8 0,.int .u8 0,.int .u8 0,.int .u8 0,.int .u8 0,.int .u8 0,.int .u8 0,.int .u8 0] },
  none,
  none,
  some { k:=.ptr 124,size:=1,bytes:=8,zero:=.pointer none },
  none,
  none,
  none,
  some { k:=.slice 81,size:=1,bytes:=24,zero:=.slice none 0 0 },
  some { k:=.arr 8 30,size:=8,bytes:=192,zero:=.agg #[.slice none 0 0,.slice none 0 0,.slice none 0 0,.slice none 0 0,.slice none 0 0,.slice none 0 0,.slice none 0 0,.slice none 0 0] },
  some { k:=.strct [(3,0,1),(3,1,1),(24,2,4),(30,6,1)],size:=7,bytes:=72,zero:=.agg #[.int .i64 0,.int .i64 0,.int .i64 0,.int .i64 0,.int .i64 0,.int .i64 0,.slice none 0 0] },
  some { k:=.strct [(3,0,1),(3,1,1),(24,2,4),(30,6,1)],size:=7,bytes:=72,zero:=.agg #[.int .i64 0,.int .i64 0,.int .i64 0,.int .i64 0,.int .i64 0,.int .i64 0,.slice none 0 0] },
  none,
  none,
  none,
  some { k:=.strct [(24,0,4),(30,4,1)],size:=5,bytes:=56,zero:=.agg #[.int .i64 0,.int .i64 0,.int .i64 0,.int .i64 0,.slice none 0 0] },
  some { k:=.strct [(24,0,4),(30,4,1)],size:=5,bytes:=56,zero:=.agg #[.int .i64 0,.int .i64 0,.int .i64 0,.int .i64 0,.slice none 0 0] },
  none,
  none,
  none,
  none,
  none,
  none,
  none,
  none,
  none,
  none,
  none,
  none,
  some { k:=.map 34 99,size:=1,bytes:=8,zero:=.map none },
  some { k:=.strct [(94,0,1)],size:=1,bytes:=8,zero:=.agg #[.map none] },
  some { k:=.strct [(94,0,1)],size:=1,bytes:=8,zero:=.agg #[.map none] },
  none,
  none,
  some { k:=.ptr 103,size:=1,bytes:=8,zero:=.pointer none },
  some { k:=.strct [(51,0,2),(33,2,1)],size:=3,bytes:=24,zero:=.agg #[.int .i64 0,.int .i64 0,.int .u64 0] },
  some { k:=.strct [(51,0,2),(33,2,1)],size:=3,bytes:=24,zero:=.agg #[.int .i64 0,.int .i64 0,.int .u64 0] },
  some { k:=.strct [(101,0,3),(46,3,1),(3,4,1)],size:=5,bytes:=40,zero:=.agg #[.int .i64 0,.int .i64 0,.int .u64 0,.pointer none,.int .i64 0] },
  some { k:=.strct [(101,0,3),(46,3,1),(3,4,1)],size:=5,bytes:=40,zero:=.agg #[.int .i64 0,.int .i64 0,.int .u64 0,.pointer none,.int .i64 0] },
  none,
  none,
  none,
  some { k:=.slice 5,size:=1,bytes:=24,zero:=.slice none 0 0 },
  some { k:=.strct [(107,0,1)],size:=1,bytes:=24,zero:=.agg #[.slice none 0 0] },
  some { k:=.strct [(107,0,1)],size:=1,bytes:=24,zero:=.agg #[.slice none 0 0] },
  none,
  none,
  none,
  none,
  none,
  none,
  none,
  none,
  none,
  none,
  none,
  some { k:=.map 34 46,size:=1,bytes:=8,zero:=.map none },
  some { k:=.map 3 46,size:=1,bytes:=8,zero:=.map none },
  some { k:=.strct [(66,0,36),(121,36,1),(122,37,1)],size:=38,bytes:=80,zero:=.agg #[.int .i64 0,.int .i64 0,.int .i64 0,.int .i64 0,.int .u8 0,.int .u8 0,.int .u8 0,.int .u8 0,.int .u8 0,.int .u8 0,.int .u8 0,.int .u8 0,.int .u8 0,.int .u8 0,.int .u8 0,.int .u8 0,.int .u8 0,.int .u8 0,.int .u8 0,.int .u8 0,.int .u8 0,.int .u8 0,.int .u8 0,.int .u8 0,.int .u8 0,.int .u8 0,.int .u8 0,.int .u8 0,.int .u8 0,.int .u8 0,.int .u8 0,.int .u8 0,.int .u8 0,.int .u8 0,.int .u8 0,.int .u8 0,.map none,.map none] },
  some { k:=.strct [(66,0,36),(121,36,1),(122,37,1)],size:=38,bytes:=80,zero:=.agg #[.int .i64 0,.int .i64 0,.int .i64 0,.int .i64 0,.int .u8 0,.int .u8 0,.int .u8 0,.int .u8 0,.int .u8 0,.int .u8 0,.int .u8 0,.int .u8 0,.int .u8 0,.int .u8 0,.int .u8 0,.int .u8 0,.int .u8 0,.int .u8 0,.int .u8 0,.int .u8 0,.int .u8 0,.int .u8 0,.int .u8 0,.int .u8 0,.int .u8 0,.int .u8 0,.int .u8 0,.int .u8 0,.int .u8 0,.int .u8 0,.int .u8 0,.int .u8 0,.int .u8 0,.int .u8 0,.int .u8 0,.int .u8 0,.map none,.map none] },
  none,
  none,
  some { k:=.fn,size:=1,bytes:=8,zero:=.nilFunc },
  none,
  none,
  some { k:=.arr 4 3,size:=4,bytes:=32,zero:=.agg #[.int .i64 0,.int .i64 0,.int .i64 0,.int .i64 0] },
  some { k:=.strct [(3,0,1),(3,1,1),(3,2,1)],size:=3,bytes:=24,zero:=.agg #[.int .i64 0,.int .i64 0,.int .i64 0] },
  some { k:=.strct [(3,0,1),(3,1,1),(3,2,1)],size:=3,bytes:=24,zero:=.agg #[.int .i64 0,.int .i64 0,.int .i64 0] },
  some { k:=.arr 4 132,size:=12,bytes:=96,zero:=.agg #[.int .i64 0,.int .i64 0,.int .i64 0,.int .i64 0,.int .i64 0,.int .i64 0,.int .i64 0,.int .i64 0,.int .i64 0,.int .i64 0,.int .i64 0,.int .i64 0] },
  none,
  none,
  none,
  none,
  none,
  none,
  none,
  none,
  none,
  some { k:=.slice 3,size:=1,bytes:=24,zero:=.slice none 0 0 },
  none,
  none,
  none,
  none,
  some { k:=.int .u64,size:=1,bytes:=8,zero:=.int .u64 0 },
  none,
  none,
  none,
  some { k:=.strct [(30,0,1),(38,1,1)],size:=2,bytes:=32,zero:=.agg #[.slice none 0 0,.int .i64 0] },
  some { k:=.strct [(30,0,1),(38,1,1)],size:=2,bytes:=32,zero:=.agg #[.slice none 0 0,.int .i64 0] },
  some { k:=.ptr 153,size:=1,bytes:=8,zero:=.pointer none },
  none,
  none,
  some { k:=.slice 30,size:=1,bytes:=24,zero:=.slice none 0 0 },
  none,
  none,
  none,
  some { k:=.int .i64,size:=1,bytes:=8,zero:=.int .i64 0 },
  none,
  none,
  none,
  none,
  none,
  none,
  none,
  some { k:=.int .u32,size:=1,bytes:=4,zero:=.int .u32 0 },
  none,
  none,
  none,
  some { k:=.strct [(3,0,1),(3,1,1),(30,2,1)],size:=3,bytes:=40,zero:=.agg #[.int .i64 0,.int .i64 0,.slice none 0 0] },
  some { k:=.strct [(3,0,1),(3,1,1),(30,2,1)],size:=3,bytes:=40,zero:=.agg #[.int .i64 0,.int .i64 0,.slice none 0 0] },
  some { k:=.arr 8 169,size:=8,bytes:=32,zero:=.agg #[.int .u32 0,.int .u32 0,.int .u32 0,.int .u32 0,.int .u32 0,.int .u32 0,.int .u32 0,.int .u32 0] },
  some { k:=.strct [(175,0,8)],size:=8,bytes:=32,zero:=.agg #[.int .u32 0,.int .u32 0,.int .u32 0,.int .u32 0,.int .u32 0,.int .u32 0,.int .u32 0,.int .u32 0] },
  some { k:=.strct [(175,0,8)],size:=8,bytes:=32,zero:=.agg #[.int .u32 0,.int .u32 0,.int .u32 0,.int .u32 0,.int .u32 0,.int .u32 0,.int .u32 0,.int .u32 0] },
  some { k:=.strct [(177,0,8),(4,8,1),(30,9,1),(3,10,1)],size:=11,bytes:=72,zero:=.agg #[.int .u32 0,.int .u32 0,.int .u32 0,.int .u32 0,.int .u32 0,.int .u32 0,.int .u32 0,.int .u32 0,.bool false,.slice none 0 0,.int .i64 0] },
  some { k:=.strct [(177,0,8),(4,8,1),(30,9,1),(3,10,1)],size:=11,bytes:=72,zero:=.agg #[.int .u32 0,.int .u32 0,.int .u32 0,.int .u32 0,.int .u32 0,.int .u32 0,.int .u32 0,.int .u32 0,.bool false,.slice none 0 0,.int .i64 0] },
  some { k:=.ptr 179,size:=1,bytes:=8,zero:=.pointer none },
  none,
  none,
  none,
  none,
  some { k:=.fn,size:=1,bytes:=8,zero:=.nilFunc },
  some { k:=.int .u64,size:=1,bytes:=8,zero:=.int .u64 0 },
  none,
  none,
  none,
  some { k:=.ptr 3,size:=1,bytes:=8,zero:=.pointer none },
  none,
  some { k:=.slice 174,size:=1,bytes:=24,zero:=.slice none 0 0 },
  none,
  none,
  none,
  none,
  some { k:=.ptr 186,size:=1,bytes:=8,zero:=.pointer none },
  none,
  none,
  none,
  none,
  some { k:=.ptr 177,size:=1,bytes:=8,zero:=.pointer none },
  some { k:=.arr 64 169,size:=64,bytes:=256,zero:=.agg #[.int .u32 0,.int .u32 0,.int .u32 0,.int .u32 0,.int .u32 0,.int .u32 0,.int .u32 0,.int .u32 0,.int .u32 0,.int .u32 0,.int .u32 0,.int .u32 0,.int .u32 0,.int .u32 0,.int .u32 0,.int .u32 0,.int .u32 0,.int .u32 0,.int .u32 0,.int .u32 0,.int .u32 0,.int .u32 0,.int .u32 0,.int .u32 0,.int .u32 0,.int .u32 0,.int .u32 0,.int .u32 0,.int .u32 0,.int .u32 0,.int .u32 0,.int .u32 0,.int .u32 0,.int .u32 0,.int .u32 0,.int .u32 0,.int .u32 0,.int .u32 0,.int .u32 0,.int .u32 0,.int .u32 0,.int .u32 0,.int .u32 0,.int .u32 0,.int .u32 0,.int .u32 0,.int .u32 0,.int .u32 0,.int .u32 0,.int .u32 0,.int .u32 0,.int .u32 0,.int .u32 0,.int .u32 0,.int .u32 0,.int .u32 0,.int .u32 0,.int .u32 0,.int .u32 0,.int .u32 0,.int .u32 0,.int .u32 0,.int .u32 0,.int .u32 0] },
  none,
  none,
  none,
  some { k:=.fn,size:=1,bytes:=8,zero:=.nilFunc },
  none,
  none,
  none,
  none,
  none,
  none,
  none,
  some { k:=.int .u8,size:=1,bytes:=1,zero:=.int .u8 0 },
  some { k:=.int .u8,size:=1,bytes:=1,zero:=.int .u8 0 },
  some { k:=.fn,size:=1,bytes:=8,zero:=.nilFunc },
  some { k:=.ptr 5,size:=1,bytes:=8,zero:=.pointer none },
  some { k:=.int .i32,size:=1,bytes:=4,zero:=.int .i32 0 },
  some { k:=.int .i32,size:=1,bytes:=4,zero:=.int .i32 0 },
  none,
  none,
  none,
  none,
  none]
set_option maxRecDepth 100000 in
theorem rowsGood:TGoods Try.prog 0 rowsTab :=
  ⟨⟨⟨_,_,_,Try.underlying1⟩,Try.sizeOf1,Try.zeroValue1,trivial,by kernel_rfl⟩,
   ⟨Try.underlying2,Try.sizeOf2,Try.zeroValue2,trivial,by kernel_rfl⟩,
   ⟨Try.underlying3,Try.sizeOf3,Try.zeroValue3,trivial,by kernel_rfl⟩,
   ⟨Try.underlying4,Try.sizeOf4,Try.zeroValue4,trivial,by kernel_rfl⟩,
   ⟨Try.underlying5,Try.sizeOf5,Try.zeroValue5,trivial,by kernel_rfl⟩,
   ⟨Try.underlying6,Try.sizeOf6,Try.zeroValue6,trivial,by kernel_rfl⟩,
   ⟨Try.underlying9,Try.sizeOf9,Try.zeroValue9,trivial,by kernel_rfl⟩,
   ⟨Try.underlying10,Try.sizeOf10,Try.zeroValue10,trivial,by kernel_rfl⟩,
   ⟨Try.underlying11,Try.sizeOf11,Try.zeroValue11,trivial,by kernel_rfl⟩,
   ⟨Try.underlying12,Try.sizeOf12,Try.zeroValue12,trivial,by kernel_rfl⟩,
   ⟨Try.underlying15,Try.sizeOf15,Try.zeroValue15,trivial,by kernel_rfl⟩,
   ⟨Try.underlying16,Try.sizeOf16,Try.zeroValue16,trivial,by kernel_rfl⟩,
   ⟨Try.underlying17,Try.sizeOf17,Try.zeroValue17,trivial,by kernel_rfl⟩,
   ⟨Try.underlying21,Try.sizeOf21,Try.zeroValue21,trivial,by kernel_rfl⟩,
   ⟨Try.underlying22,Try.sizeOf22,Try.zeroValue22,trivial,by kernel_rfl⟩,
   ⟨⟨_,Try.underlying23,rfl,rfl,Try.sizeOf3,rfl,rfl,rfl,Try.sizeOf3,rfl,rfl,rfl,Try.sizeOf3,rfl,rfl,rfl,Try.sizeOf3,rfl,trivial⟩,Try.sizeOf23,Try.zeroValue23,(by show Try.prog.stoodInHeld 23=false;kernel_rfl),by kernel_rfl⟩,
   ⟨⟨_,Try.underlying24,rfl,rfl,Try.sizeOf3,rfl,rfl,rfl,Try.sizeOf3,rfl,rfl,rfl,Try.sizeOf3,rfl,rfl,rfl,Try.sizeOf3,rfl,trivial⟩,Try.sizeOf24,Try.zeroValue24,(by show Try.prog.stoodInHeld 24=false;kernel_rfl),by kernel_rfl⟩,
   ⟨⟨_,Try.underlying25,rfl,rfl,Try.sizeOf3,rfl,rfl,rfl,Try.sizeOf3,rfl,trivial⟩,Try.sizeOf25,Try.zeroValue25,(by show Try.prog.stoodInHeld 25=false;kernel_rfl),by kernel_rfl⟩,
   ⟨⟨_,Try.underlying26,rfl,rfl,Try.sizeOf3,rfl,rfl,rfl,Try.sizeOf3,rfl,trivial⟩,Try.sizeOf26,Try.zeroValue26,(by show Try.prog.stoodInHeld 26=false;kernel_rfl),by kernel_rfl⟩,
   ⟨Try.underlying27,Try.sizeOf27,Try.zeroValue27,trivial,by kernel_rfl⟩,
   ⟨⟨_,_,_,Try.underlying28⟩,Try.sizeOf28,Try.zeroValue28,trivial,by kernel_rfl⟩,
   ⟨Try.underlying29,Try.sizeOf29,Try.zeroValue29,trivial,by kernel_rfl⟩,
   ⟨Try.underlying30,Try.sizeOf30,Try.zeroValue30,trivial,by kernel_rfl⟩,
   ⟨⟨_,Try.underlying31,rfl,rfl,Try.sizeOf3,rfl,rfl,rfl,Try.sizeOf3,rfl,rfl,rfl,Try.sizeOf24,rfl,rfl,rfl,Try.sizeOf30,rfl,rfl,rfl,Try.sizeOf26,rfl,trivial⟩,Try.sizeOf31,Try.zeroValue31,(by show Try.prog.stoodInHeld 31=false;kernel_rfl),by kernel_rfl⟩,
   ⟨⟨_,Try.underlying32,rfl,rfl,Try.sizeOf3,rfl,rfl,rfl,Try.sizeOf3,rfl,rfl,rfl,Try.sizeOf24,rfl,rfl,rfl,Try.sizeOf30,rfl,rfl,rfl,Try.sizeOf26,rfl,trivial⟩,Try.sizeOf32,Try.zeroValue32,(by show Try.prog.stoodInHeld 32=false;kernel_rfl),by kernel_rfl⟩,
   ⟨Try.underlying33,Try.sizeOf33,Try.zeroValue33,trivial,by kernel_rfl⟩,
   ⟨⟨_,Try.underlying34,rfl,rfl,Try.sizeOf3,rfl,rfl,rfl,Try.sizeOf3,rfl,rfl,rfl,Try.sizeOf3,rfl,rfl,rfl,Try.sizeOf3,rfl,trivial⟩,Try.sizeOf34,Try.zeroValue34,(by show Try.prog.stoodInHeld 34=false;kernel_rfl),by kernel_rfl⟩,
   ⟨Try.underlying38,Try.sizeOf38,Try.zeroValue38,trivial,by kernel_rfl⟩,
   ⟨Try.underlying41,Try.sizeOf41,Try.zeroValue41,trivial,by kernel_rfl⟩,
   ⟨Try.underlying43,Try.sizeOf43,Try.zeroValue43,trivial,by kernel_rfl⟩,
   ⟨Try.underlying46,Try.sizeOf46,Try.zeroValue46,trivial,by kernel_rfl⟩,
   ⟨⟨_,Try.underlying51,rfl,rfl,Try.sizeOf3,rfl,rfl,rfl,Try.sizeOf3,rfl,trivial⟩,Try.sizeOf51,Try.zeroValue51,(by show Try.prog.stoodInHeld 51=false;kernel_rfl),by kernel_rfl⟩,
   ⟨Try.underlying54,Try.sizeOf54,Try.zeroValue54,trivial,by kernel_rfl⟩,
   ⟨⟨_,Try.underlying55,rfl,rfl,Try.sizeOf24,rfl,rfl,rfl,Try.sizeOf4,rfl,rfl,rfl,Try.sizeOf3,rfl,rfl,rfl,Try.sizeOf30,rfl,rfl,rfl,Try.sizeOf54,rfl,trivial⟩,Try.sizeOf55,Try.zeroValue55,(by show Try.prog.stoodInHeld 55=false;kernel_rfl),by kernel_rfl⟩,
   ⟨⟨_,Try.underlying56,rfl,rfl,Try.sizeOf24,rfl,rfl,rfl,Try.sizeOf4,rfl,rfl,rfl,Try.sizeOf3,rfl,rfl,rfl,Try.sizeOf30,rfl,rfl,rfl,Try.sizeOf54,rfl,trivial⟩,Try.sizeOf56,Try.zeroValue56,(by show Try.prog.stoodInHeld 56=false;kernel_rfl),by kernel_rfl⟩,
   ⟨Try.underlying63,Try.sizeOf63,Try.zeroValue63,trivial,by kernel_rfl⟩,
   ⟨Try.underlying64,Try.sizeOf64,Try.zeroValue64,trivial,by kernel_rfl⟩,
   ⟨⟨_,Try.underlying65,rfl,rfl,Try.sizeOf34,rfl,rfl,rfl,Try.sizeOf64,rfl,trivial⟩,Try.sizeOf65,Try.zeroValue65,(by show Try.prog.stoodInHeld 65=false;kernel_rfl),by kernel_rfl⟩,
   ⟨⟨_,Try.underlying66,rfl,rfl,Try.sizeOf34,rfl,rfl,rfl,Try.sizeOf64,rfl,trivial⟩,Try.sizeOf66,Try.zeroValue66,(by show Try.prog.stoodInHeld 66=false;kernel_rfl),by kernel_rfl⟩,
   ⟨Try.underlying69,Try.sizeOf69,Try.zeroValue69,trivial,by kernel_rfl⟩,
   ⟨Try.underlying73,Try.sizeOf73,Try.zeroValue73,trivial,by kernel_rfl⟩,
   ⟨Try.underlying74,Try.sizeOf74,Try.zeroValue74,trivial,by kernel_rfl⟩,
   ⟨⟨_,Try.underlying75,rfl,rfl,Try.sizeOf3,rfl,rfl,rfl,Try.sizeOf3,rfl,rfl,rfl,Try.sizeOf24,rfl,rfl,rfl,Try.sizeOf30,rfl,trivial⟩,Try.sizeOf75,Try.zeroValue75,(by show Try.prog.stoodInHeld 75=false;kernel_rfl),by kernel_rfl⟩,
   ⟨⟨_,Try.underlying76,rfl,rfl,Try.sizeOf3,rfl,rfl,rfl,Try.sizeOf3,rfl,rfl,rfl,Try.sizeOf24,rfl,rfl,rfl,Try.sizeOf30,rfl,trivial⟩,Try.sizeOf76,Try.zeroValue76,(by show Try.prog.stoodInHeld 76=false;kernel_rfl),by kernel_rfl⟩,
   ⟨⟨_,Try.underlying80,rfl,rfl,Try.sizeOf24,rfl,rfl,rfl,Try.sizeOf30,rfl,trivial⟩,Try.sizeOf80,Try.zeroValue80,(by show Try.prog.stoodInHeld 80=false;kernel_rfl),by kernel_rfl⟩,
   ⟨⟨_,Try.underlying81,rfl,rfl,Try.sizeOf24,rfl,rfl,rfl,Try.sizeOf30,rfl,trivial⟩,Try.sizeOf81,Try.zeroValue81,(by show Try.prog.stoodInHeld 81=false;kernel_rfl),by kernel_rfl⟩,
   ⟨Try.underlying94,Try.sizeOf94,Try.zeroValue94,trivial,by kernel_rfl⟩,
   ⟨⟨_,Try.underlying95,rfl,rfl,Try.sizeOf94,rfl,trivial⟩,Try.sizeOf95,Try.zeroValue95,(by show Try.prog.stoodInHeld 95=false;kernel_rfl),by kernel_rfl⟩,
   ⟨⟨_,Try.underlying96,rfl,rfl,Try.sizeOf94,rfl,trivial⟩,Try.sizeOf96,Try.zeroValue96,(by show Try.prog.stoodInHeld 96=false;kernel_rfl),by kernel_rfl⟩,
   ⟨Try.underlying99,Try.sizeOf99,Try.zeroValue99,trivial,by kernel_rfl⟩,
   ⟨⟨_,Try.underlying100,rfl,rfl,Try.sizeOf51,rfl,rfl,rfl,Try.sizeOf33,rfl,trivial⟩,Try.sizeOf100,Try.zeroValue100,(by show Try.prog.stoodInHeld 100=false;kernel_rfl),by kernel_rfl⟩,
   ⟨⟨_,Try.underlying101,rfl,rfl,Try.sizeOf51,rfl,rfl,rfl,Try.sizeOf33,rfl,trivial⟩,Try.sizeOf101,Try.zeroValue101,(by show Try.prog.stoodInHeld 101=false;kernel_rfl),by kernel_rfl⟩,
   ⟨⟨_,Try.underlying102,rfl,rfl,Try.sizeOf101,rfl,rfl,rfl,Try.sizeOf46,rfl,rfl,rfl,Try.sizeOf3,rfl,trivial⟩,Try.sizeOf102,Try.zeroValue102,(by show Try.prog.stoodInHeld 102=false;kernel_rfl),by kernel_rfl⟩,
   ⟨⟨_,Try.underlying103,rfl,rfl,Try.sizeOf101,rfl,rfl,rfl,Try.sizeOf46,rfl,rfl,rfl,Try.sizeOf3,rfl,trivial⟩,Try.sizeOf103,Try.zeroValue103,(by show Try.prog.stoodInHeld 103=false;kernel_rfl),by kernel_rfl⟩,
   ⟨Try.underlying107,Try.sizeOf107,Try.zeroValue107,trivial,by kernel_rfl⟩,
   ⟨⟨_,Try.underlying108,rfl,rfl,Try.sizeOf107,rfl,trivial⟩,Try.sizeOf108,Try.zeroValue108,(by show Try.prog.stoodInHeld 108=false;kernel_rfl),by kernel_rfl⟩,
   ⟨⟨_,Try.underlying109,rfl,rfl,Try.sizeOf107,rfl,trivial⟩,Try.sizeOf109,Try.zeroValue109,(by show Try.prog.stoodInHeld 109=false;kernel_rfl),by kernel_rfl⟩,
   ⟨Try.underlying121,Try.sizeOf121,Try.zeroValue121,trivial,by kernel_rfl⟩,
   ⟨Try.underlying122,Try.sizeOf122,Try.zeroValue122,trivial,by kernel_rfl⟩,
   ⟨⟨_,Try.underlying123,rfl,rfl,Try.sizeOf66,rfl,rfl,rfl,Try.sizeOf121,rfl,rfl,rfl,Try.sizeOf122,rfl,trivial⟩,Try.sizeOf123,Try.zeroValue123,(by show Try.prog.stoodInHeld 123=false;kernel_rfl),by kernel_rfl⟩,
   ⟨⟨_,Try.underlying124,rfl,rfl,Try.sizeOf66,rfl,rfl,rfl,Try.sizeOf121,rfl,rfl,rfl,Try.sizeOf122,rfl,trivial⟩,Try.sizeOf124,Try.zeroValue124,(by show Try.prog.stoodInHeld 124=false;kernel_rfl),by kernel_rfl⟩,
   ⟨⟨_,_,_,Try.underlying127⟩,Try.sizeOf127,Try.zeroValue127,trivial,by kernel_rfl⟩,
   ⟨Try.underlying130,Try.sizeOf130,Try.zeroValue130,trivial,by kernel_rfl⟩,
   ⟨⟨_,Try.underlying131,rfl,rfl,Try.sizeOf3,rfl,rfl,rfl,Try.sizeOf3,rfl,rfl,rfl,Try.sizeOf3,rfl,trivial⟩,Try.sizeOf131,Try.zeroValue131,(by show Try.prog.stoodInHeld 131=false;kernel_rfl),by kernel_rfl⟩,
   ⟨⟨_,Try.underlying132,rfl,rfl,Try.sizeOf3,rfl,rfl,rfl,Try.sizeOf3,rfl,rfl,rfl,Try.sizeOf3,rfl,trivial⟩,Try.sizeOf132,Try.zeroValue132,(by show Try.prog.stoodInHeld 132=false;kernel_rfl),by kernel_rfl⟩,
   ⟨Try.underlying133,Try.sizeOf133,Try.zeroValue133,trivial,by kernel_rfl⟩,
   ⟨Try.underlying143,Try.sizeOf143,Try.zeroValue143,trivial,by kernel_rfl⟩,
   ⟨Try.underlying148,Try.sizeOf148,Try.zeroValue148,trivial,by kernel_rfl⟩,
   ⟨⟨_,Try.underlying152,rfl,rfl,Try.sizeOf30,rfl,rfl,rfl,Try.sizeOf38,rfl,trivial⟩,Try.sizeOf152,Try.zeroValue152,(by show Try.prog.stoodInHeld 152=false;kernel_rfl),by kernel_rfl⟩,
   ⟨⟨_,Try.underlying153,rfl,rfl,Try.sizeOf30,rfl,rfl,rfl,Try.sizeOf38,rfl,trivial⟩,Try.sizeOf153,Try.zeroValue153,(by show Try.prog.stoodInHeld 153=false;kernel_rfl),by kernel_rfl⟩,
   ⟨Try.underlying154,Try.sizeOf154,Try.zeroValue154,trivial,by kernel_rfl⟩,
   ⟨Try.underlying157,Try.sizeOf157,Try.zeroValue157,trivial,by kernel_rfl⟩,
   ⟨Try.underlying161,Try.sizeOf161,Try.zeroValue161,trivial,by kernel_rfl⟩,
   ⟨Try.underlying169,Try.sizeOf169,Try.zeroValue169,trivial,by kernel_rfl⟩,
   ⟨⟨_,Try.underlying173,rfl,rfl,Try.sizeOf3,rfl,rfl,rfl,Try.sizeOf3,rfl,rfl,rfl,Try.sizeOf30,rfl,trivial⟩,Try.sizeOf173,Try.zeroValue173,(by show Try.prog.stoodInHeld 173=false;kernel_rfl),by kernel_rfl⟩,
   ⟨⟨_,Try.underlying174,rfl,rfl,Try.sizeOf3,rfl,rfl,rfl,Try.sizeOf3,rfl,rfl,rfl,Try.sizeOf30,rfl,trivial⟩,Try.sizeOf174,Try.zeroValue174,(by show Try.prog.stoodInHeld 174=false;kernel_rfl),by kernel_rfl⟩,
   ⟨Try.underlying175,Try.sizeOf175,Try.zeroValue175,trivial,by kernel_rfl⟩,
   ⟨⟨_,Try.underlying176,rfl,rfl,Try.sizeOf175,rfl,trivial⟩,Try.sizeOf176,Try.zeroValue176,(by show Try.prog.stoodInHeld 176=false;kernel_rfl),by kernel_rfl⟩,
   ⟨⟨_,Try.underlying177,rfl,rfl,Try.sizeOf175,rfl,trivial⟩,Try.sizeOf177,Try.zeroValue177,(by show Try.prog.stoodInHeld 177=false;kernel_rfl),by kernel_rfl⟩,
   ⟨⟨_,Try.underlying178,rfl,rfl,Try.sizeOf177,rfl,rfl,rfl,Try.sizeOf4,rfl,rfl,rfl,Try.sizeOf30,rfl,rfl,rfl,Try.sizeOf3,rfl,trivial⟩,Try.sizeOf178,Try.zeroValue178,(by show Try.prog.stoodInHeld 178=false;kernel_rfl),by kernel_rfl⟩,
   ⟨⟨_,Try.underlying179,rfl,rfl,Try.sizeOf177,rfl,rfl,rfl,Try.sizeOf4,rfl,rfl,rfl,Try.sizeOf30,rfl,rfl,rfl,Try.sizeOf3,rfl,trivial⟩,Try.sizeOf179,Try.zeroValue179,(by show Try.prog.stoodInHeld 179=false;kernel_rfl),by kernel_rfl⟩,
   ⟨Try.underlying180,Try.sizeOf180,Try.zeroValue180,trivial,by kernel_rfl⟩,
   ⟨⟨_,_,_,Try.underlying185⟩,Try.sizeOf185,Try.zeroValue185,trivial,by kernel_rfl⟩,
   ⟨Try.underlying186,Try.sizeOf186,Try.zeroValue186,trivial,by kernel_rfl⟩,
   ⟨Try.underlying190,Try.sizeOf190,Try.zeroValue190,trivial,by kernel_rfl⟩,
   ⟨Try.underlying192,Try.sizeOf192,Try.zeroValue192,trivial,by kernel_rfl⟩,
   ⟨Try.underlying197,Try.sizeOf197,Try.zeroValue197,trivial,by kernel_rfl⟩,
   ⟨Try.underlying202,Try.sizeOf202,Try.zeroValue202,trivial,by kernel_rfl⟩,
   ⟨Try.underlying203,Try.sizeOf203,Try.zeroValue203,trivial,by kernel_rfl⟩,
   ⟨⟨_,_,_,Try.underlying207⟩,Try.sizeOf207,Try.zeroValue207,trivial,by kernel_rfl⟩,
   ⟨Try.underlying215,Try.sizeOf215,Try.zeroValue215,trivial,by kernel_rfl⟩,
   ⟨Try.underlying216,Try.sizeOf216,Try.zeroValue216,trivial,by kernel_rfl⟩,
   ⟨⟨_,_,_,Try.underlying217⟩,Try.sizeOf217,Try.zeroValue217,trivial,by kernel_rfl⟩,
   ⟨Try.underlying218,Try.sizeOf218,Try.zeroValue218,trivial,by kernel_rfl⟩,
   ⟨Try.underlying219,Try.sizeOf219,Try.zeroValue219,trivial,by kernel_rfl⟩,
   ⟨Try.underlying220,Try.sizeOf220,Try.zeroValue220,trivial,by kernel_rfl⟩,
   trivial⟩
set_option maxRecDepth 100000 in
theorem fnsGood:FGoods Try.prog [4,6,13,24,25,26,27,28,29,30,31,32,33,34,35,36,37,38,39,40,41,42,43,44,45,46,47,48,51,65,66,67,68,69,70,71,72,80,81,82,83,84,85,86,87,90,91,92,93,94,95,96,97,98,99,100,101,102,103,104,105,106,107,108,109,110,111,112,113,114,115,116,117,118,119,120,121,122,123,124,125,126,127,128,129,130,131,132] :=
  ⟨enters_of Try.func4 (by kernel_rfl) rfl,
   enters_of Try.func6 (by kernel_rfl) rfl,
   enters_of Try.func13 (by kernel_rfl) rfl,
   enters_of Try.func24 (by kernel_rfl) rfl,
   enters_of Try.func25 (by kernel_rfl) rfl,
   enters_of Try.func26 (by kernel_rfl) rfl,
   enters_of Try.func27 (by kernel_rfl) rfl,
   enters_of Try.func28 (by kernel_rfl) rfl,
   enters_of Try.func29 (by kernel_rfl) rfl,
   enters_of Try.func30 (by kernel_rfl) rfl,
   enters_of Try.func31 (by kernel_rfl) rfl,
   enters_of Try.func32 (by kernel_rfl) rfl,
   enters_of Try.func33 (by kernel_rfl) rfl,
   enters_of Try.func34 (by kernel_rfl) rfl,
   enters_of Try.func35 (by kernel_rfl) rfl,
   enters_of Try.func36 (by kernel_rfl) rfl,
   enters_of Try.func37 (by kernel_rfl) rfl,
   enters_of Try.func38 (by kernel_rfl) rfl,
   enters_of Try.func39 (by kernel_rfl) rfl,
   enters_of Try.func40 (by kernel_rfl) rfl,
   enters_of Try.func41 (by kernel_rfl) rfl,
   enters_of Try.func42 (by kernel_rfl) rfl,
   enters_of Try.func43 (by kernel_rfl) rfl,
   enters_of Try.func44 (by kernel_rfl) rfl,
   enters_of Try.func45 (by kernel_rfl) rfl,
   enters_of Try.func46 (by kernel_rfl) rfl,
   enters_of Try.func47 (by kernel_rfl) rfl,
   enters_of Try.func48 (by kernel_rfl) rfl,
   enters_of Try.func51 (by kernel_rfl) rfl,
   enters_of Try.func65 (by kernel_rfl) rfl,
   enters_of Try.func66 (by kernel_rfl) rfl,
   enters_of Try.func67 (by kernel_rfl) rfl,
   enters_of Try.func68 (by kernel_rfl) rfl,
   enters_of Try.func69 (by kernel_rfl) rfl,
   enters_of Try.func70 (by kernel_rfl) rfl,
   enters_of Try.func71 (by kernel_rfl) rfl,
   enters_of Try.func72 (by kernel_rfl) rfl,
   enters_of Try.func80 (by kernel_rfl) rfl,
   enters_of Try.func81 (by kernel_rfl) rfl,
   enters_of Try.func82 (by kernel_rfl) rfl,
   enters_of Try.func83 (by kernel_rfl) rfl,
   enters_of Try.func84 (by kernel_rfl) rfl,
   enters_of Try.func85 (by kernel_rfl) rfl,
   enters_of Try.func86 (by kernel_rfl) rfl,
   enters_of Try.func87 (by kernel_rfl) rfl,
   enters_of Try.func90 (by kernel_rfl) rfl,
   enters_of Try.func91 (by kernel_rfl) rfl,
   enters_of Try.func92 (by kernel_rfl) rfl,
   enters_of Try.func93 (by kernel_rfl) rfl,
   enters_of Try.func94 (by kernel_rfl) rfl,
   enters_of Try.func95 (by kernel_rfl) rfl,
   enters_of Try.func96 (by kernel_rfl) rfl,
   enters_of Try.func97 (by kernel_rfl) rfl,
   enters_of Try.func98 (by kernel_rfl) rfl,
   enters_of Try.func99 (by kernel_rfl) rfl,
   enters_of Try.func100 (by kernel_rfl) rfl,
   enters_of Try.func101 (by kernel_rfl) rfl,
   enters_of Try.func102 (by kernel_rfl) rfl,
   enters_of Try.func103 (by kernel_rfl) rfl,
   enters_of Try.func104 (by kernel_rfl) rfl,
   enters_of Try.func105 (by kernel_rfl) rfl,
   enters_of Try.func106 (by kernel_rfl) rfl,
   enters_of Try.func107 (by kernel_rfl) rfl,
   enters_of Try.func108 (by kernel_rfl) rfl,
   enters_of Try.func109 (by kernel_rfl) rfl,
   enters_of Try.func110 (by kernel_rfl) rfl,
   enters_of Try.func111 (by kernel_rfl) rfl,
   enters_of Try.func112 (by kernel_rfl) rfl,
   enters_of Try.func113 (by kernel_rfl) rfl,
   enters_of Try.func114 (by kernel_rfl) rfl,
   enters_of Try.func115 (by kernel_rfl) rfl,
   enters_of Try.func116 (by kernel_rfl) rfl,
   enters_of Try.func117 (by kernel_rfl) rfl,
   enters_of Try.func118 (by kernel_rfl) rfl,
   enters_of Try.func119 (by kernel_rfl) rfl,
   enters_of Try.func120 (by kernel_rfl) rfl,
   enters_of Try.func121 (by kernel_rfl) rfl,
   enters_of Try.func122 (by kernel_rfl) rfl,
   enters_of Try.func123 (by kernel_rfl) rfl,
   enters_of Try.func124 (by kernel_rfl) rfl,
   enters_of Try.func125 (by kernel_rfl) rfl,
   enters_of Try.func126 (by kernel_rfl) rfl,
   enters_of Try.func127 (by kernel_rfl) rfl,
   enters_of Try.func128 (by kernel_rfl) rfl,
   enters_of Try.func129 (by kernel_rfl) rfl,
   enters_of Try.func130 (by kernel_rfl) rfl,
   enters_of Try.func131 (by kernel_rfl) rfl,
   enters_of Try.func132 (by kernel_rfl) rfl,trivial⟩
theorem mixGood:Try.prog.follows .mixedOrders=true:=by kernel_rfl
def tb:Tb Try.prog:={ rows:=rowsTab,good:=rowsGood,fns:=[4,6,13,24,25,26,27,28,29,30,31,32,33,34,35,36,37,38,39,40,41,42,43,44,45,46,47,48,51,65,66,67,68,69,70,71,72,80,81,82,83,84,85,86,87,90,91,92,93,94,95,96,97,98,99,100,101,102,103,104,105,106,107,108,109,110,111,112,113,114,115,116,117,118,119,120,121,122,123,124,125,126,127,128,129,130,131,132],fgood:=fnsGood,mix:=mixGood,deep:=Nat.le_of_ble_eq_true (by kernel_rfl) }
set_option maxRecDepth 100000
def u8V (x:Int):List Value:=[.int .u8 x]
theorem u8V_len (x:Int):(u8V x).length=1:=rfl
theorem fl_u8 (bs:List Int):fl u8V bs=u8s bs:=by
  unfold fl u8s
  induction bs with
  | nil=>rfl
  | cons a l ih=>simp only [List.map_cons,List.flatten_cons,ih];rfl
def Byt (bs:List Int):Prop:=∀ x∈bs,0≤x∧x≤255
theorem rot_ok (x k s p q:Int) (h:andI .u64 (IntKind.u64.wrap k) 31=s) (h0:0 < s) (h1:s < 32) (hq:pw s.toNat=q) (hp:pw (32 - s).toNat=p):CallP Try.prog 131 [.int .u32 x,.int .i64 k] (.int .u32 (rotr x p q)):=by
  refine enterP (tb:=tb) Try.func131 rfl Try.ntmps131 rfl fun w=>?_
  have hs32:s.toNat≤IntKind.u32.bits:=by show s.toNat≤32;omega
  have hs33:(32 - s).toNat≤IntKind.u32.bits:=by show (32 - s).toNat≤32;omega
  repeat' (first|(apply R.is1;first|(apply R.isBin;first|(apply R.pure;exact rfl;first|(apply Ok1.andE;exact rfl;exact rfl;exact h)|(apply Ok1.subU;exact rfl;exact rfl;omega;omega)|(apply Ok1.shl;exact rfl;exact rfl;omega;exact hs32;exact hq)|(apply Ok1.shr;exact rfl;exact rfl;omega;exact hs33;exact hp)|(apply Ok1.orK;exact rfl;exact rfl)|(apply Ok1.sub64;exact rfl;exact rfl;omega;omega)|(apply Ok1.shr;exact rfl;exact rfl;omega;exact Nat.le_of_ble_eq_true rfl;(first|exact pwE1|exact pwE2|exact pwE3|exact pwE4|exact pwE5|exact pwE6|exact pwE7|exact pwE8|exact pwE16|exact pwE24|exact pwE32|exact rfl))))|(apply R.pure;exact rfl;first|(apply Ok1.move;exact rfl)|(apply Ok1.assign;exact rfl)|(apply Ok1.convI64;(iterate 5 exact rfl);omega;omega)|(apply Ok1.convU64;(iterate 5 exact rfl);omega;omega)|(apply Ok1.convU32;(iterate 5 exact rfl);omega;omega)|(apply Ok1.convU8;(iterate 5 exact rfl);omega;omega)|(apply Ok1.conv;(iterate 5 exact rfl))))|(apply R.is0;first|fail)|(apply R.isG;first|(apply R.guard_run;exact rfl;exact rfl)|(apply R.guard_not;(iterate 3 exact rfl))|(apply R.guard_not0;exact rfl;exact rfl)|(apply R.guard_un;(iterate 3 exact rfl))|(apply R.guard_un0;exact rfl;exact rfl)|(apply R.guard rfl rfl ?_ (fun h=>⟨rfl,?_⟩)<;>try intro))|apply R.nil|(apply T.is;first|apply T.seq|apply T.region|apply T.block|apply T.scope|apply T.label|apply T.skip|apply T.exit|apply T.ret|(apply T.cond_t;exact rfl)|(apply T.cond_f;exact rfl)|(apply T.cond_h;exact rfl;assumption)|(apply T.cond_n;exact rfl;assumption)|(apply T.cond rfl<;>intro))|apply Rnd.step)
  (apply RetOk.t;exact rfl)
  rfl
theorem turnedA_ok (x:Int):CallP Try.prog 130 [.int .u32 x,.int .i64 6,.int .i64 11,.int .i64 25] (.int .u32 (turned x 64 67108864 2048 2097152 33554432 128)):=by
  refine enterP (tb:=tb) Try.func130 rfl Try.ntmps130 rfl fun w=>?_
  repeat' (first|(apply R.is1;first|(apply R.isBin;first|(apply R.pure;exact rfl;first|(apply Ok1.xorK;exact rfl;exact rfl)))|(apply R.isCall;first|apply R.callP rfl rfl rfl (rot_ok x (IntKind.i64.wrap (0 - 6)) 26 64 67108864 (by decide +kernel) (by decide) (by decide) rfl rfl)|apply R.callP rfl rfl rfl (rot_ok x (IntKind.i64.wrap (0 - 11)) 21 2048 2097152 (by decide +kernel) (by decide) (by decide) rfl rfl)|apply R.callP rfl rfl rfl (rot_ok x (IntKind.i64.wrap (0 - 25)) 7 33554432 128 (by decide +kernel) (by decide) (by decide) rfl rfl))|(apply R.pure;exact rfl;first|(apply Ok1.move;exact rfl)|(apply Ok1.assign;exact rfl)|(apply Ok1.not_t;exact rfl)|(apply Ok1.not_f;exact rfl)|(apply Ok1.not;exact rfl)|(apply Ok1.neg;exact rfl)))|(apply R.is0;first|fail)|(apply R.isG;first|(apply R.guard_run;exact rfl;exact rfl)|(apply R.guard_not;(iterate 3 exact rfl))|(apply R.guard_not0;exact rfl;exact rfl)|(apply R.guard_un;(iterate 3 exact rfl))|(apply R.guard_un0;exact rfl;exact rfl)|(apply R.guard rfl rfl ?_ (fun h=>⟨rfl,?_⟩)<;>try intro))|apply R.nil|(apply T.is;first|apply T.seq|apply T.region|apply T.block|apply T.scope|apply T.label|apply T.skip|apply T.exit|apply T.ret|(apply T.cond_t;exact rfl)|(apply T.cond_f;exact rfl)|(apply T.cond_h;exact rfl;assumption)|(apply T.cond_n;exact rfl;assumption)|(apply T.cond rfl<;>intro))|apply Rnd.step)
  (apply RetOk.t;exact rfl)
  rfl
theorem turnedB_ok (x:Int):CallP Try.prog 130 [.int .u32 x,.int .i64 2,.int .i64 13,.int .i64 22] (.int .u32 (turned x 4 1073741824 8192 524288 4194304 1024)):=by
  refine enterP (tb:=tb) Try.func130 rfl Try.ntmps130 rfl fun w=>?_
  repeat' (first|(apply R.is1;first|(apply R.isBin;first|(apply R.pure;exact rfl;first|(apply Ok1.xorK;exact rfl;exact rfl)))|(apply R.isCall;first|apply R.callP rfl rfl rfl (rot_ok x (IntKind.i64.wrap (0 - 2)) 30 4 1073741824 (by decide +kernel) (by decide) (by decide) rfl rfl)|apply R.callP rfl rfl rfl (rot_ok x (IntKind.i64.wrap (0 - 13)) 19 8192 524288 (by decide +kernel) (by decide) (by decide) rfl rfl)|apply R.callP rfl rfl rfl (rot_ok x (IntKind.i64.wrap (0 - 22)) 10 4194304 1024 (by decide +kernel) (by decide) (by decide) rfl rfl))|(apply R.pure;exact rfl;first|(apply Ok1.move;exact rfl)|(apply Ok1.assign;exact rfl)|(apply Ok1.not_t;exact rfl)|(apply Ok1.not_f;exact rfl)|(apply Ok1.not;exact rfl)|(apply Ok1.neg;exact rfl)))|(apply R.is0;first|fail)|(apply R.isG;first|(apply R.guard_run;exact rfl;exact rfl)|(apply R.guard_not;(iterate 3 exact rfl))|(apply R.guard_not0;exact rfl;exact rfl)|(apply R.guard_un;(iterate 3 exact rfl))|(apply R.guard_un0;exact rfl;exact rfl)|(apply R.guard rfl rfl ?_ (fun h=>⟨rfl,?_⟩)<;>try intro))|apply R.nil|(apply T.is;first|apply T.seq|apply T.region|apply T.block|apply T.scope|apply T.label|apply T.skip|apply T.exit|apply T.ret|(apply T.cond_t;exact rfl)|(apply T.cond_f;exact rfl)|(apply T.cond_h;exact rfl;assumption)|(apply T.cond_n;exact rfl;assumption)|(apply T.cond rfl<;>intro))|apply Rnd.step)
  (apply RetOk.t;exact rfl)
  rfl
theorem table_ok:CallP Try.prog 129 [] (.agg ⟨u32s kI⟩):=by
  refine enterP (tb:=tb) Try.func129 rfl Try.ntmps129 rfl fun w=>?_
  repeat' (first|(apply R.is1;first|(apply R.pure;exact rfl;first|(apply Ok1.build;(iterate 5 exact rfl))|(apply Ok1.buildA;(iterate 6 exact rfl)))|(apply R.alloc;(iterate 3 exact rfl);intro))|(apply R.is0;first|(apply R.store;(iterate 6 exact rfl);(focus (repeat' first|exact Upd.head|apply Upd.tail|apply Upd.right);done);exact rfl)|fail)|(apply R.isG;first|(apply R.guard_run;exact rfl;exact rfl)|(apply R.guard_not;(iterate 3 exact rfl))|(apply R.guard_not0;exact rfl;exact rfl)|(apply R.guard_un;(iterate 3 exact rfl))|(apply R.guard_un0;exact rfl;exact rfl)|(apply R.guard rfl rfl ?_ (fun h=>⟨rfl,?_⟩)<;>try intro))|apply R.nil|(apply T.is;first|apply T.seq|apply T.region|apply T.block|apply T.scope|apply T.label|apply T.skip|apply T.exit|apply T.ret|(apply T.cond_t;exact rfl)|(apply T.cond_f;exact rfl)|(apply T.cond_h;exact rfl;assumption)|(apply T.cond_n;exact rfl;assumption)|(apply T.cond rfl<;>intro))|apply Rnd.step)
  (apply RetOk.c;exact rfl;(first|(apply Ld.ownk;exact rfl;exact rfl;(focus (repeat' first|exact At.head|apply At.tail|apply At.right);done);exact rfl)|(apply Ld.own1;exact rfl;exact rfl;(focus (repeat' first|exact At.head|apply At.tail|apply At.right);done);exact rfl)))
  rfl
theorem begun_ok:CallP Try.prog 118 [] (.agg ⟨h0I.v⟩):=by
  refine enterP (tb:=tb) Try.func118 rfl Try.ntmps118 rfl fun w=>?_
  repeat' (first|(apply R.is1;first|(apply R.pure;exact rfl;first|(apply Ok1.build;(iterate 5 exact rfl))|(apply Ok1.buildA;(iterate 6 exact rfl)))|(apply R.alloc;(iterate 3 exact rfl);intro))|(apply R.is0;first|(apply R.store;(iterate 6 exact rfl);(focus (repeat' first|exact Upd.head|apply Upd.tail|apply Upd.right);done);exact rfl)|fail)|(apply R.isG;first|(apply R.guard_run;exact rfl;exact rfl)|(apply R.guard_not;(iterate 3 exact rfl))|(apply R.guard_not0;exact rfl;exact rfl)|(apply R.guard_un;(iterate 3 exact rfl))|(apply R.guard_un0;exact rfl;exact rfl)|(apply R.guard rfl rfl ?_ (fun h=>⟨rfl,?_⟩)<;>try intro))|apply R.nil|(apply T.is;first|apply T.seq|apply T.region|apply T.block|apply T.scope|apply T.label|apply T.skip|apply T.exit|apply T.ret|(apply T.cond_t;exact rfl)|(apply T.cond_f;exact rfl)|(apply T.cond_h;exact rfl;assumption)|(apply T.cond_n;exact rfl;assumption)|(apply T.cond rfl<;>intro))|apply Rnd.step)
  (apply RetOk.c;exact rfl;(first|(apply Ld.ownk;exact rfl;exact rfl;(focus (repeat' first|exact At.head|apply At.tail|apply At.right);done);exact rfl)|(apply Ld.own1;exact rfl;exact rfl;(focus (repeat' first|exact At.head|apply At.tail|apply At.right);done);exact rfl)))
  rfl
theorem byt_get {bs:List Int} (hb:Byt bs) {i:Nat} (h:i < bs.length):∃ x,bs[i]? = some x∧bs.getD i 0=x∧0≤x∧x≤255:=⟨bs[i],List.getElem?_eq_getElem h,by simp [h],hb _ (List.getElem_mem h)⟩
theorem word_ok (p:Option Addr) (n cap:Nat) (bs:List Int) (hn:n=bs.length) (hl:4≤bs.length) (hb:Byt bs) (w:World) (hp:RdSl w p u8V bs):CallW Try.prog 132 [.slice p n cap] w fun v _=>v = .int .u32 (wordI (bs.getD 0 0) (bs.getD 1 0) (bs.getD 2 0) (bs.getD 3 0)):=by
  subst hn
  obtain ⟨x0,h0,g0,l0,u0⟩:=byt_get hb (i:=0) (by omega)
  obtain ⟨x1,h1,g1,l1,u1⟩:=byt_get hb (i:=1) (by omega)
  obtain ⟨x2,h2,g2,l2,u2⟩:=byt_get hb (i:=2) (by omega)
  obtain ⟨x3,h3,g3,l3,u3⟩:=byt_get hb (i:=3) (by omega)
  rw [g0,g1,g2,g3]
  obtain ⟨b,o,hpe,H0⟩:=hp.at h0
  replace H0:=H0 1 u8V_len
  obtain ⟨b',o',hpe1,H1⟩:=hp.at h1
  replace H1:=H1 1 u8V_len
  rw [hpe] at hpe1;cases hpe1
  obtain ⟨b',o',hpe1,H2⟩:=hp.at h2
  replace H2:=H2 1 u8V_len
  rw [hpe] at hpe1;cases hpe1
  obtain ⟨b',o',hpe1,H3⟩:=hp.at h3
  replace H3:=H3 1 u8V_len
  rw [hpe] at hpe1;cases hpe1
  refine enterW (tb:=tb) Try.func132 rfl Try.ntmps132 rfl ?_
  repeat' (first|(apply R.is1;first|(apply R.isBin;first|(apply R.pure;exact rfl;first|(apply Ok1.shl;exact rfl;exact rfl;omega;exact Nat.le_of_ble_eq_true rfl;exact rfl)|(apply Ok1.orK;exact rfl;exact rfl)))|(apply R.pure;exact rfl;first|(apply Ok1.indexAddrP;(iterate 4 exact rfl);exact hpe;exact rfl;omega;omega)|(apply Ok1.load;exact rfl;apply Ld.row0 H0;exact rfl;exact List.not_mem_nil;(iterate 3 exact rfl))|(apply Ok1.load;exact rfl;apply Ld.row0 H1;exact rfl;exact List.not_mem_nil;(iterate 3 exact rfl))|(apply Ok1.load;exact rfl;apply Ld.row0 H2;exact rfl;exact List.not_mem_nil;(iterate 3 exact rfl))|(apply Ok1.load;exact rfl;apply Ld.row0 H3;exact rfl;exact List.not_mem_nil;(iterate 3 exact rfl))|(apply Ok1.move;exact rfl)|(apply Ok1.load;exact rfl;first|(apply Ld.own1;exact rfl;exact rfl;(focus (repeat' first|exact At.head|apply At.tail|apply At.right);done);exact rfl)|(apply Ld.ownk;exact rfl;exact rfl;(focus (repeat' first|exact At.head|apply At.tail|apply At.right);done);exact rfl)|(apply Ld.old1;exact rfl;exact rfl;assumption;(first|exact List.not_mem_nil|assumption))|(apply Ld.blk1;exact rfl;exact rfl;assumption;(first|exact List.not_mem_nil|assumption);exact rfl)|(apply Ld.blkk;exact rfl;exact rfl;assumption;(first|exact List.not_mem_nil|assumption);exact rfl))|(apply Ok1.assign;exact rfl)|(apply Ok1.indexAddr;(iterate 5 exact rfl);omega;omega)|(apply Ok1.indexAddrA;(iterate 5 exact rfl);omega;omega)|(apply Ok1.convI64;(iterate 5 exact rfl);omega;omega)|(apply Ok1.convU64;(iterate 5 exact rfl);omega;omega)|(apply Ok1.convU32;(iterate 5 exact rfl);omega;omega)|(apply Ok1.convU8;(iterate 5 exact rfl);omega;omega)|(apply Ok1.conv;(iterate 5 exact rfl))))|(apply R.is0;first|fail)|(apply R.isG;first|(apply R.guard_run;exact rfl;exact rfl)|(apply R.guard_not;(iterate 3 exact rfl))|(apply R.guard_not0;exact rfl;exact rfl)|(apply R.guard_un;(iterate 3 exact rfl))|(apply R.guard_un0;exact rfl;exact rfl)|(apply R.guard rfl rfl ?_ (fun h=>⟨rfl,?_⟩)<;>try intro))|apply R.nil|(apply T.is;first|(apply T.drawC (id:=1) [] (by decide);((apply A.tk 0;exact rfl;kernel_rfl;first|(apply Ok1.move;exact rfl))<;>(apply A.tk 1;exact rfl;kernel_rfl;first|(apply Ok1.indexAddrP;(iterate 4 exact rfl);exact hpe;exact rfl;omega;omega)|(apply Ok1.indexAddr;(iterate 5 exact rfl);omega;omega)|(apply Ok1.indexAddrA;(iterate 5 exact rfl);omega;omega))<;>(apply A.tk 2;exact rfl;kernel_rfl;first|(apply Ok1.load;exact rfl;apply Ld.row0 H0;exact rfl;exact List.not_mem_nil;(iterate 3 exact rfl))|(apply Ok1.load;exact rfl;apply Ld.row0 H1;exact rfl;exact List.not_mem_nil;(iterate 3 exact rfl))|(apply Ok1.load;exact rfl;apply Ld.row0 H2;exact rfl;exact List.not_mem_nil;(iterate 3 exact rfl))|(apply Ok1.load;exact rfl;apply Ld.row0 H3;exact rfl;exact List.not_mem_nil;(iterate 3 exact rfl))|(apply Ok1.load;exact rfl;first|(apply Ld.own1;exact rfl;exact rfl;(focus (repeat' first|exact At.head|apply At.tail|apply At.right);done);exact rfl)|(apply Ld.ownk;exact rfl;exact rfl;(focus (repeat' first|exact At.head|apply At.tail|apply At.right);done);exact rfl)|(apply Ld.old1;exact rfl;exact rfl;assumption;(first|exact List.not_mem_nil|assumption))|(apply Ld.blk1;exact rfl;exact rfl;assumption;(first|exact List.not_mem_nil|assumption);exact rfl)|(apply Ld.blkk;exact rfl;exact rfl;assumption;(first|exact List.not_mem_nil|assumption);exact rfl)))<;>(apply A.tk 3;exact rfl;kernel_rfl;first|(apply Ok1.convI64;(iterate 5 exact rfl);omega;omega)|(apply Ok1.convU64;(iterate 5 exact rfl);omega;omega)|(apply Ok1.convU32;(iterate 5 exact rfl);omega;omega)|(apply Ok1.convU8;(iterate 5 exact rfl);omega;omega)|(apply Ok1.conv;(iterate 5 exact rfl)))<;>(apply A.tk 4;exact rfl;kernel_rfl;first|(apply Ok1.shl;exact rfl;exact rfl;omega;exact Nat.le_of_ble_eq_true rfl;exact rfl))<;>(apply A.tk 5;exact rfl;kernel_rfl;first|(apply Ok1.move;exact rfl))<;>(apply A.tk 6;exact rfl;kernel_rfl;first|(apply Ok1.indexAddrP;(iterate 4 exact rfl);exact hpe;exact rfl;omega;omega)|(apply Ok1.indexAddr;(iterate 5 exact rfl);omega;omega)|(apply Ok1.indexAddrA;(iterate 5 exact rfl);omega;omega))<;>(apply A.tk 7;exact rfl;kernel_rfl;first|(apply Ok1.load;exact rfl;apply Ld.row0 H0;exact rfl;exact List.not_mem_nil;(iterate 3 exact rfl))|(apply Ok1.load;exact rfl;apply Ld.row0 H1;exact rfl;exact List.not_mem_nil;(iterate 3 exact rfl))|(apply Ok1.load;exact rfl;apply Ld.row0 H2;exact rfl;exact List.not_mem_nil;(iterate 3 exact rfl))|(apply Ok1.load;exact rfl;apply Ld.row0 H3;exact rfl;exact List.not_mem_nil;(iterate 3 exact rfl))|(apply Ok1.load;exact rfl;first|(apply Ld.own1;exact rfl;exact rfl;(focus (repeat' first|exact At.head|apply At.tail|apply At.right);done);exact rfl)|(apply Ld.ownk;exact rfl;exact rfl;(focus (repeat' first|exact At.head|apply At.tail|apply At.right);done);exact rfl)|(apply Ld.old1;exact rfl;exact rfl;assumption;(first|exact List.not_mem_nil|assumption))|(apply Ld.blk1;exact rfl;exact rfl;assumption;(first|exact List.not_mem_nil|assumption);exact rfl)|(apply Ld.blkk;exact rfl;exact rfl;assumption;(first|exact List.not_mem_nil|assumption);exact rfl)))<;>(apply A.tk 8;exact rfl;kernel_rfl;first|(apply Ok1.convI64;(iterate 5 exact rfl);omega;omega)|(apply Ok1.convU64;(iterate 5 exact rfl);omega;omega)|(apply Ok1.convU32;(iterate 5 exact rfl);omega;omega)|(apply Ok1.convU8;(iterate 5 exact rfl);omega;omega)|(apply Ok1.conv;(iterate 5 exact rfl)))<;>(apply A.tk 9;exact rfl;kernel_rfl;first|(apply Ok1.shl;exact rfl;exact rfl;omega;exact Nat.le_of_ble_eq_true rfl;exact rfl))<;>(apply A.tk 10;exact rfl;kernel_rfl;first|(apply Ok1.orK;exact rfl;exact rfl))<;>(apply A.tk 11;exact rfl;kernel_rfl;first|(apply Ok1.move;exact rfl))<;>(apply A.tk 12;exact rfl;kernel_rfl;first|(apply Ok1.indexAddrP;(iterate 4 exact rfl);exact hpe;exact rfl;omega;omega)|(apply Ok1.indexAddr;(iterate 5 exact rfl);omega;omega)|(apply Ok1.indexAddrA;(iterate 5 exact rfl);omega;omega))<;>(apply A.tk 13;exact rfl;kernel_rfl;first|(apply Ok1.load;exact rfl;apply Ld.row0 H0;exact rfl;exact List.not_mem_nil;(iterate 3 exact rfl))|(apply Ok1.load;exact rfl;apply Ld.row0 H1;exact rfl;exact List.not_mem_nil;(iterate 3 exact rfl))|(apply Ok1.load;exact rfl;apply Ld.row0 H2;exact rfl;exact List.not_mem_nil;(iterate 3 exact rfl))|(apply Ok1.load;exact rfl;apply Ld.row0 H3;exact rfl;exact List.not_mem_nil;(iterate 3 exact rfl))|(apply Ok1.load;exact rfl;first|(apply Ld.own1;exact rfl;exact rfl;(focus (repeat' first|exact At.head|apply At.tail|apply At.right);done);exact rfl)|(apply Ld.ownk;exact rfl;exact rfl;(focus (repeat' first|exact At.head|apply At.tail|apply At.right);done);exact rfl)|(apply Ld.old1;exact rfl;exact rfl;assumption;(first|exact List.not_mem_nil|assumption))|(apply Ld.blk1;exact rfl;exact rfl;assumption;(first|exact List.not_mem_nil|assumption);exact rfl)|(apply Ld.blkk;exact rfl;exact rfl;assumption;(first|exact List.not_mem_nil|assumption);exact rfl)))<;>(apply A.tk 14;exact rfl;kernel_rfl;first|(apply Ok1.convI64;(iterate 5 exact rfl);omega;omega)|(apply Ok1.convU64;(iterate 5 exact rfl);omega;omega)|(apply Ok1.convU32;(iterate 5 exact rfl);omega;omega)|(apply Ok1.convU8;(iterate 5 exact rfl);omega;omega)|(apply Ok1.conv;(iterate 5 exact rfl)))<;>(apply A.tk 15;exact rfl;kernel_rfl;first|(apply Ok1.shl;exact rfl;exact rfl;omega;exact Nat.le_of_ble_eq_true rfl;exact rfl))<;>(apply A.tk 16;exact rfl;kernel_rfl;first|(apply Ok1.orK;exact rfl;exact rfl))<;>(apply A.tk 17;exact rfl;kernel_rfl;first|(apply Ok1.move;exact rfl))<;>(apply A.tk 18;exact rfl;kernel_rfl;first|(apply Ok1.indexAddrP;(iterate 4 exact rfl);exact hpe;exact rfl;omega;omega)|(apply Ok1.indexAddr;(iterate 5 exact rfl);omega;omega)|(apply Ok1.indexAddrA;(iterate 5 exact rfl);omega;omega))<;>(apply A.tk 19;exact rfl;kernel_rfl;first|(apply Ok1.load;exact rfl;apply Ld.row0 H0;exact rfl;exact List.not_mem_nil;(iterate 3 exact rfl))|(apply Ok1.load;exact rfl;apply Ld.row0 H1;exact rfl;exact List.not_mem_nil;(iterate 3 exact rfl))|(apply Ok1.load;exact rfl;apply Ld.row0 H2;exact rfl;exact List.not_mem_nil;(iterate 3 exact rfl))|(apply Ok1.load;exact rfl;apply Ld.row0 H3;exact rfl;exact List.not_mem_nil;(iterate 3 exact rfl))|(apply Ok1.load;exact rfl;first|(apply Ld.own1;exact rfl;exact rfl;(focus (repeat' first|exact At.head|apply At.tail|apply At.right);done);exact rfl)|(apply Ld.ownk;exact rfl;exact rfl;(focus (repeat' first|exact At.head|apply At.tail|apply At.right);done);exact rfl)|(apply Ld.old1;exact rfl;exact rfl;assumption;(first|exact List.not_mem_nil|assumption))|(apply Ld.blk1;exact rfl;exact rfl;assumption;(first|exact List.not_mem_nil|assumption);exact rfl)|(apply Ld.blkk;exact rfl;exact rfl;assumption;(first|exact List.not_mem_nil|assumption);exact rfl)))<;>(apply A.tk 20;exact rfl;kernel_rfl;first|(apply Ok1.convI64;(iterate 5 exact rfl);omega;omega)|(apply Ok1.convU64;(iterate 5 exact rfl);omega;omega)|(apply Ok1.convU32;(iterate 5 exact rfl);omega;omega)|(apply Ok1.convU8;(iterate 5 exact rfl);omega;omega)|(apply Ok1.conv;(iterate 5 exact rfl)))<;>(apply A.tk 21;exact rfl;kernel_rfl;first|(apply Ok1.orK;exact rfl;exact rfl))<;>(apply A.tk 22;exact rfl;kernel_rfl;first|(apply Ok1.assign;exact rfl))<;>(apply A.done;kernel_rfl)))|apply T.seq|apply T.region|apply T.block|apply T.scope|apply T.label|apply T.skip|apply T.exit|apply T.ret|(apply T.cond_t;exact rfl)|(apply T.cond_f;exact rfl)|(apply T.cond_h;exact rfl;assumption)|(apply T.cond_n;exact rfl;assumption)|(apply T.cond rfl<;>intro))|apply Rnd.step)
  (apply RetOk.t;exact rfl)
  exact congrArg _ (word_or ⟨l0,u0⟩ ⟨l1,u1⟩ ⟨l2,u2⟩ ⟨l3,u3⟩)
theorem u32s_app (a b:List Int):u32s (a++b)=u32s a++u32s b:=by simp [u32s]
theorem u32s_one (a:List Int):(u32s a).all Value.oneCell'=true:=by rw [List.all_eq_true];intro x hx;obtain ⟨y,_,rfl⟩:=List.mem_map.1 hx;rfl
theorem u32s_len (a:List Int):(u32s a).length=a.length:=by simp [u32s]
theorem arr_get {l:List Int} {zs:List Value} {k:Nat} (h:k < l.length):(u32s l++zs)[0+k * 1]? = some (.int .u32 (l.getD k 0)):=by
  rw [Nat.zero_add,Nat.mul_one,List.getElem?_append_left (by rw [u32s_len];exact h)]
  simp [u32s,h]
theorem arr_put (l:List Int) (x:Int) (z:Value) {k:Nat}:setE (u32s l++List.replicate (k+1) z) (0+l.length * 1) [.int .u32 x]=some (u32s (l++[x])++List.replicate k z):=by
  have:=setE_mid (u32s l) (vs:=[.int .u32 x]) (junk:=List.replicate (k+1) z) (by simp)
  rw [u32s_len] at this
  rw [Nat.zero_add,Nat.mul_one,this,u32s_app]
  rfl
theorem spread_ok (p:Option Addr) (n cap:Nat) (b:List Int) (hn:n=b.length) (hl:b.length=64) (hcap:n≤cap) (hb:Byt b) (w:World) (hp:RdSl w p u8V b):CallW Try.prog 128 [.slice p n cap] w fun v _=>v = .agg ⟨u32s (schedI b 64)⟩:=by
  refine enterW (tb:=tb) Try.func128 rfl Try.ntmps128 rfl ?_
  repeat' (first|(apply R.is1;first|(apply R.isBin;first|(apply R.pure;exact rfl;first|(apply Ok1.add64;exact rfl;exact rfl;omega;omega)|(apply Ok1.sub64;exact rfl;exact rfl;omega;omega)|(apply Ok1.lss_t;exact rfl;exact rfl;omega)|(apply Ok1.lss_f;exact rfl;exact rfl;omega)|(apply Ok1.mul64;exact rfl;exact rfl;omega;omega)|(apply Ok1.shr;exact rfl;exact rfl;omega;exact Nat.le_of_ble_eq_true rfl;(first|exact pwE1|exact pwE2|exact pwE3|exact pwE4|exact pwE5|exact pwE6|exact pwE7|exact pwE8|exact pwE16|exact pwE24|exact pwE32|exact rfl)))|(apply R.lss rfl rfl rfl<;>intro))|(apply R.pure;exact rfl;first|(apply Ok1.move;exact rfl)|(apply Ok1.load;exact rfl;first|(apply Ld.own1;exact rfl;exact rfl;(focus (repeat' first|exact At.head|apply At.tail|apply At.right);done);exact rfl)|(apply Ld.ownk;exact rfl;exact rfl;(focus (repeat' first|exact At.head|apply At.tail|apply At.right);done);exact rfl)|(apply Ld.old1;exact rfl;exact rfl;assumption;(first|exact List.not_mem_nil|assumption))|(apply Ld.blk1;exact rfl;exact rfl;assumption;(first|exact List.not_mem_nil|assumption);exact rfl)|(apply Ld.blkk;exact rfl;exact rfl;assumption;(first|exact List.not_mem_nil|assumption);exact rfl))|(apply Ok1.assign;exact rfl)|(apply Ok1.indexAddr;(iterate 5 exact rfl);omega;omega)|(apply Ok1.indexAddrA;(iterate 5 exact rfl);omega;omega)|(apply Ok1.slice0;(iterate 7 exact rfl);(refine ⟨?_,?_,?_⟩<;>omega);(first|exact Or.inl rfl|exact Or.inr (fun e=>by cases e)))|(apply Ok1.sliceTo;(iterate 6 exact rfl);omega;omega;omega;(first|exact Or.inl rfl|exact Or.inr (fun e=>by cases e)))|(apply Ok1.sliceFrom;(iterate 7 exact rfl);omega;omega;omega;omega;omega;(first|exact Or.inl rfl|exact Or.inr (fun e=>by cases e))))|(apply R.alloc;(iterate 3 exact rfl);intro))|(apply R.is0;first|(apply R.store;(iterate 6 exact rfl);(focus (repeat' first|exact Upd.head|apply Upd.tail|apply Upd.right);done);exact rfl)|fail)|(apply R.isG;first|(apply R.guard_run;exact rfl;exact rfl)|(apply R.guard_not;(iterate 3 exact rfl))|(apply R.guard_not0;exact rfl;exact rfl)|(apply R.guard_un;(iterate 3 exact rfl))|(apply R.guard_un0;exact rfl;exact rfl)|(apply R.guard rfl rfl ?_ (fun h=>⟨rfl,?_⟩)<;>try intro))|apply R.nil|(apply T.is;first|apply T.seq|apply T.region|apply T.block|apply T.scope|apply T.label|apply T.skip|apply T.exit|apply T.ret|(apply T.cond_t;exact rfl)|(apply T.cond_f;exact rfl)|(apply T.cond_h;exact rfl;assumption)|(apply T.cond_n;exact rfl;assumption)|(apply T.cond rfl<;>intro))|apply Rnd.step)
  rename_i b2 b3
  apply T.loopK (α:=Nat) (I:=fun i=>i≤64) (σi:=fun i=>[(0,.slice p n cap),(2,.pointer (some ⟨b2,0,none⟩)),(3,.pointer (some ⟨b3,0,none⟩)),(9,.int .i64 i)]) (Li:=fun i=>[(b3,.cells ⟨u32s (schedI b i)++List.replicate (64 - i) (.int .u32 0)⟩ 203 (0,0)),(b2,.cells ⟨List.replicate 64 (.int .u32 0)⟩ 203 (0,0))]) (μ:=fun i=>64 - i) (i0:=0)
  · exact Nat.zero_le _
  · exact ⟨rfl,rfl,rfl,rfl,trivial⟩
  · (focus (repeat' first|exact Keep.nil _|exact Ext.one _ _|exact Ext.here _ _|exact Ext.all _|apply Keep.cons|apply Keep.app|apply Keep.last|apply Ext.cons|apply Ext.app);done)
  · intro i hi
    have hsl:=sched_len b i
    have hsn:schedI b (i+1)=schedI b i++[nextI b (schedI b i)]:=rfl
    have hnx:nextI b (schedI b i)=nextI b (schedI b i):=rfl
    conv at hnx=>rhs;unfold nextI
    generalize hleq:schedI b i=l at *
    rcases Nat.lt_or_ge i 64 with hlt|hge
    · obtain ⟨k,hk⟩:∃ k,64 - i=k+1:=⟨63 - i,by omega⟩
      have hput:=fun x=>arr_put l x (.int .u32 0) (k:=k)
      rw [hsl] at hput
      rw [hk]
      rcases Nat.lt_or_ge i 16 with h16|h16
      · rw [if_pos (by omega),hsl] at hnx
        have hwd:∀ w1,Chg [] w w1→CallW Try.prog 132 [.slice (sufP p cap (4 * i) 1) (n - 4 * i) (cap - 4 * i)] w1 fun v _=>v = .int .u32 (nextI b l):=by
          intro w1 hc
          have:=word_ok (sufP p cap (4 * i) 1) (n - 4 * i) (cap - 4 * i) (b.drop (4 * i)) (by rw [List.length_drop,hn]) (by rw [List.length_drop];omega) (fun x hx=>hb x (List.mem_of_mem_drop hx)) w1 ((hp.suf u8V_len (by omega) (by omega)).chg hc (Off.nil _))
          rw [hnx]
          simpa only [List.getD_eq_getElem?_getD,List.getElem?_drop,Nat.add_zero] using this
        repeat' (first|(apply R.is1;first|(apply R.isBin;first|(apply R.pure;exact rfl;first|(apply Ok1.add64;exact rfl;exact rfl;omega;omega)|(apply Ok1.sub64;exact rfl;exact rfl;omega;omega)|(apply Ok1.lss_t;exact rfl;exact rfl;omega)|(apply Ok1.lss_f;exact rfl;exact rfl;omega)|(apply Ok1.mul64;exact rfl;exact rfl;omega;omega)|(apply Ok1.shr;exact rfl;exact rfl;omega;exact Nat.le_of_ble_eq_true rfl;(first|exact pwE1|exact pwE2|exact pwE3|exact pwE4|exact pwE5|exact pwE6|exact pwE7|exact pwE8|exact pwE16|exact pwE24|exact pwE32|exact rfl)))|(apply R.lss rfl rfl rfl<;>intro))|(apply R.isCall;first|(apply R.callV;(iterate 3 exact rfl);intro w1 hw1;exact hwd w1 hw1.chg))|(apply R.pure;exact rfl;first|(apply Ok1.sufR (i:=4 * i) (sz:=1);(iterate 6 exact rfl);omega;omega)|(apply Ok1.move;exact rfl)|(apply Ok1.load;exact rfl;first|(apply Ld.own1;exact rfl;exact rfl;(focus (repeat' first|exact At.head|apply At.tail|apply At.right);done);exact rfl)|(apply Ld.ownk;exact rfl;exact rfl;(focus (repeat' first|exact At.head|apply At.tail|apply At.right);done);exact rfl)|(apply Ld.old1;exact rfl;exact rfl;assumption;(first|exact List.not_mem_nil|assumption))|(apply Ld.blk1;exact rfl;exact rfl;assumption;(first|exact List.not_mem_nil|assumption);exact rfl)|(apply Ld.blkk;exact rfl;exact rfl;assumption;(first|exact List.not_mem_nil|assumption);exact rfl))|(apply Ok1.assign;exact rfl)|(apply Ok1.indexAddr;(iterate 5 exact rfl);omega;omega)|(apply Ok1.indexAddrA;(iterate 5 exact rfl);omega;omega)|(apply Ok1.slice0;(iterate 7 exact rfl);(refine ⟨?_,?_,?_⟩<;>omega);(first|exact Or.inl rfl|exact Or.inr (fun e=>by cases e)))|(apply Ok1.sliceTo;(iterate 6 exact rfl);omega;omega;omega;(first|exact Or.inl rfl|exact Or.inr (fun e=>by cases e)))|(apply Ok1.sliceFrom;(iterate 7 exact rfl);omega;omega;omega;omega;omega;(first|exact Or.inl rfl|exact Or.inr (fun e=>by cases e))))|(apply R.alloc;(iterate 3 exact rfl);intro))|(apply R.is0;first|(apply R.store;(iterate 6 exact rfl);(focus (repeat' first|exact Upd.head|apply Upd.tail|apply Upd.right);done);exact hput _)|(apply R.store;(iterate 6 exact rfl);(focus (repeat' first|exact Upd.head|apply Upd.tail|apply Upd.right);done);exact rfl)|fail)|(apply R.isG;first|(apply R.guard_run;exact rfl;exact rfl)|(apply R.guard_not;(iterate 3 exact rfl))|(apply R.guard_not0;exact rfl;exact rfl)|(apply R.guard_un;(iterate 3 exact rfl))|(apply R.guard_un0;exact rfl;exact rfl)|(apply R.guard rfl rfl ?_ (fun h=>⟨rfl,?_⟩)<;>try intro))|apply R.nil|(apply T.is;first|apply T.seq|apply T.region|apply T.block|apply T.scope|apply T.label|apply T.skip|apply T.exit|apply T.ret|(apply T.cond_t;exact rfl)|(apply T.cond_f;exact rfl)|(apply T.cond_h;exact rfl;assumption)|(apply T.cond_n;exact rfl;assumption)|(apply T.cond rfl<;>intro))|apply Rnd.step)
        refine ⟨i+1,by omega,by omega,⟨rfl,rfl,rfl,rfl,trivial⟩,?_⟩
        rw [hsn,show 64 - (i+1)=k by omega]
        (focus (repeat' first|exact Keep.nil _|exact Ext.one _ _|exact Ext.here _ _|exact Ext.all _|apply Keep.cons|apply Keep.app|apply Keep.last|apply Ext.cons|apply Ext.app);done)
      · rw [if_neg (by omega),hsl] at hnx
        have e15:((i:Int) - 15).toNat=i - 15:=by omega
        have e2:((i:Int) - 2).toNat=i - 2:=by omega
        have e16:((i:Int) - 16).toNat=i - 16:=by omega
        have e7:((i:Int) - 7).toNat=i - 7:=by omega
        have g15:(u32s l++List.replicate (k+1) (.int .u32 0))[0+((i:Int) - 15).toNat * 1]? = some (.int .u32 (l.getD (i - 15) 0)):=by rw [e15];exact arr_get (by omega)
        have g2:(u32s l++List.replicate (k+1) (.int .u32 0))[0+((i:Int) - 2).toNat * 1]? = some (.int .u32 (l.getD (i - 2) 0)):=by rw [e2];exact arr_get (by omega)
        have g16:(u32s l++List.replicate (k+1) (.int .u32 0))[0+((i:Int) - 16).toNat * 1]? = some (.int .u32 (l.getD (i - 16) 0)):=by rw [e16];exact arr_get (by omega)
        have g7:(u32s l++List.replicate (k+1) (.int .u32 0))[0+((i:Int) - 7).toNat * 1]? = some (.int .u32 (l.getD (i - 7) 0)):=by rw [e7];exact arr_get (by omega)
        generalize l.getD (i - 15) 0=x15 at *
        generalize l.getD (i - 2) 0=x2 at *
        generalize l.getD (i - 16) 0=x16 at *
        generalize l.getD (i - 7) 0=x7 at *
        repeat' (first|(apply R.is1;first|(apply R.isBin;first|(apply R.pure;exact rfl;first|(apply Ok1.xorK;exact rfl;exact rfl)|(apply Ok1.add32;exact rfl;exact rfl)|(apply Ok1.add64;exact rfl;exact rfl;omega;omega)|(apply Ok1.sub64;exact rfl;exact rfl;omega;omega)|(apply Ok1.lss_t;exact rfl;exact rfl;omega)|(apply Ok1.lss_f;exact rfl;exact rfl;omega)|(apply Ok1.mul64;exact rfl;exact rfl;omega;omega)|(apply Ok1.shr;exact rfl;exact rfl;omega;exact Nat.le_of_ble_eq_true rfl;(first|exact pwE1|exact pwE2|exact pwE3|exact pwE4|exact pwE5|exact pwE6|exact pwE7|exact pwE8|exact pwE16|exact pwE24|exact pwE32|exact rfl)))|(apply R.lss rfl rfl rfl<;>intro))|(apply R.isCall;first|apply R.callP rfl rfl rfl (rot_ok x15 (-7) 25 128 33554432 (by decide +kernel) (by decide) (by decide) rfl rfl)|apply R.callP rfl rfl rfl (rot_ok x15 (-18) 14 262144 16384 (by decide +kernel) (by decide) (by decide) rfl rfl)|apply R.callP rfl rfl rfl (rot_ok x2 (-17) 15 131072 32768 (by decide +kernel) (by decide) (by decide) rfl rfl)|apply R.callP rfl rfl rfl (rot_ok x2 (-19) 13 524288 8192 (by decide +kernel) (by decide) (by decide) rfl rfl))|(apply R.pure;exact rfl;first|(apply Ok1.load;exact rfl;apply Ld.own1;exact rfl;exact rfl;(focus (repeat' first|exact At.head|apply At.tail|apply At.right);done);with_reducible (first|exact g15|exact g2|exact g16|exact g7))|(apply Ok1.move;exact rfl)|(apply Ok1.load;exact rfl;first|(apply Ld.own1;exact rfl;exact rfl;(focus (repeat' first|exact At.head|apply At.tail|apply At.right);done);exact rfl)|(apply Ld.ownk;exact rfl;exact rfl;(focus (repeat' first|exact At.head|apply At.tail|apply At.right);done);exact rfl)|(apply Ld.old1;exact rfl;exact rfl;assumption;(first|exact List.not_mem_nil|assumption))|(apply Ld.blk1;exact rfl;exact rfl;assumption;(first|exact List.not_mem_nil|assumption);exact rfl)|(apply Ld.blkk;exact rfl;exact rfl;assumption;(first|exact List.not_mem_nil|assumption);exact rfl))|(apply Ok1.assign;exact rfl)|(apply Ok1.indexAddr;(iterate 5 exact rfl);omega;omega)|(apply Ok1.indexAddrA;(iterate 5 exact rfl);omega;omega)|(apply Ok1.slice0;(iterate 7 exact rfl);(refine ⟨?_,?_,?_⟩<;>omega);(first|exact Or.inl rfl|exact Or.inr (fun e=>by cases e)))|(apply Ok1.sliceTo;(iterate 6 exact rfl);omega;omega;omega;(first|exact Or.inl rfl|exact Or.inr (fun e=>by cases e)))|(apply Ok1.sliceFrom;(iterate 7 exact rfl);omega;omega;omega;omega;omega;(first|exact Or.inl rfl|exact Or.inr (fun e=>by cases e))))|(apply R.alloc;(iterate 3 exact rfl);intro))|(apply R.is0;first|(apply R.store;(iterate 6 exact rfl);(focus (repeat' first|exact Upd.head|apply Upd.tail|apply Upd.right);done);exact hput _)|(apply R.store;(iterate 6 exact rfl);(focus (repeat' first|exact Upd.head|apply Upd.tail|apply Upd.right);done);exact rfl)|fail)|(apply R.isG;first|(apply R.guard_run;exact rfl;exact rfl)|(apply R.guard_not;(iterate 3 exact rfl))|(apply R.guard_not0;exact rfl;exact rfl)|(apply R.guard_un;(iterate 3 exact rfl))|(apply R.guard_un0;exact rfl;exact rfl)|(apply R.guard rfl rfl ?_ (fun h=>⟨rfl,?_⟩)<;>try intro))|apply R.nil|(apply T.is;first|(apply T.drawC (id:=7) [0] (by decide);((apply A.tk 0;exact rfl;kernel_rfl;first|(apply Ok1.move;exact rfl))<;>(apply A.tk 1;exact rfl;kernel_rfl;first|(apply Ok1.sub64;exact rfl;exact rfl;omega;omega))<;>(apply A.tk 2;exact rfl;kernel_rfl;first|(apply Ok1.indexAddr;(iterate 5 exact rfl);omega;omega)|(apply Ok1.indexAddrA;(iterate 5 exact rfl);omega;omega))<;>(apply A.tk 3;exact rfl;kernel_rfl;first|(apply Ok1.load;exact rfl;apply Ld.own1;exact rfl;exact rfl;(focus (repeat' first|exact At.head|apply At.tail|apply At.right);done);with_reducible (first|exact g15|exact g2|exact g16|exact g7))|(apply Ok1.load;exact rfl;first|(apply Ld.own1;exact rfl;exact rfl;(focus (repeat' first|exact At.head|apply At.tail|apply At.right);done);exact rfl)|(apply Ld.ownk;exact rfl;exact rfl;(focus (repeat' first|exact At.head|apply At.tail|apply At.right);done);exact rfl)|(apply Ld.old1;exact rfl;exact rfl;assumption;(first|exact List.not_mem_nil|assumption))|(apply Ld.blk1;exact rfl;exact rfl;assumption;(first|exact List.not_mem_nil|assumption);exact rfl)|(apply Ld.blkk;exact rfl;exact rfl;assumption;(first|exact List.not_mem_nil|assumption);exact rfl)))<;>(apply A.tk 4;exact rfl;kernel_rfl;first|(apply Ok1.move;exact rfl))<;>(apply A.tk 5;exact rfl;kernel_rfl;first|(apply Ok1.sub64;exact rfl;exact rfl;omega;omega))<;>(apply A.tk 6;exact rfl;kernel_rfl;first|(apply Ok1.indexAddr;(iterate 5 exact rfl);omega;omega)|(apply Ok1.indexAddrA;(iterate 5 exact rfl);omega;omega))<;>(apply A.tk 7;exact rfl;kernel_rfl;first|(apply Ok1.load;exact rfl;apply Ld.own1;exact rfl;exact rfl;(focus (repeat' first|exact At.head|apply At.tail|apply At.right);done);with_reducible (first|exact g15|exact g2|exact g16|exact g7))|(apply Ok1.load;exact rfl;first|(apply Ld.own1;exact rfl;exact rfl;(focus (repeat' first|exact At.head|apply At.tail|apply At.right);done);exact rfl)|(apply Ld.ownk;exact rfl;exact rfl;(focus (repeat' first|exact At.head|apply At.tail|apply At.right);done);exact rfl)|(apply Ld.old1;exact rfl;exact rfl;assumption;(first|exact List.not_mem_nil|assumption))|(apply Ld.blk1;exact rfl;exact rfl;assumption;(first|exact List.not_mem_nil|assumption);exact rfl)|(apply Ld.blkk;exact rfl;exact rfl;assumption;(first|exact List.not_mem_nil|assumption);exact rfl)))<;>(apply A.tk 8;exact rfl;kernel_rfl;first|(apply Ok1.assign;exact rfl))<;>(apply A.tk 9;exact rfl;kernel_rfl;first|(apply Ok1.assign;exact rfl))<;>(apply A.done;kernel_rfl)))|(apply T.drawC (id:=10) [] (by decide);((apply A.tk 0;exact rfl;kernel_rfl;first|(apply Ok1.move;exact rfl))<;>(apply A.tk 1;exact rfl;kernel_rfl;first|(apply Ok1.move;exact rfl))<;>(apply A.tk 2;exact rfl;kernel_rfl;first|(apply Ok1.sub64;exact rfl;exact rfl;omega;omega))<;>(apply A.tk 3;exact rfl;kernel_rfl;first|(apply Ok1.indexAddr;(iterate 5 exact rfl);omega;omega)|(apply Ok1.indexAddrA;(iterate 5 exact rfl);omega;omega))<;>(apply A.tk 5;exact rfl;kernel_rfl;first|(apply Ok1.move;exact rfl))<;>(apply A.tk 7;exact rfl;kernel_rfl;first|(apply Ok1.move;exact rfl))<;>(apply A.tk 8;exact rfl;kernel_rfl;first|(apply Ok1.sub64;exact rfl;exact rfl;omega;omega))<;>(apply A.tk 9;exact rfl;kernel_rfl;first|(apply Ok1.indexAddr;(iterate 5 exact rfl);omega;omega)|(apply Ok1.indexAddrA;(iterate 5 exact rfl);omega;omega))<;>(apply A.tk 12;exact rfl;kernel_rfl;first|(apply Ok1.move;exact rfl))<;>(apply A.two 4 10;kernel_rfl;exact rfl;exact rfl;rotate_left 1;(focus ((((first|(apply R.pure;exact rfl;first|(apply Ok1.load;exact rfl;apply Ld.own1;exact rfl;exact rfl;(focus (repeat' first|exact At.head|apply At.tail|apply At.right);done);with_reducible (first|exact g15|exact g2|exact g16|exact g7))|(apply Ok1.load;exact rfl;first|(apply Ld.own1;exact rfl;exact rfl;(focus (repeat' first|exact At.head|apply At.tail|apply At.right);done);exact rfl)|(apply Ld.ownk;exact rfl;exact rfl;(focus (repeat' first|exact At.head|apply At.tail|apply At.right);done);exact rfl)|(apply Ld.old1;exact rfl;exact rfl;assumption;(first|exact List.not_mem_nil|assumption))|(apply Ld.blk1;exact rfl;exact rfl;assumption;(first|exact List.not_mem_nil|assumption);exact rfl)|(apply Ld.blkk;exact rfl;exact rfl;assumption;(first|exact List.not_mem_nil|assumption);exact rfl)))|fail));apply R.nil;refine ⟨?_,?_⟩;(focus (repeat' first|exact trivial|exact At.head|apply At.tail|apply At.right|refine ⟨?_,?_⟩)))<;>(apply A.one 4;kernel_rfl;exact rfl;((first|(apply R.pure;exact rfl;first|(apply Ok1.load;exact rfl;apply Ld.own1;exact rfl;exact rfl;(focus (repeat' first|exact At.head|apply At.tail|apply At.right);done);with_reducible (first|exact g15|exact g2|exact g16|exact g7))|(apply Ok1.load;exact rfl;first|(apply Ld.own1;exact rfl;exact rfl;(focus (repeat' first|exact At.head|apply At.tail|apply At.right);done);exact rfl)|(apply Ld.ownk;exact rfl;exact rfl;(focus (repeat' first|exact At.head|apply At.tail|apply At.right);done);exact rfl)|(apply Ld.old1;exact rfl;exact rfl;assumption;(first|exact List.not_mem_nil|assumption))|(apply Ld.blk1;exact rfl;exact rfl;assumption;(first|exact List.not_mem_nil|assumption);exact rfl)|(apply Ld.blkk;exact rfl;exact rfl;assumption;(first|exact List.not_mem_nil|assumption);exact rfl)))|fail));apply R.nil;refine ⟨?_,?_⟩;(focus (repeat' first|exact trivial|exact At.head|apply At.tail|apply At.right|refine ⟨?_,?_⟩)))<;>(apply A.tk 6;exact rfl;kernel_rfl;first|(apply Ok1.add32;exact rfl;exact rfl)|(apply Ok1.add64;exact rfl;exact rfl;omega;omega))<;>(apply A.tk 11;exact rfl;kernel_rfl;first|(apply Ok1.add32;exact rfl;exact rfl)|(apply Ok1.add64;exact rfl;exact rfl;omega;omega))<;>(apply A.tk 13;exact rfl;kernel_rfl;first|(apply Ok1.add32;exact rfl;exact rfl)|(apply Ok1.add64;exact rfl;exact rfl;omega;omega))<;>(apply A.tk 14;exact rfl;kernel_rfl;first|(apply Ok1.indexAddr;(iterate 5 exact rfl);omega;omega)|(apply Ok1.indexAddrA;(iterate 5 exact rfl);omega;omega))<;>(apply A.one 15;kernel_rfl;exact rfl;((first|(apply R.store;(iterate 6 exact rfl);(focus (repeat' first|exact Upd.head|apply Upd.tail|apply Upd.right);done);exact hput _)|(apply R.store;(iterate 6 exact rfl);(focus (repeat' first|exact Upd.head|apply Upd.tail|apply Upd.right);done);exact rfl)|fail));apply R.nil;refine ⟨?_,?_⟩;(focus (repeat' first|exact trivial|exact At.head|apply At.tail|apply At.right|refine ⟨?_,?_⟩)))<;>(apply A.done;kernel_rfl)));rotate_right 1;(focus ((((first|(apply R.pure;exact rfl;first|(apply Ok1.load;exact rfl;apply Ld.own1;exact rfl;exact rfl;(focus (repeat' first|exact At.head|apply At.tail|apply At.right);done);with_reducible (first|exact g15|exact g2|exact g16|exact g7))|(apply Ok1.load;exact rfl;first|(apply Ld.own1;exact rfl;exact rfl;(focus (repeat' first|exact At.head|apply At.tail|apply At.right);done);exact rfl)|(apply Ld.ownk;exact rfl;exact rfl;(focus (repeat' first|exact At.head|apply At.tail|apply At.right);done);exact rfl)|(apply Ld.old1;exact rfl;exact rfl;assumption;(first|exact List.not_mem_nil|assumption))|(apply Ld.blk1;exact rfl;exact rfl;assumption;(first|exact List.not_mem_nil|assumption);exact rfl)|(apply Ld.blkk;exact rfl;exact rfl;assumption;(first|exact List.not_mem_nil|assumption);exact rfl)))|fail));apply R.nil;refine ⟨?_,?_⟩;(focus (repeat' first|exact trivial|exact At.head|apply At.tail|apply At.right|refine ⟨?_,?_⟩)))<;>(apply A.tk 6;exact rfl;kernel_rfl;first|(apply Ok1.add32;exact rfl;exact rfl)|(apply Ok1.add64;exact rfl;exact rfl;omega;omega))<;>(apply A.one 10;kernel_rfl;exact rfl;((first|(apply R.pure;exact rfl;first|(apply Ok1.load;exact rfl;apply Ld.own1;exact rfl;exact rfl;(focus (repeat' first|exact At.head|apply At.tail|apply At.right);done);with_reducible (first|exact g15|exact g2|exact g16|exact g7))|(apply Ok1.load;exact rfl;first|(apply Ld.own1;exact rfl;exact rfl;(focus (repeat' first|exact At.head|apply At.tail|apply At.right);done);exact rfl)|(apply Ld.ownk;exact rfl;exact rfl;(focus (repeat' first|exact At.head|apply At.tail|apply At.right);done);exact rfl)|(apply Ld.old1;exact rfl;exact rfl;assumption;(first|exact List.not_mem_nil|assumption))|(apply Ld.blk1;exact rfl;exact rfl;assumption;(first|exact List.not_mem_nil|assumption);exact rfl)|(apply Ld.blkk;exact rfl;exact rfl;assumption;(first|exact List.not_mem_nil|assumption);exact rfl)))|fail));apply R.nil;refine ⟨?_,?_⟩;(focus (repeat' first|exact trivial|exact At.head|apply At.tail|apply At.right|refine ⟨?_,?_⟩)))<;>(apply A.tk 11;exact rfl;kernel_rfl;first|(apply Ok1.add32;exact rfl;exact rfl)|(apply Ok1.add64;exact rfl;exact rfl;omega;omega))<;>(apply A.tk 13;exact rfl;kernel_rfl;first|(apply Ok1.add32;exact rfl;exact rfl)|(apply Ok1.add64;exact rfl;exact rfl;omega;omega))<;>(apply A.tk 14;exact rfl;kernel_rfl;first|(apply Ok1.indexAddr;(iterate 5 exact rfl);omega;omega)|(apply Ok1.indexAddrA;(iterate 5 exact rfl);omega;omega))<;>(apply A.one 15;kernel_rfl;exact rfl;((first|(apply R.store;(iterate 6 exact rfl);(focus (repeat' first|exact Upd.head|apply Upd.tail|apply Upd.right);done);exact hput _)|(apply R.store;(iterate 6 exact rfl);(focus (repeat' first|exact Upd.head|apply Upd.tail|apply Upd.right);done);exact rfl)|fail));apply R.nil;refine ⟨?_,?_⟩;(focus (repeat' first|exact trivial|exact At.head|apply At.tail|apply At.right|refine ⟨?_,?_⟩)))<;>(apply A.done;kernel_rfl))))))|apply T.seq|apply T.region|apply T.block|apply T.scope|apply T.label|apply T.skip|apply T.exit|apply T.ret|(apply T.cond_t;exact rfl)|(apply T.cond_f;exact rfl)|(apply T.cond_h;exact rfl;assumption)|(apply T.cond_n;exact rfl;assumption)|(apply T.cond rfl<;>intro))|apply Rnd.step)
        all_goals refine ⟨i+1,by omega,by omega,⟨rfl,rfl,rfl,rfl,trivial⟩,?_⟩
        all_goals rw [hsn,hnx,show 64 - (i+1)=k by omega]
        all_goals (focus (repeat' first|exact Keep.nil _|exact Ext.one _ _|exact Ext.here _ _|exact Ext.all _|apply Keep.cons|apply Keep.app|apply Keep.last|apply Ext.cons|apply Ext.app);done)
    · have him:i=64:=by omega
      subst him
      rw [Nat.sub_self,List.replicate_zero,List.append_nil]
      rw [hleq]
      have hls:=u32s_len l
      rw [hsl] at hls
      have hsub:=subE_all hls
      have hset:∀ cs:List Value,cs.length=64→setE cs 0 (u32s l)=some (u32s l):=fun cs h=>setE_all (by rw [hls,h])
      have hone:=u32s_one l
      generalize u32s l=us at *
      repeat' (first|(apply R.is1;first|(apply R.isBin;first|(apply R.pure;exact rfl;first|(apply Ok1.add64;exact rfl;exact rfl;omega;omega)|(apply Ok1.sub64;exact rfl;exact rfl;omega;omega)|(apply Ok1.lss_t;exact rfl;exact rfl;omega)|(apply Ok1.lss_f;exact rfl;exact rfl;omega)|(apply Ok1.mul64;exact rfl;exact rfl;omega;omega)|(apply Ok1.shr;exact rfl;exact rfl;omega;exact Nat.le_of_ble_eq_true rfl;(first|exact pwE1|exact pwE2|exact pwE3|exact pwE4|exact pwE5|exact pwE6|exact pwE7|exact pwE8|exact pwE16|exact pwE24|exact pwE32|exact rfl)))|(apply R.lss rfl rfl rfl<;>intro))|(apply R.pure;exact rfl;first|(apply Ok1.load;exact rfl;apply Ld.ownk;exact rfl;exact rfl;(focus (repeat' first|exact At.head|apply At.tail|apply At.right);done);exact hsub)|(apply Ok1.move;exact rfl)|(apply Ok1.load;exact rfl;first|(apply Ld.own1;exact rfl;exact rfl;(focus (repeat' first|exact At.head|apply At.tail|apply At.right);done);exact rfl)|(apply Ld.ownk;exact rfl;exact rfl;(focus (repeat' first|exact At.head|apply At.tail|apply At.right);done);exact rfl)|(apply Ld.old1;exact rfl;exact rfl;assumption;(first|exact List.not_mem_nil|assumption))|(apply Ld.blk1;exact rfl;exact rfl;assumption;(first|exact List.not_mem_nil|assumption);exact rfl)|(apply Ld.blkk;exact rfl;exact rfl;assumption;(first|exact List.not_mem_nil|assumption);exact rfl))|(apply Ok1.assign;exact rfl)|(apply Ok1.indexAddr;(iterate 5 exact rfl);omega;omega)|(apply Ok1.indexAddrA;(iterate 5 exact rfl);omega;omega)|(apply Ok1.slice0;(iterate 7 exact rfl);(refine ⟨?_,?_,?_⟩<;>omega);(first|exact Or.inl rfl|exact Or.inr (fun e=>by cases e)))|(apply Ok1.sliceTo;(iterate 6 exact rfl);omega;omega;omega;(first|exact Or.inl rfl|exact Or.inr (fun e=>by cases e)))|(apply Ok1.sliceFrom;(iterate 7 exact rfl);omega;omega;omega;omega;omega;(first|exact Or.inl rfl|exact Or.inr (fun e=>by cases e))))|(apply R.alloc;(iterate 3 exact rfl);intro))|(apply R.is0;first|(apply R.store;(iterate 4 exact rfl);exact hls;exact hone;(focus (repeat' first|exact Upd.head|apply Upd.tail|apply Upd.right);done);exact hset _ rfl)|(apply R.store;(iterate 6 exact rfl);(focus (repeat' first|exact Upd.head|apply Upd.tail|apply Upd.right);done);exact rfl)|fail)|(apply R.isG;first|(apply R.guard_run;exact rfl;exact rfl)|(apply R.guard_not;(iterate 3 exact rfl))|(apply R.guard_not0;exact rfl;exact rfl)|(apply R.guard_un;(iterate 3 exact rfl))|(apply R.guard_un0;exact rfl;exact rfl)|(apply R.guard rfl rfl ?_ (fun h=>⟨rfl,?_⟩)<;>try intro))|apply R.nil|(apply T.is;first|apply T.seq|apply T.region|apply T.block|apply T.scope|apply T.label|apply T.skip|apply T.exit|apply T.ret|(apply T.cond_t;exact rfl)|(apply T.cond_f;exact rfl)|(apply T.cond_h;exact rfl;assumption)|(apply T.cond_n;exact rfl;assumption)|(apply T.cond rfl<;>intro))|apply Rnd.step)
      apply RetOk.c
      exact rfl
      apply Ld.ownk
      exact rfl
      exact rfl
      (focus (repeat' first|exact At.head|apply At.tail|apply At.right);done)
      exact hsub
      rfl
/-- What a block's rounds hold. -/
theorem mix_ok (r:Nat) (s:H8) (rest:List Value) (e:TypeId) (p:Option Addr) (n cap:Nat) (b:List Int) (hn:n=b.length) (hl:b.length=64) (hcap:n≤cap) (hb:Byt b) (w:World) (hp:RdSl w p u8V b) (hoff:Off p [r]) :
    CallM Try.prog 126 [.pointer (some ⟨r,0,none⟩),.slice p n cap] [(r,.cells ⟨s.v++rest⟩ e (0,0))] w fun v L=>v = .tuple #[]∧L=[(r,.cells ⟨(mixI kI b s).v++rest⟩ e (0,0))]:=by
  refine enterK (tb:=tb) Try.func126 rfl Try.ntmps126 rfl ?_
  have hls:=u32s_len (schedI b 64)
  have hsl:=sched_len b 64
  rw [hsl] at hls
  have hset:∀ cs:List Value,cs.length=64→setE cs 0 (u32s (schedI b 64))=some (u32s (schedI b 64)):=fun cs h=>setE_all (by rw [hls,h])
  have hgw:∀ i,i < 64→(u32s (schedI b 64))[0+i * 1]? = some (.int .u32 ((schedI b 64).getD i 0)):=fun i hi=>by have:=arr_get (l:=schedI b 64) (zs:=[]) (k:=i) (by omega);rwa [List.append_nil] at this
  have hgk:∀ i,i < 64→(u32s kI)[0+i * 1]? = some (.int .u32 (kI.getD i 0)):=fun i hi=>by have:=arr_get (l:=kI) (zs:=[]) (k:=i) (by rw [kI_len];exact hi);rwa [List.append_nil] at this
  have hmix:mixI kI b s=addH s (roundsI kI (schedI b 64) s 64):=rfl
  have hr0:roundsI kI (schedI b 64) s 0=s:=rfl
  have hrs:∀ i,roundsI kI (schedI b 64) s (i+1)=stepI (roundsI kI (schedI b 64) s i) (kI.getD i 0) ((schedI b 64).getD i 0):=fun _=>rfl
  have hset2:∀ cs:List Value,cs.length=64→setE cs 0 (u32s kI)=some (u32s kI):=fun cs h=>setE_all (by rw [u32s_len,kI_len,h])
  have hspr:∀ w1,Chg [r] w w1→CallW Try.prog 128 [.slice p n cap] w1 fun v _=>v = .agg ⟨u32s (schedI b 64)⟩:=fun w1 hc=>spread_ok p n cap b hn hl hcap hb w1 (hp.chg hc hoff)
  have htab:=table_ok
  have hsv:subE (s.v++rest) 0 8=some s.v:=subE_app _ _ rfl
  have hset8:∀ cs:List Value,cs.length=8→setE cs 0 s.v=some s.v:=fun cs h=>setE_all (by rw [h];rfl)
  have hone:=u32s_one (schedI b 64)
  have hone2:=u32s_one kI
  have hkl:(u32s kI).length=64:=by rw [u32s_len,kI_len]
  generalize hK:u32s kI=ks at *
  generalize roundsI kI (schedI b 64) s=rs at *
  generalize hW:u32s (schedI b 64)=us at *
  repeat' (first|(apply R.is1;first|(apply R.isBin;first|(apply R.pure;exact rfl;first|(apply Ok1.add64;exact rfl;exact rfl;omega;omega)|(apply Ok1.lss_t;exact rfl;exact rfl;omega)|(apply Ok1.lss_f;exact rfl;exact rfl;omega))|(apply R.lss rfl rfl rfl<;>intro))|(apply R.isCall;first|(apply R.callV;(iterate 3 exact rfl);intro w1 hw1;exact hspr w1 hw1.chg)|apply R.callP rfl rfl rfl htab)|(apply R.pure;exact rfl;first|(apply Ok1.load;exact rfl;apply Ld.ownk;exact rfl;exact rfl;(focus (repeat' first|exact At.head|apply At.tail|apply At.right);done);exact hsv)|(apply Ok1.move;exact rfl)|(apply Ok1.fieldAddr;(iterate 5 exact rfl))|(apply Ok1.load;exact rfl;first|(apply Ld.own1;exact rfl;exact rfl;(focus (repeat' first|exact At.head|apply At.tail|apply At.right);done);exact rfl)|(apply Ld.ownk;exact rfl;exact rfl;(focus (repeat' first|exact At.head|apply At.tail|apply At.right);done);exact rfl)|(apply Ld.old1;exact rfl;exact rfl;assumption;(first|exact List.not_mem_nil|assumption))|(apply Ld.blk1;exact rfl;exact rfl;assumption;(first|exact List.not_mem_nil|assumption);exact rfl)|(apply Ld.blkk;exact rfl;exact rfl;assumption;(first|exact List.not_mem_nil|assumption);exact rfl))|(apply Ok1.assign;exact rfl)|(apply Ok1.indexAddr;(iterate 5 exact rfl);omega;omega)|(apply Ok1.indexAddrA;(iterate 5 exact rfl);omega;omega)|(apply Ok1.build;(iterate 5 exact rfl))|(apply Ok1.not_t;exact rfl)|(apply Ok1.not_f;exact rfl)|(apply Ok1.not;exact rfl)|(apply Ok1.nilCheck;exact rfl)|(apply Ok1.nilCheckF;exact rfl)|(apply Ok1.buildA;(iterate 6 exact rfl))|(apply Ok1.neg;exact rfl))|(apply R.alloc;(iterate 3 exact rfl);intro))|(apply R.is0;first|(apply R.store;(iterate 4 exact rfl);exact hls;exact hone;(focus (repeat' first|exact Upd.head|apply Upd.tail|apply Upd.right);done);exact hset _ rfl)|(apply R.store;(iterate 4 exact rfl);exact hkl;exact hone2;(focus (repeat' first|exact Upd.head|apply Upd.tail|apply Upd.right);done);exact hset2 _ rfl)|(apply R.store;(iterate 6 exact rfl);(focus (repeat' first|exact Upd.head|apply Upd.tail|apply Upd.right);done);exact hset8 _ rfl)|(apply R.store;(iterate 6 exact rfl);(focus (repeat' first|exact Upd.head|apply Upd.tail|apply Upd.right);done);exact rfl)|fail)|(apply R.isG;first|(apply R.guard_run;exact rfl;exact rfl)|(apply R.guard_not;(iterate 3 exact rfl))|(apply R.guard_not0;exact rfl;exact rfl)|(apply R.guard_un;(iterate 3 exact rfl))|(apply R.guard_un0;exact rfl;exact rfl)|(apply R.guard rfl rfl ?_ (fun h=>⟨rfl,?_⟩)<;>try intro))|apply R.nil|(apply T.is;first|apply T.seq|apply T.region|apply T.block|apply T.scope|apply T.label|apply T.skip|apply T.exit|apply T.ret|(apply T.cond_t;exact rfl)|(apply T.cond_f;exact rfl)|(apply T.cond_h;exact rfl;assumption)|(apply T.cond_n;exact rfl;assumption)|(apply T.cond rfl<;>intro))|apply Rnd.step)
  rename_i b4 b5 b6
  apply T.loopK (α:=Nat) (I:=fun i=>i≤64) (σi:=fun i=>[(0,.pointer (some ⟨r,0,none⟩)),(4,.pointer (some ⟨b4,0,none⟩)),(5,.pointer (some ⟨b5,0,none⟩)),(6,.pointer (some ⟨b6,0,none⟩)),(7,.func (.func 130) #[] #[]),(19,.int .i64 i)])
    (Li:=fun i=>[(b6,.cells ⟨(rs i).v⟩ 175 (0,0)),(b5,.cells ⟨ks⟩ 203 (0,0)),(b4,.cells ⟨us⟩ 203 (0,0)),(r,.cells ⟨s.v++rest⟩ e (0,0))]) (μ:=fun i=>64 - i) (i0:=0)
  · exact Nat.zero_le _
  · exact ⟨rfl,rfl,rfl,rfl,rfl,rfl,trivial⟩
  · rw [hr0];(focus (repeat' first|exact Keep.nil _|exact Ext.one _ _|exact Ext.here _ _|exact Ext.all _|apply Keep.cons|apply Keep.app|apply Keep.last|apply Ext.cons|apply Ext.app);done)
  · intro i hi
    rcases Nat.lt_or_ge i 64 with hlt|hge
    · have g1:=hgk i hlt
      have g2:=hgw i hlt
      have hst:=hrs i
      generalize kI.getD i 0=ki at *
      generalize (schedI b 64).getD i 0=wi at *
      generalize rs i=st at *
      repeat' (first|(apply R.is1;first|(apply R.isBin;first|(apply R.pure;exact rfl;first|(apply Ok1.xorK;exact rfl;exact rfl)|(apply Ok1.andK;exact rfl;exact rfl)|(apply Ok1.add32;exact rfl;exact rfl)|(apply Ok1.add64;exact rfl;exact rfl;omega;omega)|(apply Ok1.lss_t;exact rfl;exact rfl;omega)|(apply Ok1.lss_f;exact rfl;exact rfl;omega))|(apply R.lss rfl rfl rfl<;>intro))|(apply R.isCall;first|(apply R.callFP (fa:=[]) (cb:=[]);(iterate 4 exact rfl);first|exact turnedA_ok _|exact turnedB_ok _))|(apply R.pure;exact rfl;first|(apply Ok1.load;exact rfl;apply Ld.own1;exact rfl;exact rfl;(focus (repeat' first|exact At.head|apply At.tail|apply At.right);done);first|exact g1|exact g2)|(apply Ok1.cplK;exact rfl;exact rfl)|(apply Ok1.move;exact rfl)|(apply Ok1.fieldAddr;(iterate 5 exact rfl))|(apply Ok1.load;exact rfl;first|(apply Ld.own1;exact rfl;exact rfl;(focus (repeat' first|exact At.head|apply At.tail|apply At.right);done);exact rfl)|(apply Ld.ownk;exact rfl;exact rfl;(focus (repeat' first|exact At.head|apply At.tail|apply At.right);done);exact rfl)|(apply Ld.old1;exact rfl;exact rfl;assumption;(first|exact List.not_mem_nil|assumption))|(apply Ld.blk1;exact rfl;exact rfl;assumption;(first|exact List.not_mem_nil|assumption);exact rfl)|(apply Ld.blkk;exact rfl;exact rfl;assumption;(first|exact List.not_mem_nil|assumption);exact rfl))|(apply Ok1.assign;exact rfl)|(apply Ok1.indexAddr;(iterate 5 exact rfl);omega;omega)|(apply Ok1.indexAddrA;(iterate 5 exact rfl);omega;omega)|(apply Ok1.build;(iterate 5 exact rfl))|(apply Ok1.not_t;exact rfl)|(apply Ok1.not_f;exact rfl)|(apply Ok1.not;exact rfl)|(apply Ok1.nilCheck;exact rfl)|(apply Ok1.nilCheckF;exact rfl)|(apply Ok1.buildA;(iterate 6 exact rfl))|(apply Ok1.neg;exact rfl))|(apply R.alloc;(iterate 3 exact rfl);intro))|(apply R.is0;first|(apply R.store;(iterate 6 exact rfl);(focus (repeat' first|exact Upd.head|apply Upd.tail|apply Upd.right);done);exact setE_all rfl)|(apply R.store;(iterate 6 exact rfl);(focus (repeat' first|exact Upd.head|apply Upd.tail|apply Upd.right);done);exact rfl)|fail)|(apply R.isG;first|(apply R.guard_run;exact rfl;exact rfl)|(apply R.guard_not;(iterate 3 exact rfl))|(apply R.guard_not0;exact rfl;exact rfl)|(apply R.guard_un;(iterate 3 exact rfl))|(apply R.guard_un0;exact rfl;exact rfl)|(apply R.guard rfl rfl ?_ (fun h=>⟨rfl,?_⟩)<;>try intro))|apply R.nil|(apply T.is;first|(apply T.drawC (id:=6) [0,1,2] (by decide);(((apply A.tk 0;exact rfl;kernel_rfl;first|(apply Ok1.indexAddr;(iterate 5 exact rfl);omega;omega)|(apply Ok1.indexAddrA;(iterate 5 exact rfl);omega;omega));refine A.cast (listed':=#[true,false,false,false,false,false,false,false,false,false,false,false,false,false,false,false,false,false,false,false,false,false,false,false,false,false,false,false,false]) (by kernel_rfl) ?_)<;>((apply A.tk 1;exact rfl;kernel_rfl;first|(apply Ok1.load;exact rfl;apply Ld.own1;exact rfl;exact rfl;(focus (repeat' first|exact At.head|apply At.tail|apply At.right);done);first|exact g1|exact g2)|(apply Ok1.load;exact rfl;first|(apply Ld.own1;exact rfl;exact rfl;(focus (repeat' first|exact At.head|apply At.tail|apply At.right);done);exact rfl)|(apply Ld.ownk;exact rfl;exact rfl;(focus (repeat' first|exact At.head|apply At.tail|apply At.right);done);exact rfl)|(apply Ld.old1;exact rfl;exact rfl;assumption;(first|exact List.not_mem_nil|assumption))|(apply Ld.blk1;exact rfl;exact rfl;assumption;(first|exact List.not_mem_nil|assumption);exact rfl)|(apply Ld.blkk;exact rfl;exact rfl;assumption;(first|exact List.not_mem_nil|assumption);exact rfl)));refine A.cast (listed':=#[true,true,false,false,false,false,false,false,false,false,false,false,false,false,false,false,false,false,false,false,false,false,false,false,false,false,false,false,false]) (by kernel_rfl) ?_)<;>((apply A.tk 2;exact rfl;kernel_rfl;first|(apply Ok1.move;exact rfl));refine A.cast (listed':=#[true,true,true,false,false,false,false,false,false,false,false,false,false,false,false,false,false,false,false,false,false,false,false,false,false,false,false,false,false]) (by kernel_rfl) ?_)<;>((apply A.tk 3;exact rfl;kernel_rfl;first|(apply Ok1.indexAddr;(iterate 5 exact rfl);omega;omega)|(apply Ok1.indexAddrA;(iterate 5 exact rfl);omega;omega));refine A.cast (listed':=#[true,true,true,true,false,false,false,false,false,false,false,false,false,false,false,false,false,false,false,false,false,false,false,false,false,false,false,false,false]) (by kernel_rfl) ?_)<;>((apply A.tk 4;exact rfl;kernel_rfl;first|(apply Ok1.load;exact rfl;apply Ld.own1;exact rfl;exact rfl;(focus (repeat' first|exact At.head|apply At.tail|apply At.right);done);first|exact g1|exact g2)|(apply Ok1.load;exact rfl;first|(apply Ld.own1;exact rfl;exact rfl;(focus (repeat' first|exact At.head|apply At.tail|apply At.right);done);exact rfl)|(apply Ld.ownk;exact rfl;exact rfl;(focus (repeat' first|exact At.head|apply At.tail|apply At.right);done);exact rfl)|(apply Ld.old1;exact rfl;exact rfl;assumption;(first|exact List.not_mem_nil|assumption))|(apply Ld.blk1;exact rfl;exact rfl;assumption;(first|exact List.not_mem_nil|assumption);exact rfl)|(apply Ld.blkk;exact rfl;exact rfl;assumption;(first|exact List.not_mem_nil|assumption);exact rfl)));refine A.cast (listed':=#[true,true,true,true,true,false,false,false,false,false,false,false,false,false,false,false,false,false,false,false,false,false,false,false,false,false,false,false,false]) (by kernel_rfl) ?_)<;>((apply A.tk 7;exact rfl;kernel_rfl;first|(apply Ok1.indexAddr;(iterate 5 exact rfl);omega;omega)|(apply Ok1.indexAddrA;(iterate 5 exact rfl);omega;omega));refine A.cast (listed':=#[true,true,true,true,true,false,false,true,false,false,false,false,false,false,false,false,false,false,false,false,false,false,false,false,false,false,false,false,false]) (by kernel_rfl) ?_)<;>((apply A.tk 8;exact rfl;kernel_rfl;first|(apply Ok1.load;exact rfl;apply Ld.own1;exact rfl;exact rfl;(focus (repeat' first|exact At.head|apply At.tail|apply At.right);done);first|exact g1|exact g2)|(apply Ok1.load;exact rfl;first|(apply Ld.own1;exact rfl;exact rfl;(focus (repeat' first|exact At.head|apply At.tail|apply At.right);done);exact rfl)|(apply Ld.ownk;exact rfl;exact rfl;(focus (repeat' first|exact At.head|apply At.tail|apply At.right);done);exact rfl)|(apply Ld.old1;exact rfl;exact rfl;assumption;(first|exact List.not_mem_nil|assumption))|(apply Ld.blk1;exact rfl;exact rfl;assumption;(first|exact List.not_mem_nil|assumption);exact rfl)|(apply Ld.blkk;exact rfl;exact rfl;assumption;(first|exact List.not_mem_nil|assumption);exact rfl)));refine A.cast (listed':=#[true,true,true,true,true,false,false,true,true,false,false,false,false,false,false,false,false,false,false,false,false,false,false,false,false,false,false,false,false]) (by kernel_rfl) ?_)<;>((apply A.tk 9;exact rfl;kernel_rfl;first|(apply Ok1.indexAddr;(iterate 5 exact rfl);omega;omega)|(apply Ok1.indexAddrA;(iterate 5 exact rfl);omega;omega));refine A.cast (listed':=#[true,true,true,true,true,false,false,true,true,true,false,false,false,false,false,false,false,false,false,false,false,false,false,false,false,false,false,false,false]) (by kernel_rfl) ?_)<;>((apply A.tk 10;exact rfl;kernel_rfl;first|(apply Ok1.load;exact rfl;apply Ld.own1;exact rfl;exact rfl;(focus (repeat' first|exact At.head|apply At.tail|apply At.right);done);first|exact g1|exact g2)|(apply Ok1.load;exact rfl;first|(apply Ld.own1;exact rfl;exact rfl;(focus (repeat' first|exact At.head|apply At.tail|apply At.right);done);exact rfl)|(apply Ld.ownk;exact rfl;exact rfl;(focus (repeat' first|exact At.head|apply At.tail|apply At.right);done);exact rfl)|(apply Ld.old1;exact rfl;exact rfl;assumption;(first|exact List.not_mem_nil|assumption))|(apply Ld.blk1;exact rfl;exact rfl;assumption;(first|exact List.not_mem_nil|assumption);exact rfl)|(apply Ld.blkk;exact rfl;exact rfl;assumption;(first|exact List.not_mem_nil|assumption);exact rfl)));refine A.cast (listed':=#[true,true,true,true,true,false,false,true,true,true,true,false,false,false,false,false,false,false,false,false,false,false,false,false,false,false,false,false,false]) (by kernel_rfl) ?_)<;>((apply A.tk 11;exact rfl;kernel_rfl;first|(apply Ok1.andK;exact rfl;exact rfl));refine A.cast (listed':=#[true,true,true,true,true,false,false,true,true,true,true,true,false,false,false,false,false,false,false,false,false,false,false,false,false,false,false,false,false]) (by kernel_rfl) ?_)<;>((apply A.tk 12;exact rfl;kernel_rfl;first|(apply Ok1.indexAddr;(iterate 5 exact rfl);omega;omega)|(apply Ok1.indexAddrA;(iterate 5 exact rfl);omega;omega));refine A.cast (listed':=#[true,true,true,true,true,false,false,true,true,true,true,true,true,false,false,false,false,false,false,false,false,false,false,false,false,false,false,false,false]) (by kernel_rfl) ?_)<;>((apply A.tk 13;exact rfl;kernel_rfl;first|(apply Ok1.load;exact rfl;apply Ld.own1;exact rfl;exact rfl;(focus (repeat' first|exact At.head|apply At.tail|apply At.right);done);first|exact g1|exact g2)|(apply Ok1.load;exact rfl;first|(apply Ld.own1;exact rfl;exact rfl;(focus (repeat' first|exact At.head|apply At.tail|apply At.right);done);exact rfl)|(apply Ld.ownk;exact rfl;exact rfl;(focus (repeat' first|exact At.head|apply At.tail|apply At.right);done);exact rfl)|(apply Ld.old1;exact rfl;exact rfl;assumption;(first|exact List.not_mem_nil|assumption))|(apply Ld.blk1;exact rfl;exact rfl;assumption;(first|exact List.not_mem_nil|assumption);exact rfl)|(apply Ld.blkk;exact rfl;exact rfl;assumption;(first|exact List.not_mem_nil|assumption);exact rfl)));refine A.cast (listed':=#[true,true,true,true,true,false,false,true,true,true,true,true,true,true,false,false,false,false,false,false,false,false,false,false,false,false,false,false,false]) (by kernel_rfl) ?_)<;>((apply A.tk 14;exact rfl;kernel_rfl;first|(apply Ok1.cplK;exact rfl;exact rfl)|(apply Ok1.not_t;exact rfl)|(apply Ok1.not_f;exact rfl)|(apply Ok1.not;exact rfl)|(apply Ok1.neg;exact rfl));refine A.cast (listed':=#[true,true,true,true,true,false,false,true,true,true,true,true,true,true,true,false,false,false,false,false,false,false,false,false,false,false,false,false,false]) (by kernel_rfl) ?_)<;>((apply A.tk 15;exact rfl;kernel_rfl;first|(apply Ok1.indexAddr;(iterate 5 exact rfl);omega;omega)|(apply Ok1.indexAddrA;(iterate 5 exact rfl);omega;omega));refine A.cast (listed':=#[true,true,true,true,true,false,false,true,true,true,true,true,true,true,true,true,false,false,false,false,false,false,false,false,false,false,false,false,false]) (by kernel_rfl) ?_)<;>((apply A.tk 16;exact rfl;kernel_rfl;first|(apply Ok1.load;exact rfl;apply Ld.own1;exact rfl;exact rfl;(focus (repeat' first|exact At.head|apply At.tail|apply At.right);done);first|exact g1|exact g2)|(apply Ok1.load;exact rfl;first|(apply Ld.own1;exact rfl;exact rfl;(focus (repeat' first|exact At.head|apply At.tail|apply At.right);done);exact rfl)|(apply Ld.ownk;exact rfl;exact rfl;(focus (repeat' first|exact At.head|apply At.tail|apply At.right);done);exact rfl)|(apply Ld.old1;exact rfl;exact rfl;assumption;(first|exact List.not_mem_nil|assumption))|(apply Ld.blk1;exact rfl;exact rfl;assumption;(first|exact List.not_mem_nil|assumption);exact rfl)|(apply Ld.blkk;exact rfl;exact rfl;assumption;(first|exact List.not_mem_nil|assumption);exact rfl)));refine A.cast (listed':=#[true,true,true,true,true,false,false,true,true,true,true,true,true,true,true,true,true,false,false,false,false,false,false,false,false,false,false,false,false]) (by kernel_rfl) ?_)<;>((apply A.tk 17;exact rfl;kernel_rfl;first|(apply Ok1.andK;exact rfl;exact rfl));refine A.cast (listed':=#[true,true,true,true,true,false,false,true,true,true,true,true,true,true,true,true,true,true,false,false,false,false,false,false,false,false,false,false,false]) (by kernel_rfl) ?_)<;>((apply A.tk 18;exact rfl;kernel_rfl;first|(apply Ok1.xorK;exact rfl;exact rfl));refine A.cast (listed':=#[true,true,true,true,true,false,false,true,true,true,true,true,true,true,true,true,true,true,true,false,false,false,false,false,false,false,false,false,false]) (by kernel_rfl) ?_)<;>((apply A.tk 20;exact rfl;kernel_rfl;first|(apply Ok1.move;exact rfl));refine A.cast (listed':=#[true,true,true,true,true,false,false,true,true,true,true,true,true,true,true,true,true,true,true,false,true,false,false,false,false,false,false,false,false]) (by kernel_rfl) ?_)<;>((apply A.tk 21;exact rfl;kernel_rfl;first|(apply Ok1.indexAddr;(iterate 5 exact rfl);omega;omega)|(apply Ok1.indexAddrA;(iterate 5 exact rfl);omega;omega));refine A.cast (listed':=#[true,true,true,true,true,false,false,true,true,true,true,true,true,true,true,true,true,true,true,false,true,true,false,false,false,false,false,false,false]) (by kernel_rfl) ?_)<;>((apply A.tk 22;exact rfl;kernel_rfl;first|(apply Ok1.load;exact rfl;apply Ld.own1;exact rfl;exact rfl;(focus (repeat' first|exact At.head|apply At.tail|apply At.right);done);first|exact g1|exact g2)|(apply Ok1.load;exact rfl;first|(apply Ld.own1;exact rfl;exact rfl;(focus (repeat' first|exact At.head|apply At.tail|apply At.right);done);exact rfl)|(apply Ld.ownk;exact rfl;exact rfl;(focus (repeat' first|exact At.head|apply At.tail|apply At.right);done);exact rfl)|(apply Ld.old1;exact rfl;exact rfl;assumption;(first|exact List.not_mem_nil|assumption))|(apply Ld.blk1;exact rfl;exact rfl;assumption;(first|exact List.not_mem_nil|assumption);exact rfl)|(apply Ld.blkk;exact rfl;exact rfl;assumption;(first|exact List.not_mem_nil|assumption);exact rfl)));refine A.cast (listed':=#[true,true,true,true,true,false,false,true,true,true,true,true,true,true,true,true,true,true,true,false,true,true,true,false,false,false,false,false,false]) (by kernel_rfl) ?_)<;>((apply A.tk 24;exact rfl;kernel_rfl;first|(apply Ok1.move;exact rfl));refine A.cast (listed':=#[true,true,true,true,true,false,false,true,true,true,true,true,true,true,true,true,true,true,true,false,true,true,true,false,true,false,false,false,false]) (by kernel_rfl) ?_)<;>((apply A.tk 25;exact rfl;kernel_rfl;first|(apply Ok1.indexAddr;(iterate 5 exact rfl);omega;omega)|(apply Ok1.indexAddrA;(iterate 5 exact rfl);omega;omega));refine A.cast (listed':=#[true,true,true,true,true,false,false,true,true,true,true,true,true,true,true,true,true,true,true,false,true,true,true,false,true,true,false,false,false]) (by kernel_rfl) ?_)<;>((apply A.tk 26;exact rfl;kernel_rfl;first|(apply Ok1.load;exact rfl;apply Ld.own1;exact rfl;exact rfl;(focus (repeat' first|exact At.head|apply At.tail|apply At.right);done);first|exact g1|exact g2)|(apply Ok1.load;exact rfl;first|(apply Ld.own1;exact rfl;exact rfl;(focus (repeat' first|exact At.head|apply At.tail|apply At.right);done);exact rfl)|(apply Ld.ownk;exact rfl;exact rfl;(focus (repeat' first|exact At.head|apply At.tail|apply At.right);done);exact rfl)|(apply Ld.old1;exact rfl;exact rfl;assumption;(first|exact List.not_mem_nil|assumption))|(apply Ld.blk1;exact rfl;exact rfl;assumption;(first|exact List.not_mem_nil|assumption);exact rfl)|(apply Ld.blkk;exact rfl;exact rfl;assumption;(first|exact List.not_mem_nil|assumption);exact rfl)));refine A.cast (listed':=#[true,true,true,true,true,false,false,true,true,true,true,true,true,true,true,true,true,true,true,false,true,true,true,false,true,true,true,false,false]) (by kernel_rfl) ?_)<;>(apply A.one 5;kernel_rfl;exact rfl;((first|(apply R.callFP (fa:=[]) (cb:=[]);(iterate 4 exact rfl);first|exact turnedA_ok _|exact turnedB_ok _)|(apply R.pure;exact rfl;first|(apply Ok1.lenS;(iterate 3 exact rfl))|(apply Ok1.lenStr;(iterate 3 exact rfl))|(apply Ok1.lenMm;(iterate 3 exact rfl);(focus (repeat' first|exact At.head|apply At.tail|apply At.right);done))|(apply Ok1.lenM_nil;(iterate 3 exact rfl))|(apply Ok1.max2;exact rfl;exact rfl)|(apply Ok1.min2;exact rfl;exact rfl))));apply R.nil;refine ⟨?_,?_⟩;(focus (repeat' first|exact trivial|exact At.head|apply At.tail|apply At.right|refine ⟨?_,?_⟩)))<;>((apply A.tk 6;exact rfl;kernel_rfl;first|(apply Ok1.add32;exact rfl;exact rfl)|(apply Ok1.add64;exact rfl;exact rfl;omega;omega));refine A.cast (listed':=#[true,true,true,true,true,true,true,true,true,true,true,true,true,true,true,true,true,true,true,false,true,true,true,false,true,true,true,false,false]) (by kernel_rfl) ?_)<;>((apply A.tk 19;exact rfl;kernel_rfl;first|(apply Ok1.add32;exact rfl;exact rfl)|(apply Ok1.add64;exact rfl;exact rfl;omega;omega));refine A.cast (listed':=#[true,true,true,true,true,true,true,true,true,true,true,true,true,true,true,true,true,true,true,true,true,true,true,false,true,true,true,false,false]) (by kernel_rfl) ?_)<;>((apply A.tk 23;exact rfl;kernel_rfl;first|(apply Ok1.add32;exact rfl;exact rfl)|(apply Ok1.add64;exact rfl;exact rfl;omega;omega));refine A.cast (listed':=#[true,true,true,true,true,true,true,true,true,true,true,true,true,true,true,true,true,true,true,true,true,true,true,true,true,true,true,false,false]) (by kernel_rfl) ?_)<;>((apply A.tk 27;exact rfl;kernel_rfl;first|(apply Ok1.add32;exact rfl;exact rfl)|(apply Ok1.add64;exact rfl;exact rfl;omega;omega));refine A.cast (listed':=#[true,true,true,true,true,true,true,true,true,true,true,true,true,true,true,true,true,true,true,true,true,true,true,true,true,true,true,true,false]) (by kernel_rfl) ?_)<;>((apply A.tk 28;exact rfl;kernel_rfl;first|(apply Ok1.assign;exact rfl));refine A.cast (listed':=#[true,true,true,true,true,true,true,true,true,true,true,true,true,true,true,true,true,true,true,true,true,true,true,true,true,true,true,true,true]) (by kernel_rfl) ?_)<;>(apply A.done;kernel_rfl)))|(apply T.drawC (id:=7) [0,1,2] (by decide);((apply A.tk 0;exact rfl;kernel_rfl;first|(apply Ok1.move;exact rfl))<;>(apply A.tk 1;exact rfl;kernel_rfl;first|(apply Ok1.indexAddr;(iterate 5 exact rfl);omega;omega)|(apply Ok1.indexAddrA;(iterate 5 exact rfl);omega;omega))<;>(apply A.tk 2;exact rfl;kernel_rfl;first|(apply Ok1.load;exact rfl;apply Ld.own1;exact rfl;exact rfl;(focus (repeat' first|exact At.head|apply At.tail|apply At.right);done);first|exact g1|exact g2)|(apply Ok1.load;exact rfl;first|(apply Ld.own1;exact rfl;exact rfl;(focus (repeat' first|exact At.head|apply At.tail|apply At.right);done);exact rfl)|(apply Ld.ownk;exact rfl;exact rfl;(focus (repeat' first|exact At.head|apply At.tail|apply At.right);done);exact rfl)|(apply Ld.old1;exact rfl;exact rfl;assumption;(first|exact List.not_mem_nil|assumption))|(apply Ld.blk1;exact rfl;exact rfl;assumption;(first|exact List.not_mem_nil|assumption);exact rfl)|(apply Ld.blkk;exact rfl;exact rfl;assumption;(first|exact List.not_mem_nil|assumption);exact rfl)))<;>(apply A.tk 4;exact rfl;kernel_rfl;first|(apply Ok1.indexAddr;(iterate 5 exact rfl);omega;omega)|(apply Ok1.indexAddrA;(iterate 5 exact rfl);omega;omega))<;>(apply A.tk 5;exact rfl;kernel_rfl;first|(apply Ok1.load;exact rfl;apply Ld.own1;exact rfl;exact rfl;(focus (repeat' first|exact At.head|apply At.tail|apply At.right);done);first|exact g1|exact g2)|(apply Ok1.load;exact rfl;first|(apply Ld.own1;exact rfl;exact rfl;(focus (repeat' first|exact At.head|apply At.tail|apply At.right);done);exact rfl)|(apply Ld.ownk;exact rfl;exact rfl;(focus (repeat' first|exact At.head|apply At.tail|apply At.right);done);exact rfl)|(apply Ld.old1;exact rfl;exact rfl;assumption;(first|exact List.not_mem_nil|assumption))|(apply Ld.blk1;exact rfl;exact rfl;assumption;(first|exact List.not_mem_nil|assumption);exact rfl)|(apply Ld.blkk;exact rfl;exact rfl;assumption;(first|exact List.not_mem_nil|assumption);exact rfl)))<;>(apply A.tk 6;exact rfl;kernel_rfl;first|(apply Ok1.indexAddr;(iterate 5 exact rfl);omega;omega)|(apply Ok1.indexAddrA;(iterate 5 exact rfl);omega;omega))<;>(apply A.tk 7;exact rfl;kernel_rfl;first|(apply Ok1.load;exact rfl;apply Ld.own1;exact rfl;exact rfl;(focus (repeat' first|exact At.head|apply At.tail|apply At.right);done);first|exact g1|exact g2)|(apply Ok1.load;exact rfl;first|(apply Ld.own1;exact rfl;exact rfl;(focus (repeat' first|exact At.head|apply At.tail|apply At.right);done);exact rfl)|(apply Ld.ownk;exact rfl;exact rfl;(focus (repeat' first|exact At.head|apply At.tail|apply At.right);done);exact rfl)|(apply Ld.old1;exact rfl;exact rfl;assumption;(first|exact List.not_mem_nil|assumption))|(apply Ld.blk1;exact rfl;exact rfl;assumption;(first|exact List.not_mem_nil|assumption);exact rfl)|(apply Ld.blkk;exact rfl;exact rfl;assumption;(first|exact List.not_mem_nil|assumption);exact rfl)))<;>(apply A.tk 8;exact rfl;kernel_rfl;first|(apply Ok1.andK;exact rfl;exact rfl))<;>(apply A.tk 9;exact rfl;kernel_rfl;first|(apply Ok1.indexAddr;(iterate 5 exact rfl);omega;omega)|(apply Ok1.indexAddrA;(iterate 5 exact rfl);omega;omega))<;>(apply A.tk 10;exact rfl;kernel_rfl;first|(apply Ok1.load;exact rfl;apply Ld.own1;exact rfl;exact rfl;(focus (repeat' first|exact At.head|apply At.tail|apply At.right);done);first|exact g1|exact g2)|(apply Ok1.load;exact rfl;first|(apply Ld.own1;exact rfl;exact rfl;(focus (repeat' first|exact At.head|apply At.tail|apply At.right);done);exact rfl)|(apply Ld.ownk;exact rfl;exact rfl;(focus (repeat' first|exact At.head|apply At.tail|apply At.right);done);exact rfl)|(apply Ld.old1;exact rfl;exact rfl;assumption;(first|exact List.not_mem_nil|assumption))|(apply Ld.blk1;exact rfl;exact rfl;assumption;(first|exact List.not_mem_nil|assumption);exact rfl)|(apply Ld.blkk;exact rfl;exact rfl;assumption;(first|exact List.not_mem_nil|assumption);exact rfl)))<;>(apply A.tk 11;exact rfl;kernel_rfl;first|(apply Ok1.indexAddr;(iterate 5 exact rfl);omega;omega)|(apply Ok1.indexAddrA;(iterate 5 exact rfl);omega;omega))<;>(apply A.tk 12;exact rfl;kernel_rfl;first|(apply Ok1.load;exact rfl;apply Ld.own1;exact rfl;exact rfl;(focus (repeat' first|exact At.head|apply At.tail|apply At.right);done);first|exact g1|exact g2)|(apply Ok1.load;exact rfl;first|(apply Ld.own1;exact rfl;exact rfl;(focus (repeat' first|exact At.head|apply At.tail|apply At.right);done);exact rfl)|(apply Ld.ownk;exact rfl;exact rfl;(focus (repeat' first|exact At.head|apply At.tail|apply At.right);done);exact rfl)|(apply Ld.old1;exact rfl;exact rfl;assumption;(first|exact List.not_mem_nil|assumption))|(apply Ld.blk1;exact rfl;exact rfl;assumption;(first|exact List.not_mem_nil|assumption);exact rfl)|(apply Ld.blkk;exact rfl;exact rfl;assumption;(first|exact List.not_mem_nil|assumption);exact rfl)))<;>(apply A.tk 13;exact rfl;kernel_rfl;first|(apply Ok1.andK;exact rfl;exact rfl))<;>(apply A.tk 14;exact rfl;kernel_rfl;first|(apply Ok1.xorK;exact rfl;exact rfl))<;>(apply A.tk 15;exact rfl;kernel_rfl;first|(apply Ok1.indexAddr;(iterate 5 exact rfl);omega;omega)|(apply Ok1.indexAddrA;(iterate 5 exact rfl);omega;omega))<;>(apply A.tk 16;exact rfl;kernel_rfl;first|(apply Ok1.load;exact rfl;apply Ld.own1;exact rfl;exact rfl;(focus (repeat' first|exact At.head|apply At.tail|apply At.right);done);first|exact g1|exact g2)|(apply Ok1.load;exact rfl;first|(apply Ld.own1;exact rfl;exact rfl;(focus (repeat' first|exact At.head|apply At.tail|apply At.right);done);exact rfl)|(apply Ld.ownk;exact rfl;exact rfl;(focus (repeat' first|exact At.head|apply At.tail|apply At.right);done);exact rfl)|(apply Ld.old1;exact rfl;exact rfl;assumption;(first|exact List.not_mem_nil|assumption))|(apply Ld.blk1;exact rfl;exact rfl;assumption;(first|exact List.not_mem_nil|assumption);exact rfl)|(apply Ld.blkk;exact rfl;exact rfl;assumption;(first|exact List.not_mem_nil|assumption);exact rfl)))<;>(apply A.tk 17;exact rfl;kernel_rfl;first|(apply Ok1.indexAddr;(iterate 5 exact rfl);omega;omega)|(apply Ok1.indexAddrA;(iterate 5 exact rfl);omega;omega))<;>(apply A.tk 18;exact rfl;kernel_rfl;first|(apply Ok1.load;exact rfl;apply Ld.own1;exact rfl;exact rfl;(focus (repeat' first|exact At.head|apply At.tail|apply At.right);done);first|exact g1|exact g2)|(apply Ok1.load;exact rfl;first|(apply Ld.own1;exact rfl;exact rfl;(focus (repeat' first|exact At.head|apply At.tail|apply At.right);done);exact rfl)|(apply Ld.ownk;exact rfl;exact rfl;(focus (repeat' first|exact At.head|apply At.tail|apply At.right);done);exact rfl)|(apply Ld.old1;exact rfl;exact rfl;assumption;(first|exact List.not_mem_nil|assumption))|(apply Ld.blk1;exact rfl;exact rfl;assumption;(first|exact List.not_mem_nil|assumption);exact rfl)|(apply Ld.blkk;exact rfl;exact rfl;assumption;(first|exact List.not_mem_nil|assumption);exact rfl)))<;>(apply A.tk 19;exact rfl;kernel_rfl;first|(apply Ok1.andK;exact rfl;exact rfl))<;>(apply A.tk 20;exact rfl;kernel_rfl;first|(apply Ok1.xorK;exact rfl;exact rfl))<;>(apply A.one 3;kernel_rfl;exact rfl;((first|(apply R.callFP (fa:=[]) (cb:=[]);(iterate 4 exact rfl);first|exact turnedA_ok _|exact turnedB_ok _)|(apply R.pure;exact rfl;first|(apply Ok1.lenS;(iterate 3 exact rfl))|(apply Ok1.lenStr;(iterate 3 exact rfl))|(apply Ok1.lenMm;(iterate 3 exact rfl);(focus (repeat' first|exact At.head|apply At.tail|apply At.right);done))|(apply Ok1.lenM_nil;(iterate 3 exact rfl))|(apply Ok1.max2;exact rfl;exact rfl)|(apply Ok1.min2;exact rfl;exact rfl))));apply R.nil;refine ⟨?_,?_⟩;(focus (repeat' first|exact trivial|exact At.head|apply At.tail|apply At.right|refine ⟨?_,?_⟩)))<;>(apply A.tk 21;exact rfl;kernel_rfl;first|(apply Ok1.add32;exact rfl;exact rfl)|(apply Ok1.add64;exact rfl;exact rfl;omega;omega))<;>(apply A.tk 22;exact rfl;kernel_rfl;first|(apply Ok1.assign;exact rfl))<;>(apply A.done;kernel_rfl)))|(apply T.draw (id:=13);((apply A.tk 0;exact rfl;kernel_rfl;first|(apply Ok1.move;exact rfl))<;>(apply A.tk 1;exact rfl;kernel_rfl;first|(apply Ok1.move;exact rfl))<;>(apply A.tk 2;exact rfl;kernel_rfl;first|(apply Ok1.nilCheck;exact rfl)|(apply Ok1.nilCheckF;exact rfl))<;>(apply A.tk 3;exact rfl;kernel_rfl;first|(apply Ok1.fieldAddr;(iterate 5 exact rfl)))<;>(apply A.tk 4;exact rfl;kernel_rfl;first|(apply Ok1.indexAddr;(iterate 5 exact rfl);omega;omega)|(apply Ok1.indexAddrA;(iterate 5 exact rfl);omega;omega))<;>(apply A.tk 5;exact rfl;kernel_rfl;first|(apply Ok1.load;exact rfl;apply Ld.own1;exact rfl;exact rfl;(focus (repeat' first|exact At.head|apply At.tail|apply At.right);done);first|exact g1|exact g2)|(apply Ok1.load;exact rfl;first|(apply Ld.own1;exact rfl;exact rfl;(focus (repeat' first|exact At.head|apply At.tail|apply At.right);done);exact rfl)|(apply Ld.ownk;exact rfl;exact rfl;(focus (repeat' first|exact At.head|apply At.tail|apply At.right);done);exact rfl)|(apply Ld.old1;exact rfl;exact rfl;assumption;(first|exact List.not_mem_nil|assumption))|(apply Ld.blk1;exact rfl;exact rfl;assumption;(first|exact List.not_mem_nil|assumption);exact rfl)|(apply Ld.blkk;exact rfl;exact rfl;assumption;(first|exact List.not_mem_nil|assumption);exact rfl)))<;>(apply A.tk 6;exact rfl;kernel_rfl;first|(apply Ok1.move;exact rfl))<;>(apply A.tk 7;exact rfl;kernel_rfl;first|(apply Ok1.indexAddr;(iterate 5 exact rfl);omega;omega)|(apply Ok1.indexAddrA;(iterate 5 exact rfl);omega;omega))<;>(apply A.tk 8;exact rfl;kernel_rfl;first|(apply Ok1.load;exact rfl;apply Ld.own1;exact rfl;exact rfl;(focus (repeat' first|exact At.head|apply At.tail|apply At.right);done);first|exact g1|exact g2)|(apply Ok1.load;exact rfl;first|(apply Ld.own1;exact rfl;exact rfl;(focus (repeat' first|exact At.head|apply At.tail|apply At.right);done);exact rfl)|(apply Ld.ownk;exact rfl;exact rfl;(focus (repeat' first|exact At.head|apply At.tail|apply At.right);done);exact rfl)|(apply Ld.old1;exact rfl;exact rfl;assumption;(first|exact List.not_mem_nil|assumption))|(apply Ld.blk1;exact rfl;exact rfl;assumption;(first|exact List.not_mem_nil|assumption);exact rfl)|(apply Ld.blkk;exact rfl;exact rfl;assumption;(first|exact List.not_mem_nil|assumption);exact rfl)))<;>(apply A.tk 9;exact rfl;kernel_rfl;first|(apply Ok1.add32;exact rfl;exact rfl)|(apply Ok1.add64;exact rfl;exact rfl;omega;omega))<;>(apply A.tk 10;exact rfl;kernel_rfl;first|(apply Ok1.nilCheck;exact rfl)|(apply Ok1.nilCheckF;exact rfl))<;>(apply A.tk 11;exact rfl;kernel_rfl;first|(apply Ok1.fieldAddr;(iterate 5 exact rfl)))<;>(apply A.tk 12;exact rfl;kernel_rfl;first|(apply Ok1.indexAddr;(iterate 5 exact rfl);omega;omega)|(apply Ok1.indexAddrA;(iterate 5 exact rfl);omega;omega))<;>(apply A.one 13;kernel_rfl;exact rfl;((first|(apply R.store;(iterate 6 exact rfl);(focus (repeat' first|exact Upd.head|apply Upd.tail|apply Upd.right);done);exact setE_all rfl)|(apply R.store;(iterate 6 exact rfl);(focus (repeat' first|exact Upd.head|apply Upd.tail|apply Upd.right);done);exact rfl)|fail));apply R.nil;refine ⟨?_,?_⟩;(focus (repeat' first|exact trivial|exact At.head|apply At.tail|apply At.right|refine ⟨?_,?_⟩)))<;>(apply A.done;kernel_rfl)))|apply T.seq|apply T.region|apply T.block|apply T.scope|apply T.label|apply T.skip|apply T.exit|apply T.ret|(apply T.cond_t;exact rfl)|(apply T.cond_f;exact rfl)|(apply T.cond_h;exact rfl;assumption)|(apply T.cond_n;exact rfl;assumption)|(apply T.cond rfl<;>intro))|apply Rnd.step)
      refine ⟨i+1,by omega,by omega,⟨rfl,rfl,rfl,rfl,rfl,rfl,trivial⟩,?_⟩
      rw [hst]
      (focus (repeat' first|exact Keep.nil _|exact Ext.one _ _|exact Ext.here _ _|exact Ext.all _|apply Keep.cons|apply Keep.app|apply Keep.last|apply Ext.cons|apply Ext.app);done)
    · have him:i=64:=by omega
      subst him
      rw [hmix]
      generalize rs 64=t at *
      clear hset hset2 hgk hgw hspr
      simp only [H8.v,H8.l,u32s,List.map_cons,List.map_nil,List.cons_append,List.nil_append]
      repeat' (first|(apply R.is1;first|(apply R.isBin;first|(apply R.pure;exact rfl;first|(apply Ok1.add32;exact rfl;exact rfl)|(apply Ok1.add64;exact rfl;exact rfl;omega;omega)|(apply Ok1.lss_t;exact rfl;exact rfl;omega)|(apply Ok1.lss_f;exact rfl;exact rfl;omega))|(apply R.lss rfl rfl rfl<;>intro))|(apply R.pure;exact rfl;first|(apply Ok1.move;exact rfl)|(apply Ok1.fieldAddr;(iterate 5 exact rfl))|(apply Ok1.load;exact rfl;first|(apply Ld.own1;exact rfl;exact rfl;(focus (repeat' first|exact At.head|apply At.tail|apply At.right);done);exact rfl)|(apply Ld.ownk;exact rfl;exact rfl;(focus (repeat' first|exact At.head|apply At.tail|apply At.right);done);exact rfl)|(apply Ld.old1;exact rfl;exact rfl;assumption;(first|exact List.not_mem_nil|assumption))|(apply Ld.blk1;exact rfl;exact rfl;assumption;(first|exact List.not_mem_nil|assumption);exact rfl)|(apply Ld.blkk;exact rfl;exact rfl;assumption;(first|exact List.not_mem_nil|assumption);exact rfl))|(apply Ok1.assign;exact rfl)|(apply Ok1.indexAddr;(iterate 5 exact rfl);omega;omega)|(apply Ok1.indexAddrA;(iterate 5 exact rfl);omega;omega)|(apply Ok1.build;(iterate 5 exact rfl))|(apply Ok1.not_t;exact rfl)|(apply Ok1.not_f;exact rfl)|(apply Ok1.not;exact rfl)|(apply Ok1.nilCheck;exact rfl)|(apply Ok1.nilCheckF;exact rfl)|(apply Ok1.buildA;(iterate 6 exact rfl))|(apply Ok1.neg;exact rfl))|(apply R.alloc;(iterate 3 exact rfl);intro))|(apply R.is0;first|(apply R.store;(iterate 6 exact rfl);(focus (repeat' first|exact Upd.head|apply Upd.tail|apply Upd.right);done);exact rfl)|(apply R.store;(iterate 6 exact rfl);(focus (repeat' first|exact Upd.head|apply Upd.tail|apply Upd.right);done);exact setE_one (by simp only [List.length_cons];omega))|(apply R.store;(iterate 6 exact rfl);(focus (repeat' first|exact Upd.head|apply Upd.tail|apply Upd.right);done);exact rfl)|fail)|(apply R.isG;first|(apply R.guard_run;exact rfl;exact rfl)|(apply R.guard_not;(iterate 3 exact rfl))|(apply R.guard_not0;exact rfl;exact rfl)|(apply R.guard_un;(iterate 3 exact rfl))|(apply R.guard_un0;exact rfl;exact rfl)|(apply R.guard rfl rfl ?_ (fun h=>⟨rfl,?_⟩)<;>try intro))|apply R.nil|(apply T.is;first|apply T.rounds 9|(apply T.drawC (id:=13) [0] (by decide);((apply A.tk 0;exact rfl;kernel_rfl;first|(apply Ok1.move;exact rfl))<;>(apply A.tk 1;exact rfl;kernel_rfl;first|(apply Ok1.move;exact rfl))<;>(apply A.tk 2;exact rfl;kernel_rfl;first|(apply Ok1.nilCheck;exact rfl)|(apply Ok1.nilCheckF;exact rfl))<;>(apply A.tk 3;exact rfl;kernel_rfl;first|(apply Ok1.fieldAddr;(iterate 5 exact rfl)))<;>(apply A.tk 4;exact rfl;kernel_rfl;first|(apply Ok1.indexAddr;(iterate 5 exact rfl);omega;omega)|(apply Ok1.indexAddrA;(iterate 5 exact rfl);omega;omega))<;>(apply A.tk 6;exact rfl;kernel_rfl;first|(apply Ok1.move;exact rfl))<;>(apply A.tk 7;exact rfl;kernel_rfl;first|(apply Ok1.indexAddr;(iterate 5 exact rfl);omega;omega)|(apply Ok1.indexAddrA;(iterate 5 exact rfl);omega;omega))<;>(apply A.tk 8;exact rfl;kernel_rfl;first|(apply Ok1.load;exact rfl;first|(apply Ld.own1;exact rfl;exact rfl;(focus (repeat' first|exact At.head|apply At.tail|apply At.right);done);exact rfl)|(apply Ld.ownk;exact rfl;exact rfl;(focus (repeat' first|exact At.head|apply At.tail|apply At.right);done);exact rfl)|(apply Ld.old1;exact rfl;exact rfl;assumption;(first|exact List.not_mem_nil|assumption))|(apply Ld.blk1;exact rfl;exact rfl;assumption;(first|exact List.not_mem_nil|assumption);exact rfl)|(apply Ld.blkk;exact rfl;exact rfl;assumption;(first|exact List.not_mem_nil|assumption);exact rfl)))<;>(apply A.tk 10;exact rfl;kernel_rfl;first|(apply Ok1.nilCheck;exact rfl)|(apply Ok1.nilCheckF;exact rfl))<;>(apply A.tk 11;exact rfl;kernel_rfl;first|(apply Ok1.fieldAddr;(iterate 5 exact rfl)))<;>(apply A.one 5;kernel_rfl;exact rfl;((first|(apply R.pure;exact rfl;first|(apply Ok1.load;exact rfl;first|(apply Ld.own1;exact rfl;exact rfl;(focus (repeat' first|exact At.head|apply At.tail|apply At.right);done);exact rfl)|(apply Ld.ownk;exact rfl;exact rfl;(focus (repeat' first|exact At.head|apply At.tail|apply At.right);done);exact rfl)|(apply Ld.old1;exact rfl;exact rfl;assumption;(first|exact List.not_mem_nil|assumption))|(apply Ld.blk1;exact rfl;exact rfl;assumption;(first|exact List.not_mem_nil|assumption);exact rfl)|(apply Ld.blkk;exact rfl;exact rfl;assumption;(first|exact List.not_mem_nil|assumption);exact rfl)))|fail));apply R.nil;refine ⟨?_,?_⟩;(focus (repeat' first|exact trivial|exact At.head|apply At.tail|apply At.right|refine ⟨?_,?_⟩)))<;>(apply A.tk 9;exact rfl;kernel_rfl;first|(apply Ok1.add32;exact rfl;exact rfl)|(apply Ok1.add64;exact rfl;exact rfl;omega;omega))<;>(apply A.tk 12;exact rfl;kernel_rfl;first|(apply Ok1.indexAddr;(iterate 5 exact rfl);omega;omega)|(apply Ok1.indexAddrA;(iterate 5 exact rfl);omega;omega))<;>(apply A.one 13;kernel_rfl;exact rfl;((first|(apply R.store;(iterate 6 exact rfl);(focus (repeat' first|exact Upd.head|apply Upd.tail|apply Upd.right);done);exact rfl)|(apply R.store;(iterate 6 exact rfl);(focus (repeat' first|exact Upd.head|apply Upd.tail|apply Upd.right);done);exact setE_one (by simp only [List.length_cons];omega))|(apply R.store;(iterate 6 exact rfl);(focus (repeat' first|exact Upd.head|apply Upd.tail|apply Upd.right);done);exact rfl)|fail));apply R.nil;refine ⟨?_,?_⟩;(focus (repeat' first|exact trivial|exact At.head|apply At.tail|apply At.right|refine ⟨?_,?_⟩)))<;>(apply A.done;kernel_rfl)))|apply T.seq|apply T.region|apply T.block|apply T.scope|apply T.label|apply T.skip|apply T.exit|apply T.ret|(apply T.cond_t;exact rfl)|(apply T.cond_f;exact rfl)|(apply T.cond_h;exact rfl;assumption)|(apply T.cond_n;exact rfl;assumption)|(apply T.cond rfl<;>intro))|apply Rnd.step)
      all_goals (apply RetOk.n)
      all_goals refine ⟨_,?_,rfl,rfl⟩
      all_goals (focus (repeat' first|exact Keep.nil _|exact Ext.one _ _|exact Ext.here _ _|exact Ext.all _|apply Keep.cons|apply Keep.app|apply Keep.last|apply Ext.cons|apply Ext.app);done)
theorem u8s_app (a b:List Int):u8s (a++b)=u8s a++u8s b:=by simp [u8s]
theorem u8s_len (a:List Int):(u8s a).length=a.length:=by simp [u8s]
theorem u8s_one (a:List Int):(u8s a).all Value.oneCell'=true:=by rw [List.all_eq_true];intro x hx;obtain ⟨y,_,rfl⟩:=List.mem_map.1 hx;rfl
theorem Byt.app {a b:List Int} (h1:Byt a) (h2:Byt b):Byt (a++b):=fun x hx=>by rcases List.mem_append.1 hx with h|h;exact h1 x h;exact h2 x h
theorem Byt.drop {a:List Int} (h:Byt a) (i:Nat):Byt (a.drop i):=fun x hx=>h x (List.mem_of_mem_drop hx)
theorem Byt.take {a:List Int} (h:Byt a) (i:Nat):Byt (a.take i):=fun x hx=>h x (List.mem_of_mem_take hx)
/-- p' reads as p does,from k on. -/
structure Sfx (p p':Option Addr) (n k:Nat):Prop where
  rd:∀ (W:World) (xs:List Int),xs.length=n→RdSl W p u8V xs→RdSl W p' u8V (xs.drop k)
  off:∀ S,Off p S→Off p' S
theorem Sfx.refl (p:Option Addr) (n:Nat):Sfx p p n 0:=⟨fun W xs _ h=>h,fun _ h=>h⟩
theorem Sfx.suf {p p':Option Addr} {n k c i:Nat} (h:Sfx p p' n k) (h1:k+i≤n) (h2:n - k≤c):Sfx p (sufP p' c i 1) n (k+i) :=
  ⟨fun W xs hl hp=>by
    have:=(h.rd W xs hl hp).suf u8V_len (cap:=c) (i:=i) (by rw [List.length_drop];omega) (by rw [List.length_drop];omega)
    rwa [List.drop_drop] at this,fun S ho=>(h.off S ho).suf _ _ _⟩
theorem allI_step (b:List Int) (s:H8) {i:Nat} (h:64 * i+64≤b.length):allI kI (i+1) b s=mixI kI ((b.drop (64 * i)).take 64) (allI kI i b s):=by
  induction i generalizing b s with
  | zero=>rfl
  | succ i ih =>
    rw [allI,ih (b.drop 64) (mixI kI (b.take 64) s) (by rw [List.length_drop];omega),List.drop_drop,show 64+64 * i=64 * (i+1) by omega]
    rfl
theorem all_ok (r:Nat) (s:H8) (rest:List Value) (e:TypeId) (p:Option Addr) (n cap:Nat) (b:List Int) (hn:n=b.length) (hcap:n≤cap) (hbig:n≤1073741824) (hb:Byt b) (w:World) (hp:RdSl w p u8V b) (hoff:Off p [r]) :
    CallM Try.prog 119 [.pointer (some ⟨r,0,none⟩),.slice p n cap] [(r,.cells ⟨s.v++rest⟩ e (0,0))] w fun v L=>∃ p' cap',v = .slice p' (n - 64 * (n / 64)) cap' ∧ n - 64 * (n / 64)≤cap' ∧ Sfx p p' n (64 * (n / 64))∧L=[(r,.cells ⟨(allI kI (n / 64) b s).v++rest⟩ e (0,0))]:=by
  refine enterK (tb:=tb) Try.func119 rfl Try.ntmps119 rfl ?_
  repeat' (first|(apply R.is1;first|(apply R.isBin;first|(apply R.pure;exact rfl;first|(apply Ok1.geq_t;exact rfl;exact rfl;omega)|(apply Ok1.geq_f;exact rfl;exact rfl;omega))|(apply R.geq rfl rfl rfl<;>intro))|(apply R.isCall;first|(apply R.pure;exact rfl;first|(apply Ok1.lenS;(iterate 3 exact rfl))|(apply Ok1.lenStr;(iterate 3 exact rfl))|(apply Ok1.lenMm;(iterate 3 exact rfl);(focus (repeat' first|exact At.head|apply At.tail|apply At.right);done))|(apply Ok1.lenM_nil;(iterate 3 exact rfl))))|(apply R.pure;exact rfl;first|(apply Ok1.move;exact rfl)|(apply Ok1.assign;exact rfl)|(apply Ok1.slice0;(iterate 7 exact rfl);(refine ⟨?_,?_,?_⟩<;>omega);(first|exact Or.inl rfl|exact Or.inr (fun e=>by cases e)))|(apply Ok1.sliceTo;(iterate 6 exact rfl);omega;omega;omega;(first|exact Or.inl rfl|exact Or.inr (fun e=>by cases e)))|(apply Ok1.sliceFrom;(iterate 7 exact rfl);omega;omega;omega;omega;omega;(first|exact Or.inl rfl|exact Or.inr (fun e=>by cases e)))))|(apply R.is0;first|fail)|(apply R.isG;first|(apply R.guard_run;exact rfl;exact rfl)|(apply R.guard_not;(iterate 3 exact rfl))|(apply R.guard_not0;exact rfl;exact rfl)|(apply R.guard_un;(iterate 3 exact rfl))|(apply R.guard_un0;exact rfl;exact rfl)|(apply R.guard rfl rfl ?_ (fun h=>⟨rfl,?_⟩)<;>try intro))|apply R.nil|(apply T.is;first|apply T.seq|apply T.region|apply T.block|apply T.scope|apply T.label|apply T.skip|apply T.exit|apply T.ret|(apply T.cond_t;exact rfl)|(apply T.cond_f;exact rfl)|(apply T.cond_h;exact rfl;assumption)|(apply T.cond_n;exact rfl;assumption)|(apply T.cond rfl<;>intro))|apply Rnd.step)
  apply T.loopK (α:=Nat × Option Addr × Nat) (I:=fun x=>64 * x.1≤n∧n - 64 * x.1≤x.2.2∧Sfx p x.2.1 n (64 * x.1)) (σi:=fun x=>[(0,.pointer (some ⟨r,0,none⟩)),(1,.slice x.2.1 (n - 64 * x.1) x.2.2)]) (Li:=fun x=>[(r,.cells ⟨(allI kI x.1 b s).v++rest⟩ e (0,0))]) (μ:=fun x=>n - 64 * x.1) (i0:=(0,p,cap))
  · exact ⟨by omega,by simpa using hcap,Sfx.refl p n⟩
  · exact ⟨rfl,rfl,trivial⟩
  · (focus (repeat' first|exact Keep.nil _|exact Ext.one _ _|exact Ext.here _ _|exact Ext.all _|apply Keep.cons|apply Keep.app|apply Keep.last|apply Ext.cons|apply Ext.app);done)
  · rintro ⟨i,p1,c1⟩ ⟨hi,hc,hs⟩
    simp only at hi hc hs ⊢
    by_cases hlt:64 * i+64≤n
    · have hst:=allI_step b s (i:=i) (by omega)
      have hmix:∀ w1,Chg [r] w w1→CallM Try.prog 126 [.pointer (some ⟨r,0,none⟩),.slice p1 64 c1] [(r,.cells ⟨(allI kI i b s).v++rest⟩ e (0,0))] w1 fun v L=>v = .tuple #[]∧L=[(r,.cells ⟨(allI kI (i+1) b s).v++rest⟩ e (0,0))]:=by
        intro w1 hch
        rw [hst]
        have hrd:=(hs.rd w1 b hn.symm (hp.chg hch hoff)).pre u8V_len 64
        exact mix_ok r _ rest e p1 64 c1 ((b.drop (64 * i)).take 64) (by rw [List.length_take,List.length_drop];omega) (by rw [List.length_take,List.length_drop];omega) (by omega) ((hb.drop _).take _) w1 hrd (hs.off _ hoff)
      have hnew:Sfx p (sufP p1 c1 64 1) n (64 * i+64):=hs.suf (by omega) (by omega)
      repeat' (first|(apply R.is1;first|(apply R.isBin;first|(apply R.pure;exact rfl;first|(apply Ok1.geq_t;exact rfl;exact rfl;omega)|(apply Ok1.geq_f;exact rfl;exact rfl;omega))|(apply R.geq rfl rfl rfl<;>intro))|(apply R.isCall;first|(apply R.callE;(iterate 3 exact rfl);exact Ext.all _;intro w1 hw1;exact hmix w1 hw1.chg;rintro v Lo ⟨rfl,rfl⟩)|(apply R.pure;exact rfl;first|(apply Ok1.lenS;(iterate 3 exact rfl))|(apply Ok1.lenStr;(iterate 3 exact rfl))|(apply Ok1.lenMm;(iterate 3 exact rfl);(focus (repeat' first|exact At.head|apply At.tail|apply At.right);done))|(apply Ok1.lenM_nil;(iterate 3 exact rfl))))|(apply R.pure;exact rfl;first|(apply Ok1.preR (i:=64);(iterate 5 exact rfl);omega)|(apply Ok1.sufR (i:=64) (sz:=1);(iterate 6 exact rfl);omega;omega)|(apply Ok1.move;exact rfl)|(apply Ok1.assign;exact rfl)|(apply Ok1.slice0;(iterate 7 exact rfl);(refine ⟨?_,?_,?_⟩<;>omega);(first|exact Or.inl rfl|exact Or.inr (fun e=>by cases e)))|(apply Ok1.sliceTo;(iterate 6 exact rfl);omega;omega;omega;(first|exact Or.inl rfl|exact Or.inr (fun e=>by cases e)))|(apply Ok1.sliceFrom;(iterate 7 exact rfl);omega;omega;omega;omega;omega;(first|exact Or.inl rfl|exact Or.inr (fun e=>by cases e)))))|(apply R.is0;first|fail)|(apply R.isG;first|(apply R.guard_run;exact rfl;exact rfl)|(apply R.guard_not;(iterate 3 exact rfl))|(apply R.guard_not0;exact rfl;exact rfl)|(apply R.guard_un;(iterate 3 exact rfl))|(apply R.guard_un0;exact rfl;exact rfl)|(apply R.guard rfl rfl ?_ (fun h=>⟨rfl,?_⟩)<;>try intro))|apply R.nil|(apply T.is;first|apply T.seq|apply T.region|apply T.block|apply T.scope|apply T.label|apply T.skip|apply T.exit|apply T.ret|(apply T.cond_t;exact rfl)|(apply T.cond_f;exact rfl)|(apply T.cond_h;exact rfl;assumption)|(apply T.cond_n;exact rfl;assumption)|(apply T.cond rfl<;>intro))|apply Rnd.step)
      refine ⟨(i+1,sufP p1 c1 64 1,c1 - 64),⟨by simp only;omega,by simp only;omega,hnew⟩,by simp only;omega,⟨rfl,?_,trivial⟩,by (focus (repeat' first|exact Keep.nil _|exact Ext.one _ _|exact Ext.here _ _|exact Ext.all _|apply Keep.cons|apply Keep.app|apply Keep.last|apply Ext.cons|apply Ext.app);done)⟩
      rw [show n - 64 * (i+1)=n - 64 * i - 64 by omega]
      rfl
    · have hdiv:n / 64=i:=by omega
      repeat' (first|(apply R.is1;first|(apply R.isBin;first|(apply R.pure;exact rfl;first|(apply Ok1.geq_t;exact rfl;exact rfl;omega)|(apply Ok1.geq_f;exact rfl;exact rfl;omega))|(apply R.geq rfl rfl rfl<;>intro))|(apply R.isCall;first|(apply R.pure;exact rfl;first|(apply Ok1.lenS;(iterate 3 exact rfl))|(apply Ok1.lenStr;(iterate 3 exact rfl))|(apply Ok1.lenMm;(iterate 3 exact rfl);(focus (repeat' first|exact At.head|apply At.tail|apply At.right);done))|(apply Ok1.lenM_nil;(iterate 3 exact rfl))))|(apply R.pure;exact rfl;first|(apply Ok1.move;exact rfl)|(apply Ok1.assign;exact rfl)|(apply Ok1.slice0;(iterate 7 exact rfl);(refine ⟨?_,?_,?_⟩<;>omega);(first|exact Or.inl rfl|exact Or.inr (fun e=>by cases e)))|(apply Ok1.sliceTo;(iterate 6 exact rfl);omega;omega;omega;(first|exact Or.inl rfl|exact Or.inr (fun e=>by cases e)))|(apply Ok1.sliceFrom;(iterate 7 exact rfl);omega;omega;omega;omega;omega;(first|exact Or.inl rfl|exact Or.inr (fun e=>by cases e)))))|(apply R.is0;first|fail)|(apply R.isG;first|(apply R.guard_run;exact rfl;exact rfl)|(apply R.guard_not;(iterate 3 exact rfl))|(apply R.guard_not0;exact rfl;exact rfl)|(apply R.guard_un;(iterate 3 exact rfl))|(apply R.guard_un0;exact rfl;exact rfl)|(apply R.guard rfl rfl ?_ (fun h=>⟨rfl,?_⟩)<;>try intro))|apply R.nil|(apply T.is;first|apply T.seq|apply T.region|apply T.block|apply T.scope|apply T.label|apply T.skip|apply T.exit|apply T.ret|(apply T.cond_t;exact rfl)|(apply T.cond_f;exact rfl)|(apply T.cond_h;exact rfl;assumption)|(apply T.cond_n;exact rfl;assumption)|(apply T.cond rfl<;>intro))|apply Rnd.step)
      (apply RetOk.t;exact rfl)
      refine ⟨_,?_,p1,c1,by rw [hdiv],by rw [hdiv];exact hc,by rw [hdiv];exact hs,rfl⟩
      rw [hdiv]
      (focus (repeat' first|exact Keep.nil _|exact Ext.one _ _|exact Ext.here _ _|exact Ext.all _|apply Keep.cons|apply Keep.app|apply Keep.last|apply Ext.cons|apply Ext.app);done)
theorem u8_mod (i:Int):IntKind.u8.wrap i=i % 256:=by simp [IntKind.wrap,IntKind.bits,IntKind.signed]
theorem out_ok (r:Nat) (s:H8) (rest:List Value) (e:TypeId) (fz:Nat × Nat) (w:World) (hb:w.heap[r]? = some (.cells ⟨s.v++rest⟩ e fz)):CallW Try.prog 122 [.pointer (some ⟨r,0,none⟩)] w fun v _=>v = .agg ⟨u8s (outI s)⟩:=by
  have hsv:subE (s.v++rest) 0 8=some s.v:=subE_app _ _ rfl
  refine enterW (tb:=tb) Try.func122 rfl Try.ntmps122 rfl ?_
  repeat' (first|(apply R.is1;first|(apply R.isBin;first|(apply R.pure;exact rfl;first|(apply Ok1.add64;exact rfl;exact rfl;omega;omega)|(apply Ok1.lss_t;exact rfl;exact rfl;omega)|(apply Ok1.lss_f;exact rfl;exact rfl;omega)|(apply Ok1.mul64;exact rfl;exact rfl;omega;omega)|(apply Ok1.shr;exact rfl;exact rfl;omega;exact Nat.le_of_ble_eq_true rfl;(first|exact pwE1|exact pwE2|exact pwE3|exact pwE4|exact pwE5|exact pwE6|exact pwE7|exact pwE8|exact pwE16|exact pwE24|exact pwE32|exact rfl)))|(apply R.lss rfl rfl rfl<;>intro))|(apply R.pure;exact rfl;first|(apply Ok1.load;exact rfl;apply Ld.blkk;exact rfl;exact rfl;exact hb;exact List.not_mem_nil;exact hsv)|(apply Ok1.move;exact rfl)|(apply Ok1.fieldAddr;(iterate 5 exact rfl))|(apply Ok1.load;exact rfl;first|(apply Ld.own1;exact rfl;exact rfl;(focus (repeat' first|exact At.head|apply At.tail|apply At.right);done);exact rfl)|(apply Ld.ownk;exact rfl;exact rfl;(focus (repeat' first|exact At.head|apply At.tail|apply At.right);done);exact rfl)|(apply Ld.old1;exact rfl;exact rfl;assumption;(first|exact List.not_mem_nil|assumption))|(apply Ld.blk1;exact rfl;exact rfl;assumption;(first|exact List.not_mem_nil|assumption);exact rfl)|(apply Ld.blkk;exact rfl;exact rfl;assumption;(first|exact List.not_mem_nil|assumption);exact rfl))|(apply Ok1.assign;exact rfl)|(apply Ok1.indexAddr;(iterate 5 exact rfl);omega;omega)|(apply Ok1.indexAddrA;(iterate 5 exact rfl);omega;omega)|(apply Ok1.nilCheck;exact rfl)|(apply Ok1.nilCheckF;exact rfl)|(apply Ok1.index1;(iterate 6 exact rfl);omega;omega;exact rfl)|(apply Ok1.indexk;(iterate 6 exact rfl);omega;omega;exact rfl)|(apply Ok1.convI64;(iterate 5 exact rfl);omega;omega)|(apply Ok1.convU64;(iterate 5 exact rfl);omega;omega)|(apply Ok1.convU32;(iterate 5 exact rfl);omega;omega)|(apply Ok1.convU8;(iterate 5 exact rfl);omega;omega)|(apply Ok1.conv;(iterate 5 exact rfl)))|(apply R.alloc;(iterate 3 exact rfl);intro))|(apply R.is0;first|(apply R.store;(iterate 6 exact rfl);(focus (repeat' first|exact Upd.head|apply Upd.tail|apply Upd.right);done);exact rfl)|fail)|(apply R.isG;first|(apply R.guard_run;exact rfl;exact rfl)|(apply R.guard_not;(iterate 3 exact rfl))|(apply R.guard_not0;exact rfl;exact rfl)|(apply R.guard_un;(iterate 3 exact rfl))|(apply R.guard_un0;exact rfl;exact rfl)|(apply R.guard rfl rfl ?_ (fun h=>⟨rfl,?_⟩)<;>try intro))|apply R.nil|(apply T.is;first|apply T.seq|apply T.region|apply T.block|apply T.scope|apply T.label|apply T.skip|apply T.exit|apply T.ret|(apply T.cond_t;exact rfl)|(apply T.cond_f;exact rfl)|(apply T.cond_h;exact rfl;assumption)|(apply T.cond_n;exact rfl;assumption)|(apply T.cond rfl<;>intro))|apply Rnd.step)
  simp only [H8.v,H8.l,u32s,List.map_cons,List.map_nil]
  repeat' (first|(apply R.is1;first|(apply R.isBin;first|(apply R.pure;exact rfl;first|(apply Ok1.add64;exact rfl;exact rfl;omega;omega)|(apply Ok1.lss_t;exact rfl;exact rfl;omega)|(apply Ok1.lss_f;exact rfl;exact rfl;omega)|(apply Ok1.mul64;exact rfl;exact rfl;omega;omega)|(apply Ok1.shr;exact rfl;exact rfl;omega;exact Nat.le_of_ble_eq_true rfl;(first|exact pwE1|exact pwE2|exact pwE3|exact pwE4|exact pwE5|exact pwE6|exact pwE7|exact pwE8|exact pwE16|exact pwE24|exact pwE32|exact rfl)))|(apply R.lss rfl rfl rfl<;>intro))|(apply R.pure;exact rfl;first|(apply Ok1.move;exact rfl)|(apply Ok1.fieldAddr;(iterate 5 exact rfl))|(apply Ok1.load;exact rfl;first|(apply Ld.own1;exact rfl;exact rfl;(focus (repeat' first|exact At.head|apply At.tail|apply At.right);done);exact rfl)|(apply Ld.ownk;exact rfl;exact rfl;(focus (repeat' first|exact At.head|apply At.tail|apply At.right);done);exact rfl)|(apply Ld.old1;exact rfl;exact rfl;assumption;(first|exact List.not_mem_nil|assumption))|(apply Ld.blk1;exact rfl;exact rfl;assumption;(first|exact List.not_mem_nil|assumption);exact rfl)|(apply Ld.blkk;exact rfl;exact rfl;assumption;(first|exact List.not_mem_nil|assumption);exact rfl))|(apply Ok1.assign;exact rfl)|(apply Ok1.indexAddr;(iterate 5 exact rfl);omega;omega)|(apply Ok1.indexAddrA;(iterate 5 exact rfl);omega;omega)|(apply Ok1.nilCheck;exact rfl)|(apply Ok1.nilCheckF;exact rfl)|(apply Ok1.index1;(iterate 6 exact rfl);omega;omega;exact rfl)|(apply Ok1.indexk;(iterate 6 exact rfl);omega;omega;exact rfl)|(apply Ok1.convI64;(iterate 5 exact rfl);omega;omega)|(apply Ok1.convU64;(iterate 5 exact rfl);omega;omega)|(apply Ok1.convU32;(iterate 5 exact rfl);omega;omega)|(apply Ok1.convU8;(iterate 5 exact rfl);omega;omega)|(apply Ok1.conv;(iterate 5 exact rfl)))|(apply R.alloc;(iterate 3 exact rfl);intro))|(apply R.is0;first|(apply R.store;(iterate 6 exact rfl);(focus (repeat' first|exact Upd.head|apply Upd.tail|apply Upd.right);done);exact rfl)|fail)|(apply R.isG;first|(apply R.guard_run;exact rfl;exact rfl)|(apply R.guard_not;(iterate 3 exact rfl))|(apply R.guard_not0;exact rfl;exact rfl)|(apply R.guard_un;(iterate 3 exact rfl))|(apply R.guard_un0;exact rfl;exact rfl)|(apply R.guard rfl rfl ?_ (fun h=>⟨rfl,?_⟩)<;>try intro))|apply R.nil|(apply T.is;first|apply T.rounds 9|apply T.seq|apply T.region|apply T.block|apply T.scope|apply T.label|apply T.skip|apply T.exit|apply T.ret|(apply T.cond_t;exact rfl)|(apply T.cond_f;exact rfl)|(apply T.cond_h;exact rfl;assumption)|(apply T.cond_n;exact rfl;assumption)|(apply T.cond rfl<;>intro))|apply Rnd.step)
  (apply RetOk.c;exact rfl;(first|(apply Ld.ownk;exact rfl;exact rfl;(focus (repeat' first|exact At.head|apply At.tail|apply At.right);done);exact rfl)|(apply Ld.own1;exact rfl;exact rfl;(focus (repeat' first|exact At.head|apply At.tail|apply At.right);done);exact rfl)))
  simp only [u8_mod]
  rfl
theorem rdnone {n:Nat} {xs:List Int} {w:World} (hn:n=xs.length) (h:RdSl w none u8V xs):n=0:=by
  rcases h with h|⟨b,o,h,_⟩
  · rw [hn,h];rfl
  · cases h
theorem clone_ok (p:Option Addr) (n cap:Nat) (xs:List Int) (hn:n=xs.length) (hbig:n≤1000000000) (w:World) (hp:RdSl w p u8V xs):CallM Try.prog 51 [.slice p n cap] [] w fun v L=>∃ ov,OvOk 1 ov n (u8s xs)∧ov.isSome=p.isSome∧v=slV ov n∧L=blkL 5 ov (u8s xs):=by
  refine enterK (tb:=tb) Try.func51 rfl Try.ntmps51 rfl ?_
  cases p with
  | none =>
    have h0:=rdnone hn hp
    have hx:xs=[]:=List.eq_nil_of_length_eq_zero (by omega)
    subst hx
    repeat' (first|(apply R.is1;first|(apply R.isBin;first|(apply R.pure;exact rfl;first|(apply Ok1.eqlS;(iterate 5 exact rfl))|(apply Ok1.eql_t;exact rfl;exact rfl;omega)|(apply Ok1.eql_f;exact rfl;exact rfl;omega)|(apply Ok1.eqlP;(iterate 5 exact rfl))|(apply Ok1.eqlM;(iterate 5 exact rfl))|(apply Ok1.eqlS;(iterate 5 exact rfl)))|(apply R.eql rfl rfl rfl<;>intro)|(apply R.eqlF;(iterate 8 exact rfl);all_goals intro))|(apply R.pure;exact rfl;first|(apply Ok1.move;exact rfl)|(apply Ok1.assign;exact rfl))|(apply R.buildSlice;(iterate 12 exact rfl);intro))|(apply R.is0;first|fail)|(apply R.isG;first|(apply R.guard_run;exact rfl;exact rfl)|(apply R.guard_not;(iterate 3 exact rfl))|(apply R.guard_not0;exact rfl;exact rfl)|(apply R.guard_un;(iterate 3 exact rfl))|(apply R.guard_un0;exact rfl;exact rfl)|(apply R.guard rfl rfl ?_ (fun h=>⟨rfl,?_⟩)<;>try intro))|apply R.nil|(apply T.is;first|apply T.seq|apply T.region|apply T.block|apply T.scope|apply T.label|apply T.skip|apply T.exit|apply T.ret|(apply T.cond_t;exact rfl)|(apply T.cond_f;exact rfl)|(apply T.cond_h;exact rfl;assumption)|(apply T.cond_n;exact rfl;assumption)|(apply T.cond rfl<;>intro))|apply Rnd.step)
    (apply RetOk.t;exact rfl)
    exact ⟨_,by (focus (repeat' first|exact Keep.nil _|exact Ext.one _ _|exact Ext.here _ _|exact Ext.all _|apply Keep.cons|apply Keep.app|apply Keep.last|apply Ext.cons|apply Ext.app);done),none,by rw [h0];exact OvOk.start 1,rfl,rfl,rfl⟩
  | some a =>
    repeat' (first|(apply R.is1;first|(apply R.buildSlice0;(iterate 4 exact rfl);intro b0)|(apply R.isBin;first|(apply R.pure;exact rfl;first|(apply Ok1.eqlS;(iterate 5 exact rfl))|(apply Ok1.eql_t;exact rfl;exact rfl;omega)|(apply Ok1.eql_f;exact rfl;exact rfl;omega)|(apply Ok1.eqlP;(iterate 5 exact rfl))|(apply Ok1.eqlM;(iterate 5 exact rfl))|(apply Ok1.eqlS;(iterate 5 exact rfl)))|(apply R.eql rfl rfl rfl<;>intro)|(apply R.eqlF;(iterate 8 exact rfl);all_goals intro))|(apply R.isCall;first|(apply R.appendRd (xs:=xs) (v:=u8V) (sz:=1) (ov:=some (b0,0,[])) (n:=0) (old:=[]);(iterate 12 exact rfl);exact ⟨rfl,rfl⟩;(focus (repeat' first|exact Ext.none _|exact Ext.one _ _|exact Ext.here _ _|exact Ext.all _|apply Ext.cons|apply Ext.app|apply Ext.two);done);exact hn;exact u8V_len;exact rfl;(intro w1 hw1;exact hp.chg hw1.chg (Off.nil _));(focus (rw [fl_u8];exact u8s_one xs));omega;intro ov1 hov1 hsome))|(apply R.pure;exact rfl;first|(apply Ok1.move;exact rfl)|(apply Ok1.assign;exact rfl))|(apply R.buildSlice;(iterate 12 exact rfl);intro))|(apply R.is0;first|fail)|(apply R.isG;first|(apply R.guard_run;exact rfl;exact rfl)|(apply R.guard_not;(iterate 3 exact rfl))|(apply R.guard_not0;exact rfl;exact rfl)|(apply R.guard_un;(iterate 3 exact rfl))|(apply R.guard_un0;exact rfl;exact rfl)|(apply R.guard rfl rfl ?_ (fun h=>⟨rfl,?_⟩)<;>try intro))|apply R.nil|(apply T.is;first|apply T.seq|apply T.region|apply T.block|apply T.scope|apply T.label|apply T.skip|apply T.exit|apply T.ret|(apply T.cond_t;exact rfl)|(apply T.cond_f;exact rfl)|(apply T.cond_h;exact rfl;assumption)|(apply T.cond_n;exact rfl;assumption)|(apply T.cond rfl<;>intro))|apply Rnd.step)
    rw [Nat.zero_add,List.nil_append,fl_u8] at hov1
    rw [Nat.zero_add,List.nil_append,fl_u8]
    repeat' (first|(apply R.is1;first|(apply R.isBin;first|(apply R.pure;exact rfl;first|(apply Ok1.eql_t;exact rfl;exact rfl;omega)|(apply Ok1.eql_f;exact rfl;exact rfl;omega)|(apply Ok1.eqlP;(iterate 5 exact rfl))|(apply Ok1.eqlM;(iterate 5 exact rfl))|(apply Ok1.eqlS;(iterate 5 exact rfl)))|(apply R.eql rfl rfl rfl<;>intro)|(apply R.eqlF;(iterate 8 exact rfl);all_goals intro))|(apply R.pure;exact rfl;first|(apply Ok1.move;exact rfl)|(apply Ok1.assign;exact rfl))|(apply R.buildSlice;(iterate 12 exact rfl);intro))|(apply R.is0;first|fail)|(apply R.isG;first|(apply R.guard_run;exact rfl;exact rfl)|(apply R.guard_not;(iterate 3 exact rfl))|(apply R.guard_not0;exact rfl;exact rfl)|(apply R.guard_un;(iterate 3 exact rfl))|(apply R.guard_un0;exact rfl;exact rfl)|(apply R.guard rfl rfl ?_ (fun h=>⟨rfl,?_⟩)<;>try intro))|apply R.nil|(apply T.is;first|apply T.seq|apply T.region|apply T.block|apply T.scope|apply T.label|apply T.skip|apply T.exit|apply T.ret|(apply T.cond_t;exact rfl)|(apply T.cond_f;exact rfl)|(apply T.cond_h;exact rfl;assumption)|(apply T.cond_n;exact rfl;assumption)|(apply T.cond rfl<;>intro))|apply Rnd.step)
    (apply RetOk.t;exact rfl)
    refine ⟨_,?_,ov1,hov1,by rw [hsome rfl];rfl,rfl,rfl⟩
    (focus (repeat' first|exact Keep.nil _|exact Ext.one _ _|exact Ext.here _ _|exact Ext.all _|apply Keep.cons|apply Keep.app|apply Keep.last|apply Ext.cons|apply Ext.app);done)
theorem grow_ok (n:Nat) (hbig:n≤1000000000) (w:World):CallM Try.prog 127 [.slice none 0 0,.int .i64 n] [] w fun v L=>∃ ov,OvOk 1 ov 0 []∧v=slV ov 0∧L=blkL 5 ov []:=by
  refine enterK (tb:=tb) Try.func127 rfl Try.ntmps127 rfl ?_
  rcases Nat.eq_zero_or_pos n with h0|h0
  · subst h0
    repeat' (first|(apply R.is1;first|(apply R.isBin;first|(apply R.pure;exact rfl;first|(apply Ok1.sub64;exact rfl;exact rfl;omega;omega)|(apply Ok1.lss_t;exact rfl;exact rfl;omega)|(apply Ok1.lss_f;exact rfl;exact rfl;omega)|(apply Ok1.gtr_t;exact rfl;exact rfl;omega)|(apply Ok1.gtr_f;exact rfl;exact rfl;omega))|(apply R.lss rfl rfl rfl<;>intro)|(apply R.gtr rfl rfl rfl<;>intro))|(apply R.isCall;first|(apply R.pure;exact rfl;first|(apply Ok1.lenS;(iterate 3 exact rfl))|(apply Ok1.lenStr;(iterate 3 exact rfl))|(apply Ok1.lenMm;(iterate 3 exact rfl);(focus (repeat' first|exact At.head|apply At.tail|apply At.right);done))|(apply Ok1.lenM_nil;(iterate 3 exact rfl))))|(apply R.pure;exact rfl;first|(apply Ok1.capS;(iterate 3 exact rfl))|(apply Ok1.move;exact rfl)|(apply Ok1.assign;exact rfl)|(apply Ok1.slice0;(iterate 7 exact rfl);(refine ⟨?_,?_,?_⟩<;>omega);(first|exact Or.inl rfl|exact Or.inr (fun e=>by cases e)))|(apply Ok1.sliceTo;(iterate 6 exact rfl);omega;omega;omega;(first|exact Or.inl rfl|exact Or.inr (fun e=>by cases e)))|(apply Ok1.sliceFrom;(iterate 7 exact rfl);omega;omega;omega;omega;omega;(first|exact Or.inl rfl|exact Or.inr (fun e=>by cases e)))))|(apply R.is0;first|fail)|(apply R.isG;first|(apply R.guard_run;exact rfl;exact rfl)|(apply R.guard_not;(iterate 3 exact rfl))|(apply R.guard_not0;exact rfl;exact rfl)|(apply R.guard_un;(iterate 3 exact rfl))|(apply R.guard_un0;exact rfl;exact rfl)|(apply R.guard rfl rfl ?_ (fun h=>⟨rfl,?_⟩)<;>try intro))|apply R.nil|(apply T.is;first|apply T.seq|apply T.region|apply T.block|apply T.scope|apply T.label|apply T.skip|apply T.exit|apply T.ret|(apply T.cond_t;exact rfl)|(apply T.cond_f;exact rfl)|(apply T.cond_h;exact rfl;assumption)|(apply T.cond_n;exact rfl;assumption)|(apply T.cond rfl<;>intro))|apply Rnd.step)
    (apply RetOk.t;exact rfl)
    exact ⟨_,by (focus (repeat' first|exact Keep.nil _|exact Ext.one _ _|exact Ext.here _ _|exact Ext.all _|apply Keep.cons|apply Keep.app|apply Keep.last|apply Ext.cons|apply Ext.app);done),none,OvOk.start 1,rfl,rfl⟩
  · repeat' (first|(apply R.is1;first|(apply R.isBin;first|(apply R.pure;exact rfl;first|(apply Ok1.sub64;exact rfl;exact rfl;omega;omega)|(apply Ok1.lss_t;exact rfl;exact rfl;omega)|(apply Ok1.lss_f;exact rfl;exact rfl;omega)|(apply Ok1.gtr_t;exact rfl;exact rfl;omega)|(apply Ok1.gtr_f;exact rfl;exact rfl;omega))|(apply R.lss rfl rfl rfl<;>intro)|(apply R.gtr rfl rfl rfl<;>intro))|(apply R.isCall;first|(apply R.growMk (n:=n);(iterate 12 exact rfl);omega;omega;intro b0 j0)|(apply R.pure;exact rfl;first|(apply Ok1.lenS;(iterate 3 exact rfl))|(apply Ok1.lenStr;(iterate 3 exact rfl))|(apply Ok1.lenMm;(iterate 3 exact rfl);(focus (repeat' first|exact At.head|apply At.tail|apply At.right);done))|(apply Ok1.lenM_nil;(iterate 3 exact rfl))))|(apply R.pure;exact rfl;first|(apply Ok1.capS;(iterate 3 exact rfl))|(apply Ok1.move;exact rfl)|(apply Ok1.assign;exact rfl)|(apply Ok1.slice0;(iterate 7 exact rfl);(refine ⟨?_,?_,?_⟩<;>omega);(first|exact Or.inl rfl|exact Or.inr (fun e=>by cases e)))|(apply Ok1.sliceTo;(iterate 6 exact rfl);omega;omega;omega;(first|exact Or.inl rfl|exact Or.inr (fun e=>by cases e)))|(apply Ok1.sliceFrom;(iterate 7 exact rfl);omega;omega;omega;omega;omega;(first|exact Or.inl rfl|exact Or.inr (fun e=>by cases e)))))|(apply R.is0;first|fail)|(apply R.isG;first|(apply R.guard_run;exact rfl;exact rfl)|(apply R.guard_not;(iterate 3 exact rfl))|(apply R.guard_not0;exact rfl;exact rfl)|(apply R.guard_un;(iterate 3 exact rfl))|(apply R.guard_un0;exact rfl;exact rfl)|(apply R.guard rfl rfl ?_ (fun h=>⟨rfl,?_⟩)<;>try intro))|apply R.nil|(apply T.is;first|apply T.seq|apply T.region|apply T.block|apply T.scope|apply T.label|apply T.skip|apply T.exit|apply T.ret|(apply T.cond_t;exact rfl)|(apply T.cond_f;exact rfl)|(apply T.cond_h;exact rfl;assumption)|(apply T.cond_n;exact rfl;assumption)|(apply T.cond rfl<;>intro))|apply Rnd.step)
    (apply RetOk.t;exact rfl)
    refine ⟨_,?_,some (b0,n+j0,List.replicate (n+j0) (.int .u8 0)),⟨rfl,by simp⟩,by simp [slV];omega,rfl⟩
    simp only [blkL,List.nil_append]
    (focus (repeat' first|exact Keep.nil _|exact Ext.one _ _|exact Ext.here _ _|exact Ext.all _|apply Keep.cons|apply Keep.app|apply Keep.last|apply Ext.cons|apply Ext.app);done)
/-- A part: a slice of bytes. -/
structure Pt where
  p:Option Addr
  cap:Nat
  xs:List Int
deriving Inhabited
def Pt.v (x:Pt):List Value:=[.slice x.p x.xs.length x.cap]
theorem Pt.v_len (x:Pt):x.v.length=1:=rfl
def cat (ps:List Pt):List Int:=ps.flatMap (·.xs)
theorem cat_nil:cat []=[]:=rfl
theorem cat_snoc {ps:List Pt} {i:Nat} {x:Pt} (h:ps[i]? = some x):cat (ps.take (i+1))=cat (ps.take i)++x.xs:=by
  unfold cat
  rw [List.take_add_one,h,List.flatMap_append]
  simp
theorem cat_le (ps:List Pt) (i:Nat):(cat (ps.take i)).length≤(cat ps).length:=by
  conv=>rhs;rw [← List.take_append_drop i ps]
  unfold cat
  rw [List.flatMap_append,List.length_append]
  omega
theorem concat_ok (p:Option Addr) (n cap:Nat) (ps:List Pt) (hn:n=ps.length) (hbig:(cat ps).length≤1000000000) (hbig2:n≤1000000000) (w:World) (hp:RdSl w p Pt.v ps) (hall:∀ x∈ps,RdSl w x.p u8V x.xs) :
    CallM Try.prog 120 [.slice p n cap] [] w fun v L=>∃ ov,OvOk 1 ov (cat ps).length (u8s (cat ps))∧v=slV ov (cat ps).length∧L=blkL 5 ov (u8s (cat ps)):=by
  subst hn
  refine enterK (tb:=tb) Try.func120 rfl Try.ntmps120 rfl ?_
  repeat' (first|(apply R.is1;first|(apply R.isBin;first|(apply R.pure;exact rfl;first|(apply Ok1.add64;exact rfl;exact rfl;omega;omega)|(apply Ok1.lss_t;exact rfl;exact rfl;omega)|(apply Ok1.lss_f;exact rfl;exact rfl;omega))|(apply R.lss rfl rfl rfl<;>intro))|(apply R.isCall;first|(apply R.pure;exact rfl;first|(apply Ok1.lenS;(iterate 3 exact rfl))|(apply Ok1.lenStr;(iterate 3 exact rfl))|(apply Ok1.lenMm;(iterate 3 exact rfl);(focus (repeat' first|exact At.head|apply At.tail|apply At.right);done))|(apply Ok1.lenM_nil;(iterate 3 exact rfl))))|(apply R.pure;exact rfl;first|(apply Ok1.move;exact rfl)|(apply Ok1.load;exact rfl;first|(apply Ld.own1;exact rfl;exact rfl;(focus (repeat' first|exact At.head|apply At.tail|apply At.right);done);exact rfl)|(apply Ld.ownk;exact rfl;exact rfl;(focus (repeat' first|exact At.head|apply At.tail|apply At.right);done);exact rfl)|(apply Ld.old1;exact rfl;exact rfl;assumption;(first|exact List.not_mem_nil|assumption))|(apply Ld.blk1;exact rfl;exact rfl;assumption;(first|exact List.not_mem_nil|assumption);exact rfl)|(apply Ld.blkk;exact rfl;exact rfl;assumption;(first|exact List.not_mem_nil|assumption);exact rfl))|(apply Ok1.assign;exact rfl)|(apply Ok1.indexAddr;(iterate 5 exact rfl);omega;omega)|(apply Ok1.indexAddrA;(iterate 5 exact rfl);omega;omega)))|(apply R.is0;first|fail)|(apply R.isG;first|(apply R.guard_run;exact rfl;exact rfl)|(apply R.guard_not;(iterate 3 exact rfl))|(apply R.guard_not0;exact rfl;exact rfl)|(apply R.guard_un;(iterate 3 exact rfl))|(apply R.guard_un0;exact rfl;exact rfl)|(apply R.guard rfl rfl ?_ (fun h=>⟨rfl,?_⟩)<;>try intro))|apply R.nil|(apply T.is;first|apply T.seq|apply T.region|apply T.block|apply T.scope|apply T.label|apply T.skip|apply T.exit|apply T.ret|(apply T.cond_t;exact rfl)|(apply T.cond_f;exact rfl)|(apply T.cond_h;exact rfl;assumption)|(apply T.cond_n;exact rfl;assumption)|(apply T.cond rfl<;>intro))|apply Rnd.step)
  apply T.loopK (α:=Nat) (I:=fun i=>i≤ps.length) (σi:=fun i=>[(0,.slice p ps.length cap),(3,.int .i64 (cat (ps.take i)).length),(9,.slice p ps.length cap),(10,.int .i64 ps.length),(11,.int .i64 i)]) (Li:=fun _=>[]) (μ:=fun i=>ps.length - i) (i0:=0)
  · exact Nat.zero_le _
  · exact ⟨rfl,rfl,rfl,rfl,rfl,trivial⟩
  · (focus (repeat' first|exact Keep.nil _|exact Ext.one _ _|exact Ext.here _ _|exact Ext.all _|apply Keep.cons|apply Keep.app|apply Keep.last|apply Ext.cons|apply Ext.app);done)
  · intro i hi
    have hle:=cat_le ps i
    rcases Nat.lt_or_ge i ps.length with hlt|hge
    · obtain ⟨x,hx⟩:∃ x,ps[i]? = some x:=⟨_,List.getElem?_eq_getElem (by omega)⟩
      obtain ⟨b,o,hpe,H⟩:=hp.at hx
      replace H:=H 1 Pt.v_len
      have hs:=cat_snoc hx
      have hl:=congrArg List.length hs
      rw [List.length_append] at hl
      have hle2:=cat_le ps (i+1)
      repeat' (first|(apply R.is1;first|(apply R.isBin;first|(apply R.pure;exact rfl;first|(apply Ok1.add64;exact rfl;exact rfl;omega;omega)|(apply Ok1.lss_t;exact rfl;exact rfl;omega)|(apply Ok1.lss_f;exact rfl;exact rfl;omega))|(apply R.lss rfl rfl rfl<;>intro))|(apply R.isCall;first|(apply R.pure;exact rfl;first|(apply Ok1.lenS;(iterate 3 exact rfl))|(apply Ok1.lenStr;(iterate 3 exact rfl))|(apply Ok1.lenMm;(iterate 3 exact rfl);(focus (repeat' first|exact At.head|apply At.tail|apply At.right);done))|(apply Ok1.lenM_nil;(iterate 3 exact rfl))))|(apply R.pure;exact rfl;first|(apply Ok1.indexAddrP;(iterate 4 exact rfl);exact hpe;exact rfl;omega;omega)|(apply Ok1.load;exact rfl;apply Ld.row0 H;exact rfl;exact List.not_mem_nil;(iterate 3 exact rfl))|(apply Ok1.move;exact rfl)|(apply Ok1.load;exact rfl;first|(apply Ld.own1;exact rfl;exact rfl;(focus (repeat' first|exact At.head|apply At.tail|apply At.right);done);exact rfl)|(apply Ld.ownk;exact rfl;exact rfl;(focus (repeat' first|exact At.head|apply At.tail|apply At.right);done);exact rfl)|(apply Ld.old1;exact rfl;exact rfl;assumption;(first|exact List.not_mem_nil|assumption))|(apply Ld.blk1;exact rfl;exact rfl;assumption;(first|exact List.not_mem_nil|assumption);exact rfl)|(apply Ld.blkk;exact rfl;exact rfl;assumption;(first|exact List.not_mem_nil|assumption);exact rfl))|(apply Ok1.assign;exact rfl)|(apply Ok1.indexAddr;(iterate 5 exact rfl);omega;omega)|(apply Ok1.indexAddrA;(iterate 5 exact rfl);omega;omega)))|(apply R.is0;first|fail)|(apply R.isG;first|(apply R.guard_run;exact rfl;exact rfl)|(apply R.guard_not;(iterate 3 exact rfl))|(apply R.guard_not0;exact rfl;exact rfl)|(apply R.guard_un;(iterate 3 exact rfl))|(apply R.guard_un0;exact rfl;exact rfl)|(apply R.guard rfl rfl ?_ (fun h=>⟨rfl,?_⟩)<;>try intro))|apply R.nil|(apply T.is;first|apply T.seq|apply T.region|apply T.block|apply T.scope|apply T.label|apply T.skip|apply T.exit|apply T.ret|(apply T.cond_t;exact rfl)|(apply T.cond_f;exact rfl)|(apply T.cond_h;exact rfl;assumption)|(apply T.cond_n;exact rfl;assumption)|(apply T.cond rfl<;>intro))|apply Rnd.step)
      refine ⟨i+1,by omega,by omega,⟨rfl,?_,rfl,rfl,rfl,trivial⟩,by (focus (repeat' first|exact Keep.nil _|exact Ext.one _ _|exact Ext.here _ _|exact Ext.all _|apply Keep.cons|apply Keep.app|apply Keep.last|apply Ext.cons|apply Ext.app);done)⟩
      rw [hl]
      rfl
    · have him:i=ps.length:=by omega
      subst him
      rw [List.take_length]
      have hgr:=fun w1=>grow_ok (cat ps).length hbig w1
      repeat' (first|(apply R.is1;first|(apply R.isBin;first|(apply R.pure;exact rfl;first|(apply Ok1.add64;exact rfl;exact rfl;omega;omega)|(apply Ok1.lss_t;exact rfl;exact rfl;omega)|(apply Ok1.lss_f;exact rfl;exact rfl;omega))|(apply R.lss rfl rfl rfl<;>intro))|(apply R.isCall;first|(apply R.callE;(iterate 3 exact rfl);exact Ext.none _;intro w1 hw1;exact hgr w1;rintro v Lo ⟨ov0,hov0,rfl,rfl⟩)|(apply R.pure;exact rfl;first|(apply Ok1.lenS;(iterate 3 exact rfl))|(apply Ok1.lenStr;(iterate 3 exact rfl))|(apply Ok1.lenMm;(iterate 3 exact rfl);(focus (repeat' first|exact At.head|apply At.tail|apply At.right);done))|(apply Ok1.lenM_nil;(iterate 3 exact rfl))))|(apply R.pure;exact rfl;first|(apply Ok1.move;exact rfl)|(apply Ok1.load;exact rfl;first|(apply Ld.own1;exact rfl;exact rfl;(focus (repeat' first|exact At.head|apply At.tail|apply At.right);done);exact rfl)|(apply Ld.ownk;exact rfl;exact rfl;(focus (repeat' first|exact At.head|apply At.tail|apply At.right);done);exact rfl)|(apply Ld.old1;exact rfl;exact rfl;assumption;(first|exact List.not_mem_nil|assumption))|(apply Ld.blk1;exact rfl;exact rfl;assumption;(first|exact List.not_mem_nil|assumption);exact rfl)|(apply Ld.blkk;exact rfl;exact rfl;assumption;(first|exact List.not_mem_nil|assumption);exact rfl))|(apply Ok1.assign;exact rfl)|(apply Ok1.indexAddr;(iterate 5 exact rfl);omega;omega)|(apply Ok1.indexAddrA;(iterate 5 exact rfl);omega;omega)))|(apply R.is0;first|fail)|(apply R.isG;first|(apply R.guard_run;exact rfl;exact rfl)|(apply R.guard_not;(iterate 3 exact rfl))|(apply R.guard_not0;exact rfl;exact rfl)|(apply R.guard_un;(iterate 3 exact rfl))|(apply R.guard_un0;exact rfl;exact rfl)|(apply R.guard rfl rfl ?_ (fun h=>⟨rfl,?_⟩)<;>try intro))|apply R.nil|(apply T.is;first|apply T.seq|apply T.region|apply T.block|apply T.scope|apply T.label|apply T.skip|apply T.exit|apply T.ret|(apply T.cond_t;exact rfl)|(apply T.cond_f;exact rfl)|(apply T.cond_h;exact rfl;assumption)|(apply T.cond_n;exact rfl;assumption)|(apply T.cond rfl<;>intro))|apply Rnd.step)
      apply T.loopK (α:=Nat × Ov) (I:=fun y=>y.1≤ps.length∧OvOk 1 y.2 (cat (ps.take y.1)).length (u8s (cat (ps.take y.1)))) (σi:=fun y=>[(6,slV y.2 (cat (ps.take y.1)).length),(25,.slice p ps.length cap),(26,.int .i64 ps.length),(27,.int .i64 y.1)]) (Li:=fun y=>blkL 5 y.2 (u8s (cat (ps.take y.1)))) (μ:=fun y=>ps.length - y.1) (i0:=(0,ov0))
      · exact ⟨Nat.zero_le _,hov0⟩
      · exact ⟨rfl,rfl,rfl,rfl,trivial⟩
      · simp only [List.take_zero,cat_nil]
        change Keep _ (blkL 5 ov0 [])
        (focus (repeat' first|exact Keep.nil _|exact Ext.one _ _|exact Ext.here _ _|exact Ext.all _|apply Keep.cons|apply Keep.app|apply Keep.last|apply Ext.cons|apply Ext.app);done)
      · rintro ⟨i,ov⟩ ⟨hi,hov⟩
        simp only at hi hov ⊢
        rcases Nat.lt_or_ge i ps.length with hlt|hge
        · obtain ⟨x,hx⟩:∃ x,ps[i]? = some x:=⟨_,List.getElem?_eq_getElem (by omega)⟩
          obtain ⟨b,o,hpe,H⟩:=hp.at hx
          replace H:=H 1 Pt.v_len
          have hs:=cat_snoc hx
          have hl:=congrArg List.length hs
          rw [List.length_append] at hl
          have hle2:=cat_le ps (i+1)
          have hrd:=hall x (List.mem_of_getElem? hx)
          repeat' (first|(apply R.is1;first|(apply R.isBin;first|(apply R.pure;exact rfl;first|(apply Ok1.add64;exact rfl;exact rfl;omega;omega)|(apply Ok1.lss_t;exact rfl;exact rfl;omega)|(apply Ok1.lss_f;exact rfl;exact rfl;omega))|(apply R.lss rfl rfl rfl<;>intro))|(apply R.isCall;first|(apply R.appendRd (xs:=x.xs) (v:=u8V) (sz:=1) (ov:=ov) (n:=(cat (ps.take i)).length) (old:=u8s (cat (ps.take i)));(iterate 12 exact rfl);exact hov;(focus (repeat' first|exact Ext.none _|exact Ext.one _ _|exact Ext.here _ _|exact Ext.all _|apply Ext.cons|apply Ext.app|apply Ext.two);done);exact rfl;exact u8V_len;exact rfl;(intro w1 hw1;exact hrd.chg hw1.chg (Off.nil _));(focus (rw [fl_u8];exact u8s_one x.xs));omega;intro ov1 hov1 hsome)|(apply R.pure;exact rfl;first|(apply Ok1.lenS;(iterate 3 exact rfl))|(apply Ok1.lenStr;(iterate 3 exact rfl))|(apply Ok1.lenMm;(iterate 3 exact rfl);(focus (repeat' first|exact At.head|apply At.tail|apply At.right);done))|(apply Ok1.lenM_nil;(iterate 3 exact rfl))))|(apply R.pure;exact rfl;first|(apply Ok1.indexAddrP;(iterate 4 exact rfl);exact hpe;exact rfl;omega;omega)|(apply Ok1.load;exact rfl;apply Ld.row0 H;exact rfl;exact List.not_mem_nil;(iterate 3 exact rfl))|(apply Ok1.move;exact rfl)|(apply Ok1.load;exact rfl;first|(apply Ld.own1;exact rfl;exact rfl;(focus (repeat' first|exact At.head|apply At.tail|apply At.right);done);exact rfl)|(apply Ld.ownk;exact rfl;exact rfl;(focus (repeat' first|exact At.head|apply At.tail|apply At.right);done);exact rfl)|(apply Ld.old1;exact rfl;exact rfl;assumption;(first|exact List.not_mem_nil|assumption))|(apply Ld.blk1;exact rfl;exact rfl;assumption;(first|exact List.not_mem_nil|assumption);exact rfl)|(apply Ld.blkk;exact rfl;exact rfl;assumption;(first|exact List.not_mem_nil|assumption);exact rfl))|(apply Ok1.assign;exact rfl)|(apply Ok1.indexAddr;(iterate 5 exact rfl);omega;omega)|(apply Ok1.indexAddrA;(iterate 5 exact rfl);omega;omega)))|(apply R.is0;first|fail)|(apply R.isG;first|(apply R.guard_run;exact rfl;exact rfl)|(apply R.guard_not;(iterate 3 exact rfl))|(apply R.guard_not0;exact rfl;exact rfl)|(apply R.guard_un;(iterate 3 exact rfl))|(apply R.guard_un0;exact rfl;exact rfl)|(apply R.guard rfl rfl ?_ (fun h=>⟨rfl,?_⟩)<;>try intro))|apply R.nil|(apply T.is;first|apply T.seq|apply T.region|apply T.block|apply T.scope|apply T.label|apply T.skip|apply T.exit|apply T.ret|(apply T.cond_t;exact rfl)|(apply T.cond_f;exact rfl)|(apply T.cond_h;exact rfl;assumption)|(apply T.cond_n;exact rfl;assumption)|(apply T.cond rfl<;>intro))|apply Rnd.step)
          rw [fl_u8,← u8s_app,← hs,← hl] at hov1
          rw [fl_u8,← u8s_app,← hs,← hl]
          repeat' (first|(apply R.is1;first|(apply R.isBin;first|(apply R.pure;exact rfl;first|(apply Ok1.add64;exact rfl;exact rfl;omega;omega)|(apply Ok1.lss_t;exact rfl;exact rfl;omega)|(apply Ok1.lss_f;exact rfl;exact rfl;omega))|(apply R.lss rfl rfl rfl<;>intro))|(apply R.isCall;first|(apply R.pure;exact rfl;first|(apply Ok1.lenS;(iterate 3 exact rfl))|(apply Ok1.lenStr;(iterate 3 exact rfl))|(apply Ok1.lenMm;(iterate 3 exact rfl);(focus (repeat' first|exact At.head|apply At.tail|apply At.right);done))|(apply Ok1.lenM_nil;(iterate 3 exact rfl))))|(apply R.pure;exact rfl;first|(apply Ok1.move;exact rfl)|(apply Ok1.load;exact rfl;first|(apply Ld.own1;exact rfl;exact rfl;(focus (repeat' first|exact At.head|apply At.tail|apply At.right);done);exact rfl)|(apply Ld.ownk;exact rfl;exact rfl;(focus (repeat' first|exact At.head|apply At.tail|apply At.right);done);exact rfl)|(apply Ld.old1;exact rfl;exact rfl;assumption;(first|exact List.not_mem_nil|assumption))|(apply Ld.blk1;exact rfl;exact rfl;assumption;(first|exact List.not_mem_nil|assumption);exact rfl)|(apply Ld.blkk;exact rfl;exact rfl;assumption;(first|exact List.not_mem_nil|assumption);exact rfl))|(apply Ok1.assign;exact rfl)|(apply Ok1.indexAddr;(iterate 5 exact rfl);omega;omega)|(apply Ok1.indexAddrA;(iterate 5 exact rfl);omega;omega)))|(apply R.is0;first|fail)|(apply R.isG;first|(apply R.guard_run;exact rfl;exact rfl)|(apply R.guard_not;(iterate 3 exact rfl))|(apply R.guard_not0;exact rfl;exact rfl)|(apply R.guard_un;(iterate 3 exact rfl))|(apply R.guard_un0;exact rfl;exact rfl)|(apply R.guard rfl rfl ?_ (fun h=>⟨rfl,?_⟩)<;>try intro))|apply R.nil|(apply T.is;first|apply T.seq|apply T.region|apply T.block|apply T.scope|apply T.label|apply T.skip|apply T.exit|apply T.ret|(apply T.cond_t;exact rfl)|(apply T.cond_f;exact rfl)|(apply T.cond_h;exact rfl;assumption)|(apply T.cond_n;exact rfl;assumption)|(apply T.cond rfl<;>intro))|apply Rnd.step)
          exact ⟨(i+1,ov1),⟨by simp only;omega,hov1⟩,by simp only;omega,⟨rfl,rfl,rfl,rfl,trivial⟩,by (focus (repeat' first|exact Keep.nil _|exact Ext.one _ _|exact Ext.here _ _|exact Ext.all _|apply Keep.cons|apply Keep.app|apply Keep.last|apply Ext.cons|apply Ext.app);done)⟩
        · have him:i=ps.length:=by omega
          subst him
          rw [List.take_length] at hov ⊢
          repeat' (first|(apply R.is1;first|(apply R.isBin;first|(apply R.pure;exact rfl;first|(apply Ok1.add64;exact rfl;exact rfl;omega;omega)|(apply Ok1.lss_t;exact rfl;exact rfl;omega)|(apply Ok1.lss_f;exact rfl;exact rfl;omega))|(apply R.lss rfl rfl rfl<;>intro))|(apply R.isCall;first|(apply R.pure;exact rfl;first|(apply Ok1.lenS;(iterate 3 exact rfl))|(apply Ok1.lenStr;(iterate 3 exact rfl))|(apply Ok1.lenMm;(iterate 3 exact rfl);(focus (repeat' first|exact At.head|apply At.tail|apply At.right);done))|(apply Ok1.lenM_nil;(iterate 3 exact rfl))))|(apply R.pure;exact rfl;first|(apply Ok1.move;exact rfl)|(apply Ok1.load;exact rfl;first|(apply Ld.own1;exact rfl;exact rfl;(focus (repeat' first|exact At.head|apply At.tail|apply At.right);done);exact rfl)|(apply Ld.ownk;exact rfl;exact rfl;(focus (repeat' first|exact At.head|apply At.tail|apply At.right);done);exact rfl)|(apply Ld.old1;exact rfl;exact rfl;assumption;(first|exact List.not_mem_nil|assumption))|(apply Ld.blk1;exact rfl;exact rfl;assumption;(first|exact List.not_mem_nil|assumption);exact rfl)|(apply Ld.blkk;exact rfl;exact rfl;assumption;(first|exact List.not_mem_nil|assumption);exact rfl))|(apply Ok1.assign;exact rfl)|(apply Ok1.indexAddr;(iterate 5 exact rfl);omega;omega)|(apply Ok1.indexAddrA;(iterate 5 exact rfl);omega;omega)))|(apply R.is0;first|fail)|(apply R.isG;first|(apply R.guard_run;exact rfl;exact rfl)|(apply R.guard_not;(iterate 3 exact rfl))|(apply R.guard_not0;exact rfl;exact rfl)|(apply R.guard_un;(iterate 3 exact rfl))|(apply R.guard_un0;exact rfl;exact rfl)|(apply R.guard rfl rfl ?_ (fun h=>⟨rfl,?_⟩)<;>try intro))|apply R.nil|(apply T.is;first|apply T.seq|apply T.region|apply T.block|apply T.scope|apply T.label|apply T.skip|apply T.exit|apply T.ret|(apply T.cond_t;exact rfl)|(apply T.cond_f;exact rfl)|(apply T.cond_h;exact rfl;assumption)|(apply T.cond_n;exact rfl;assumption)|(apply T.cond rfl<;>intro))|apply Rnd.step)
          (apply RetOk.t;exact rfl)
          exact ⟨_,by (focus (repeat' first|exact Keep.nil _|exact Ext.one _ _|exact Ext.here _ _|exact Ext.all _|apply Keep.cons|apply Keep.app|apply Keep.last|apply Ext.cons|apply Ext.app);done),ov,hov,rfl,rfl⟩
end Go.Proofs.Ytijbmkjebidanaa
