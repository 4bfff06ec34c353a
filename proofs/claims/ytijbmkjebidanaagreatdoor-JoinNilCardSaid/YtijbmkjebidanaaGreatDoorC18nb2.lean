/- Texts of the proof: Eng15, Eng22, Eng25, S0, Tab, Dg1, Dg2, Dg3, Dg4, Dg5. -/
import Derived.Test.YtijbmkjebidanaaGreatDoorC18nb1
import Derived.ProofKit
import Derived.Deep.Slices
import Derived.OpenShut
import Derived.Test.YtijbmkjebidanaaGreatDoorProg
set_option linter.unusedSimpArgs false
set_option linter.unusedVariables false
set_option linter.unusedSectionVars false
namespace Go.Proofs.YtijbmkjebidanaaGreatDoor
open Go.RowKit Go.Shelf Go.ChangeShapes Go.WideShapes Go.Deep
/-- A cell of this kind,within its range. -/
def cellW:TK→Value→Prop
  | .int k,.int k' n=>k'=k∧k.min≤n∧n≤k.max
  | .bool,.bool _=>True
  | .string,.string s=>s.size≤maxLen
  | _,_=>False
def allW:List TK→List Value→Prop
  | [],[]=>True
  | k::ks,v::vs=>cellW k v∧allW ks vs
  | _,_=>False
theorem allW_append:∀ {ks ls:List TK} {vs:List Value},allW ks (vs.take ks.length)→allW ls (vs.drop ks.length)→allW (ks++ls) vs
  | [],ls,vs,_,h=>by simpa using h
  | k::ks,ls,[],h,_=>by simp [allW] at h
  | k::ks,ls,v::vs,h,h2=>by
    simp only [List.length_cons,List.take_succ_cons,List.drop_succ_cons,allW] at h h2
    exact ⟨h.1,allW_append h.2 h2⟩

section
variable {H:Type} {enc:TypeId × Value→H} {P:Program} {w:World} {base:Nat} {spare:Nat→Bool} {held:Bool}
theorem cells_of (w:World) {t sz:Nat} (h:∀ w,(Go.sizeOf t).run P w = .ok sz w):P.cellsOf t=sz:=by
  have:=h w
  simp only [Go.sizeOf,typeInfo,Sem.run_bind,Sem.run_pure] at this
  unfold Program.cellsOf
  cases hi:P.info? t with
  | none=>simp [hi] at this
  | some i=>simp [hi] at this;simp [this]
theorem trodFs {g:Nat→Option (List TK)} {n:Nat} {cs:List Value} (hg:∀ t ks us x,g t=some ks→P.cellsOf t=ks.length→DataW.trod enc P w base spare held n t us=some x→allW ks us) :
    ∀ (fields:List Field) (fs:List (Nat × Nat × Nat)) (k:Nat) (ks:List TK),Flds P fields fs→flatFs g fs k=some ks→cs.length=k+ks.length→(∀ f∈fields,∃ x,DataW.trod enc P w base spare held n f.type ((cs.drop f.offset).take (P.cellsOf f.type))=some x)→allW ks (cs.drop k)
  | [],[],k,ks,_,h,hl,_=>by
    simp only [flatFs,Option.some.injEq] at h
    subst h
    rw [List.drop_eq_nil_of_le (by simp at hl;omega)]
    trivial
  | [],_::_,_,_,h,_,_,_=>h.elim
  | _::_,[],_,_,h,_,_,_=>h.elim
  | f :: fields,(t,off,sz)::fs,k,ks,hF,h,hl,hx=>by
    obtain ⟨e1,e2,e3,e4,e5⟩:=hF
    simp only [flatFs] at h
    split at h
    · cases h
    · rename_i hb
      have hb':=Nat.eq_of_beq_eq_true hb
      split at h
      · cases h
      · rename_i k1 hk1
        split at h
        · cases h
        · rename_i hl1
          have hl1':=Nat.eq_of_beq_eq_true hl1
          split at h
          · cases h
          · rename_i k2 hk2
            cases h
            obtain ⟨x,hx1⟩:=hx f List.mem_cons_self
            have hsz:=cells_of w e3
            rw [e1,e2,hsz,hb'] at hx1
            have h1:=hg t k1 _ x hk1 (by rw [hsz,hl1']) hx1
            have h2:=trodFs hg fields fs (k+sz) k2 e5 hk2 (by rw [hl,List.length_append,hl1'];omega) fun f' hf'=>hx f' (List.mem_cons_of_mem _ hf')
            refine allW_append (by rw [hl1'];exact h1) ?_
            rw [List.drop_drop,hl1'];exact h2
theorem allW_rep {k1:List TK}:∀ (m:Nat) (cs:List Value),cs.length=m * k1.length→(∀ i,i < m→allW k1 ((cs.drop (i * k1.length)).take k1.length))→allW (repK k1 m) cs
  | 0,cs,hl,_=>by
    have:cs=[]:=by cases cs;rfl;simp at hl
    subst this;trivial
  | m+1,cs,hl,h=>by
    have h0:=h 0 (by omega)
    simp only [Nat.zero_mul,List.drop_zero] at h0
    rw [Nat.add_mul] at hl
    refine allW_append h0 (allW_rep m _ (by rw [List.length_drop,hl];omega) fun i hi=>?_)
    have:=h (i+1) (by omega)
    rwa [List.drop_drop,show k1.length+i * k1.length=(i+1) * k1.length by rw [Nat.add_mul];omega]
theorem trod_flat (tb:Tb P):∀ (n t:Nat) (ks:List TK),flatE tb n t=some ks→P.cellsOf t=ks.length→∀ fuel cs x,DataW.trod enc P w base spare held fuel t cs=some x→allW ks cs
  | 0,_,_,h,_,_,_,_,_=>by cases h
  | n + 1, t, ks,h,hlen,fuel,cs,x,hx=>by
    simp only [flatE] at h
    split at h
    · cases h
    · rename_i r hr
      have hgd:=tb.get hr
      have his:=hgd.is
      split at h
      · rename_i k hk
        rw [hk] at his
        cases h
        obtain ⟨m,rfl,_,hwf⟩:=DataW.trod_int his hx
        simp only [Lit.wf,Bool.and_eq_true,decide_eq_true_eq] at hwf
        exact ⟨⟨rfl,hwf⟩,trivial⟩
      · rename_i hk
        rw [hk] at his
        cases h
        obtain ⟨b,rfl,_⟩:=DataW.trod_bool his hx
        exact ⟨trivial,trivial⟩
      · rename_i hk
        rw [hk] at his
        cases h
        obtain ⟨s,rfl,_,hs⟩:=DataW.trod_string his hx
        exact ⟨hs,trivial⟩
      · rename_i fs hk
        rw [hk] at his
        obtain ⟨fields,h1,h2⟩:=his
        obtain ⟨xs,m,rfl,_,hcl,hxl,hf⟩:=DataW.trod_struct h1 hx
        have:=trodFs (cs:=cs) (n:=m) (fun t ks us x hg hc ht=>trod_flat tb n t ks hg hc m us x ht) fields.toList fs 0 ks h2 h (by rw [hcl,hlen];omega) fun f hf'=>by
          obtain ⟨i,hi,he⟩:=List.getElem_of_mem hf'
          have h3:fields[i]? = some f:=by rw [← he];simp at hi;simp [hi]
          have h4:=hf i f h3
          simp at hi
          rw [List.getElem?_eq_getElem (by omega)] at h4
          exact ⟨_,h4⟩
        simpa using this
      · rename_i mm e hk
        rw [hk] at his
        split at h
        · cases h
        · rename_i re hre
          split at h
          · cases h
          · rename_i k1 hk1
            split at h
            · cases h
            · rename_i hl1
              have hl1':=Nat.eq_of_beq_eq_true hl1
              cases h
              obtain ⟨xs,m,rfl,_,hcl,hxl,hf⟩:=DataW.trod_array his hx
              have hce:P.cellsOf e=k1.length:=by rw [cells_of w (tb.get hre).size,hl1']
              refine allW_rep mm cs (by rw [hcl,hlen,repK_len]) fun i hi=>?_
              have h4:=hf i hi
              rw [hce,List.getElem?_eq_getElem (by omega)] at h4
              exact trod_flat tb n e k1 hk1 hce m _ _ h4
      · cases h

/-- The arguments read behind the call as before: nothing that was there has changed. -/
theorem trodAll_stays {W W':World} (hl:laidOutB P=true) (hb:Below W.heap.size W W') {sp:Nat→Bool}:∀ {ts:List TypeId} {vs:List Value} {ds:List (DataW H)} {ps:List MemPlace},(∀ t∈ts,P.readableRec t=true∧t < P.types.size) →
    DataW.TrodAll enc P W 0 (fun _=>true) true ts vs ds ps→(∀ p∈ps,p.block < W.heap.size∧sp p.block=true)→DataW.TrodAll enc P W' 0 sp true ts vs ds ps
  | [],vs,ds,ps,_,h,_=>by
    obtain ⟨rfl,rfl,rfl⟩:=trodAll_nil h
    exact trodAll_mk0
  | t :: ts,vs,ds,ps,hr,h,hp=>by
    obtain ⟨v,vs',d,ds',p,q,rfl,rfl,rfl,h1,h2⟩:=trodAll_cons h
    have g:=hr t List.mem_cons_self
    exact ⟨p,q,WideElems.Trod_stays hl g.1 g.2 h1 (fun x hx=>hb.same (hp x (List.mem_append_left _ hx)).1) (fun x hx=>(hp x (List.mem_append_left _ hx)).2),
      trodAll_stays hl hb (fun t' ht'=>hr t' (List.mem_cons_of_mem _ ht')) h2 (fun x hx=>hp x (List.mem_append_right _ hx)),rfl⟩
/-- A statement's last step: it returned true,and nothing that was there has changed. -/
theorem law_post {f:Func} {s:ChangeSpec} {apart fresh handsOn again:Bool} {W W':World} {args:Array Value} {ds gs:List (DataW H)} {before:List MemPlace} {tt:TypeId}
    (hW:DataW.Whole enc P f.params.toList s.vars apart W args.toList ds gs before) (hv:s.vars=[]) (hfn:s.fn H ds={ results:=[.lit (.bool true)],args:=ds,vars:=[] })
    (hrt:f.resultTypes = #[tt]) (htt:P.underlying tt=some .bool) (hl:laidOutB P=true) (hread:∀ t∈f.params.toList,P.readableRec t=true∧t < P.types.size) (hb:Below W.heap.size W W') :
    s.post enc P f apart fresh handsOn again W args (.bool true) W':=by
  have hlt:∀ p∈before,p.block < W.heap.size:=fun p hp=>hW.lt p hp
  obtain ⟨p,q,hA,hV,rfl,hz,hn⟩:=hW
  have hV':=hV
  rw [hv] at hV'
  obtain ⟨rfl,rfl⟩:=trodVars_none hV'
  rw [List.append_nil] at hlt hz hn
  have key:∀ sp:Nat→Bool,(∀ x∈p,sp x.block=true)→DataW.TrodAll enc P W' 0 sp true f.params.toList args.toList ds p:=fun sp hs=>trodAll_stays hl hb hread hA fun x hx=>⟨hlt x hx,hs x hx⟩
  have hres:∀ (b:Nat) (sp:Nat→Bool) (hd:Bool),DataW.TrodAll enc P W' b sp hd f.resultTypes.toList ((Value.bool true).resultList f.resultTypes.size) [.lit (.bool true)] []:=fun b sp hd=>by
    rw [hrt];exact trodAll_mk1 (shut_bool htt true)
  refine ⟨ds,[],p,[],p,[],⟨p,[],hA,hV,by simp,hz,hn⟩,?_,?_,?_,World.keptBut_mono (fun x hx=>⟨hx,.inr (.inl hx)⟩) (hb.frame (· ∈ p)),fun _=>⟨?_,?_⟩⟩
  · rw [List.append_nil,hfn];exact hres _ _ _
  · rw [List.append_nil,hfn];exact key _ fun x hx=>by simpa using hlt x hx
  · rw [List.append_nil,hfn,hv];rfl
  · exact ok_one hrt rfl (okWide_bool_mk htt true)
  · refine ⟨.lit (.bool true)::ds,[],p,⟨p,[],?_,by rw [hv];rfl,by simp,?_,hn⟩,fun x hx _=>hx⟩
    · rw [hrt]
      exact ⟨[],p,shut_bool htt true,key _ fun _ _=>rfl,rfl⟩
    · intro b off hx
      rw [hb.frozen (hlt _ hx)]
      exact hz b off hx
end
end Go.Proofs.YtijbmkjebidanaaGreatDoor
set_option linter.unusedSimpArgs false
set_option linter.unusedVariables false
namespace Go.Proofs.YtijbmkjebidanaaGreatDoor
open Go.ChangeShapes Go.WideShapes Go.ChangeAt Go.RowKit
set_option linter.unusedSectionVars false
open Go.Shelf Go.Deep
section
variable {H:Type} {enc:TypeId × Value→H} {P:Program} {w:World} {base:Nat} {spare:Nat→Bool} {held:Bool}
/-- What a type's cells may be,once they have been trodden. -/
def Opens (enc:TypeId × Value→H) (P:Program) (w:World) (base:Nat) (spare:Nat→Bool) (held:Bool) (t:TypeId) (Q:List Value→Prop):Prop:=∀ fuel cs x,DataW.trod enc P w base spare held fuel t cs=some x→Q cs
theorem Opens.flat (tb:Tb P) {t:TypeId} {r:TRow} {ks:List TK} (ht:tb.row t=some r) (hf:flatE tb 8 t=some ks) (hl:Nat.beq ks.length r.size=true):Opens enc P w base spare held t (allW ks) :=
  fun fuel cs x h=>trod_flat tb 8 t ks hf (by rw [cells_of w (tb.get ht).size,Nat.eq_of_beq_eq_true hl]) fuel cs x h
/-- One field of a struct. -/
theorem Opens.field (tb:Tb P) {t ft off sz:Nat} {r:TRow} {fs:List (Nat × Nat × Nat)} {Q:List Value→Prop} (ht:tb.row t=some r) (hk:r.k = .strct fs) (i:Nat) (hi:fldE fs i=some (ft,off,sz)) (hQ:Opens enc P w base spare held ft Q) :
    Opens enc P w base spare held t fun cs=>cs.length=r.size∧Q ((cs.drop off).take sz):=by
  intro fuel cs x hx
  have his:=(tb.get ht).is
  rw [hk] at his
  obtain ⟨fields,h1,h2⟩:=his
  obtain ⟨xs,m,rfl,_,hcl,hxl,hf⟩:=DataW.trod_struct h1 hx
  obtain ⟨f,g1,g2,g3,g4,_⟩:=Flds.get h2 hi
  have g1':fields[i]? = some f:=by rw [← g1];simp
  have h4:=hf i f g1'
  have hlt:i < xs.length:=by rw [hxl];exact (Array.getElem?_eq_some_iff.1 g1').1
  rw [List.getElem?_eq_getElem hlt,g2,g3,cells_of w g4] at h4
  exact ⟨by rw [hcl,cells_of w (tb.get ht).size],hQ _ _ _ h4⟩
theorem Opens.and {t:TypeId} {Q R:List Value→Prop} (h:Opens enc P w base spare held t Q) (h2:Opens enc P w base spare held t R):Opens enc P w base spare held t fun cs=>Q cs∧R cs:=fun f cs x hx=>⟨h f cs x hx,h2 f cs x hx⟩
theorem Opens.mono {t:TypeId} {Q R:List Value→Prop} (h:Opens enc P w base spare held t Q) (h2:∀ cs,Q cs→R cs):Opens enc P w base spare held t R:=fun f cs x hx=>h2 _ (h f cs x hx)
/-- A slice whose elements open. -/
theorem Opens.slice {α:Type} [Inhabited α] (f:α→List Value) (Q:α→Prop) (tb:Tb P) {t e:TypeId} {r re:TRow} (ht:tb.row t=some r) (hk:r.k = .slice e) (he:tb.row e=some re) (hpos:Nat.ble 1 re.size=true)
    (hlen:∀ a,(f a).length=re.size) (hE:Opens enc P w base spare held e fun cs=>∃ a,f a=cs∧Q a) :
    Opens enc P w base spare held t fun cs=>∃ (a:Option Addr) (rs:List α) (cap:Nat),cs=[.slice a rs.length cap]∧RdSl w a f rs∧rs.length≤cap∧cap≤maxLen∧(∀ x∈rs,Q x)∧(a=none→cap=0):=by
  intro fuel cs x hfu
  have hu:P.underlying t=some (.slice e):=by have:=(tb.get ht).is;rw [hk] at this;exact this
  have hce:P.cellsOf e=re.size:=cells_of w (tb.get he).size
  rcases open_slice hu hfu with ⟨h0,_⟩|⟨a,len,cap,m,n,D,Pl,hcs,hb,hlc,hm,hmm,hx,hi⟩
  · exact ⟨none,[],0,h0,.inl rfl,by simp,by simp,by simp,fun _=>rfl⟩
  · have hle:len≤m:=by rw [hmm];split<;>omega
    obtain ⟨R,hR⟩:=choose_lt (α:=α) (p:=fun i x=>w.cells? base (a.add (i * P.cellsOf e)) (P.cellsOf e)=some (f x)∧Q x) (n:=len) (fun i hi'=>by
      obtain ⟨cs',h1,h2⟩:=hi i (by omega)
      obtain ⟨x,hx,hq⟩:=hE _ _ _ h2
      exact ⟨x,by rw [hx];exact h1,hq⟩)
    have hrl:((List.range len).map R).length=len:=by simp
    refine ⟨some a,(List.range len).map R,cap,by rw [hrl];exact hcs,?_,by rw [hrl];exact hlc,hm,?_,fun h=>by cases h⟩
    · by_cases hz:len=0
      · left;simp [hz]
      · right
        have hpos':=Nat.le_of_ble_eq_true hpos
        have hspot:a.spot=none:=by
          obtain ⟨_,h2,h3⟩:=World.cells?_some (hR 0 (by omega)).1
          have h4:=h3 0 (by omega)
          rw [List.getElem?_eq_getElem (by omega)] at h4
          unfold World.cell? at h4
          cases a with|mk b o s =>
          cases s with
          | none=>rfl
          | some s =>
            simp only [Addr.add] at h4
            split at h4
            · simp at h4
            · cases h4
        cases a with|mk b o s =>
        simp only at hspot
        subst hspot
        refine ⟨b,o,rfl,fun k hk'=>?_⟩
        rw [fl_len hlen,hrl] at hk'
        have hdm:=Nat.div_add_mod k re.size
        have hml:=Nat.mod_lt k (show 0 < re.size by omega)
        have hil:k / re.size < len:=by rw [Nat.div_lt_iff_lt_mul (by omega)];exact hk'
        have hgi:((List.range len).map R)[k / re.size]? = some (R (k / re.size)):=by simp [hil]
        have h5:=fl_get hlen hgi hml
        rw [show k / re.size * re.size+k % re.size=k by rw [Nat.mul_comm];exact hdm] at h5
        rw [h5]
        obtain ⟨_,h2,h3⟩:=World.cells?_some (hR _ hil).1
        have h4:=h3 (k % re.size) (by rw [hce];exact hml)
        rw [Addr.add_none,Addr.add_none,hce] at h4
        rw [← h4,show o+k / re.size * re.size+k % re.size=o+k by rw [Nat.add_assoc,show k / re.size * re.size+k % re.size=k by rw [Nat.mul_comm];exact hdm]]
    · intro x hx'
      obtain ⟨i,hi',rfl⟩:=List.mem_map.1 hx'
      exact (hR i (List.mem_range.1 hi')).2
/-- An argument that opens. -/
theorem Opens.arg {t:TypeId} {Q:List Value→Prop} (hE:Opens enc P w base spare held t Q) {v:Value} {d:DataW H} {p:List MemPlace} (h:DataW.Trod enc P w base spare held t v d p):Q v.cells.toList:=by
  obtain ⟨fuel,hfu⟩:=h
  exact hE _ _ _ hfu
end
section
variable {H:Type} {enc:TypeId × Value→H} {P:Program} {w:World} {base:Nat} {spare:Nat→Bool} {held:Bool}
end
end Go.Proofs.YtijbmkjebidanaaGreatDoor
set_option linter.unusedSimpArgs false
set_option linter.unusedVariables false
namespace Go.Proofs.YtijbmkjebidanaaGreatDoor
open Go.RowKit Go.Shelf
def andI (k:IntKind) (x y:Int):Int:=k.wrap (BitVec.ofInt k.bits x &&& BitVec.ofInt k.bits y).toNat
def orI (k:IntKind) (x y:Int):Int:=k.wrap (BitVec.ofInt k.bits x ||| BitVec.ofInt k.bits y).toNat
def xorI (k:IntKind) (x y:Int):Int:=k.wrap (BitVec.ofInt k.bits x ^^^ BitVec.ofInt k.bits y).toNat
section
variable {X:Cx} {σ:Env} {L:Lst} {d:Option Nat} {ty ty2 t:TypeId} {pos:String} {af:Array Edge} {g:Option (Nat × Bool)} {x y:Operand} {i j:Int} {k:IntKind}
theorem Ok1.andK (hx:ev σ x=some (.int k i)) (hy:ev σ y=some (.int k j)):Ok1 X ⟨d,.binOp .and t x y ty2,ty,pos,af,g⟩ σ L (.int k (andI k i j)):=.mk fun a w ha hw=>by
  simp [execOp,ha.ev hx,ha.ev hy,eqGuard,binOp,Op.intBits,andI]
theorem Ok1.orK (hx:ev σ x=some (.int k i)) (hy:ev σ y=some (.int k j)):Ok1 X ⟨d,.binOp .or t x y ty2,ty,pos,af,g⟩ σ L (.int k (orI k i j)):=.mk fun a w ha hw=>by
  simp [execOp,ha.ev hx,ha.ev hy,eqGuard,binOp,Op.intBits,orI]
theorem Ok1.xorK (hx:ev σ x=some (.int k i)) (hy:ev σ y=some (.int k j)):Ok1 X ⟨d,.binOp .xor t x y ty2,ty,pos,af,g⟩ σ L (.int k (xorI k i j)):=.mk fun a w ha hw=>by
  simp [execOp,ha.ev hx,ha.ev hy,eqGuard,binOp,Op.intBits,xorI]
theorem Ok1.cplK (hx:ev σ x=some (.int k i)) (hs:k.signed=false):Ok1 X ⟨d,.unOp .xor t x,ty,pos,af,g⟩ σ L (.int k (xorI k k.max i)):=.mk fun a w ha hw=>by
  simp [execOp,ha.ev hx,Op.unary,Op.intBits,xorI,hs]
theorem Ok1.shl {k2:IntKind} {m:Int} (hx:ev σ x=some (.int k i)) (hy:ev σ y=some (.int k2 j)) (h:0≤j) (h2:j.toNat≤k.bits) (hm:pw j.toNat=m):Ok1 X ⟨d,.binOp .shl t x y ty2,ty,pos,af,g⟩ σ L (.int k (k.wrap (i * m))):=.mk fun a w ha hw=>by
  have:¬ j < 0:=by omega
  rw [← hm,pw_eq]
  simp [execOp,ha.ev hx,ha.ev hy,eqGuard,binOp,Op.shift,this,Nat.min_eq_left h2]
theorem Ok1.add32 (hx:ev σ x=some (.int .u32 i)) (hy:ev σ y=some (.int .u32 j)):Ok1 X ⟨d,.binOp .add t x y ty2,ty,pos,af,g⟩ σ L (.int .u32 (IntKind.u32.wrap (i+j))):=Ok1.add hx hy
theorem wrap_u64 {i:Int} (h1:0≤i) (h2:i≤18446744073709551615):IntKind.u64.wrap i=i:=IntWalk.u64_in i ⟨h1,h2⟩
theorem Ok1.mulU (hx:ev σ x=some (.int .u64 i)) (hy:ev σ y=some (.int .u64 j)) (h1:0≤i * j) (h2:i * j≤18446744073709551615):Ok1 X ⟨d,.binOp .mul t x y ty2,ty,pos,af,g⟩ σ L (.int .u64 (i * j)):=by
  have:=Ok1.mul (X:=X) (σ:=σ) (L:=L) (d:=d) (ty:=ty) (pos:=pos) (af:=af) (g:=g) (t:=t) (ty2:=ty2) hx hy
  rwa [wrap_u64 h1 h2] at this
theorem Ok1.andE {m:Int} (hx:ev σ x=some (.int k i)) (hy:ev σ y=some (.int k j)) (hm:andI k i j=m):Ok1 X ⟨d,.binOp .and t x y ty2,ty,pos,af,g⟩ σ L (.int k m):=hm ▸ Ok1.andK hx hy
theorem Ok1.subU (hx:ev σ x=some (.int .u64 i)) (hy:ev σ y=some (.int .u64 j)) (h1:0≤i - j) (h2:i - j≤18446744073709551615):Ok1 X ⟨d,.binOp .sub t x y ty2,ty,pos,af,g⟩ σ L (.int .u64 (i - j)):=by
  have:=Ok1.sub (X:=X) (σ:=σ) (L:=L) (d:=d) (ty:=ty) (pos:=pos) (af:=af) (g:=g) (t:=t) (ty2:=ty2) hx hy
  rwa [wrap_u64 h1 h2] at this
end
def wr (i:Int):Int:=IntKind.u32.wrap i
theorem wr_mod (i:Int):wr i=i % 4294967296:=by simp [wr,IntKind.wrap,IntKind.bits,IntKind.signed]
theorem wr_in {i:Int} (h1:0≤i) (h2:i≤4294967295):wr i=i:=by rw [wr_mod];omega
theorem wr_bv (v:BitVec 32):IntKind.u32.wrap (v.toNat:Int)=v.toNat:=by
  have:=v.isLt
  exact wr_in (i:=(v.toNat:Int)) (by omega) (by omega)
theorem orI_nat (a b:Int):orI .u32 a b=(BitVec.ofInt 32 a ||| BitVec.ofInt 32 b).toNat:=wr_bv (BitVec.ofInt 32 a ||| BitVec.ofInt 32 b)
def rotr (x p q:Int):Int:=orI .u32 (wr (x * q)) (x / p)
def turned (x p1 q1 p2 q2 p3 q3:Int):Int:=xorI .u32 (xorI .u32 (rotr x p1 q1) (rotr x p2 q2)) (rotr x p3 q3)
def chI (a b c:Int):Int:=xorI .u32 (andI .u32 a b) (andI .u32 (xorI .u32 4294967295 a) c)
def majI (a b c:Int):Int:=xorI .u32 (xorI .u32 (andI .u32 a b) (andI .u32 a c)) (andI .u32 b c)
/-- Four bytes,the highest first. -/
def wordI (a b c d:Int):Int:=a * 16777216+b * 65536+c * 256+d
theorem or_nat (a b:Nat) (i:Nat) (h:b < 2 ^ i) (h2:2 ^ i * a+b < 4294967296):(BitVec.ofNat 32 (2 ^ i * a) ||| BitVec.ofNat 32 b)=BitVec.ofNat 32 (2 ^ i * a+b):=by
  apply BitVec.eq_of_toNat_eq
  have h3:2 ^ i * a < 4294967296:=by omega
  have h4:b < 4294967296:=by
    have:0≤2 ^ i * a:=Nat.zero_le _
    omega
  rw [BitVec.toNat_or,BitVec.toNat_ofNat,BitVec.toNat_ofNat,BitVec.toNat_ofNat,Nat.mod_eq_of_lt h3,Nat.mod_eq_of_lt h4,Nat.mod_eq_of_lt h2,Nat.two_pow_add_eq_or_of_lt h]
theorem orI_add {x y:Int} (a b i:Nat) (hx:x=(2 ^ i * a:Nat)) (hy:y=b) (h:b < 2 ^ i) (h2:2 ^ i * a+b < 4294967296):orI .u32 x y=x+y:=by
  subst hx;subst hy
  rw [orI_nat,BitVec.ofInt_natCast,BitVec.ofInt_natCast,or_nat a b i h h2,BitVec.toNat_ofNat,Nat.mod_eq_of_lt h2]
  omega
theorem word_or {a b c d:Int} (ha:0≤a∧a≤255) (hb:0≤b∧b≤255) (hc:0≤c∧c≤255) (hd:0≤d∧d≤255):orI .u32 (orI .u32 (orI .u32 (wr (a * 16777216)) (wr (b * 65536))) (wr (c * 256))) d=wordI a b c d:=by
  rw [wr_in (i:=a * 16777216) (by omega) (by omega),wr_in (i:=b * 65536) (by omega) (by omega),wr_in (i:=c * 256) (by omega) (by omega)]
  have h1:orI .u32 (a * 16777216) (b * 65536)=a * 16777216+b * 65536:=orI_add (a.toNat) (b.toNat * 65536) 24 (by omega) (by omega) (by omega) (by omega)
  have h2:orI .u32 (a * 16777216+b * 65536) (c * 256)=a * 16777216+b * 65536+c * 256:=orI_add (a.toNat * 256+b.toNat) (c.toNat * 256) 16 (by omega) (by omega) (by omega) (by omega)
  have h3:orI .u32 (a * 16777216+b * 65536+c * 256) d=a * 16777216+b * 65536+c * 256+d:=orI_add (a.toNat * 65536+b.toNat * 256+c.toNat) d.toNat 8 (by omega) (by omega) (by omega) (by omega)
  rw [h1,h2,h3]
  rfl
structure H8 where
  a:Int
  b:Int
  c:Int
  d:Int
  e:Int
  f:Int
  g:Int
  h:Int
def H8.l (s:H8):List Int:=[s.a,s.b,s.c,s.d,s.e,s.f,s.g,s.h]
def u32s (l:List Int):List Value:=l.map (.int .u32)
def u8s (l:List Int):List Value:=l.map (.int .u8)
def H8.v (s:H8):List Value:=u32s s.l
def oneI (s:H8) (k w:Int):Int:=wr (wr (wr (wr (s.h+turned s.e 64 67108864 2048 2097152 33554432 128)+chI s.e s.f s.g)+k)+w)
def twoI (s:H8):Int:=wr (turned s.a 4 1073741824 8192 524288 4194304 1024+majI s.a s.b s.c)
def stepI (s:H8) (k w:Int):H8:=⟨wr (oneI s k w+twoI s),s.a,s.b,s.c,wr (s.d+oneI s k w),s.e,s.f,s.g⟩
def addH (s t:H8):H8:=⟨wr (s.a+t.a),wr (s.b+t.b),wr (s.c+t.c),wr (s.d+t.d),wr (s.e+t.e),wr (s.f+t.f),wr (s.g+t.g),wr (s.h+t.h)⟩
/-- The words of a block's bytes b. -/
def nextI (b l:List Int):Int :=
  if l.length < 16 then wordI (b.getD (4 * l.length) 0) (b.getD (4 * l.length+1) 0) (b.getD (4 * l.length+2) 0) (b.getD (4 * l.length+3) 0)
  else wr (wr (wr (l.getD (l.length - 16) 0+xorI .u32 (xorI .u32 (rotr (l.getD (l.length - 15) 0) 128 33554432) (rotr (l.getD (l.length - 15) 0) 262144 16384)) (l.getD (l.length - 15) 0 / 8))+l.getD (l.length - 7) 0)
    + xorI .u32 (xorI .u32 (rotr (l.getD (l.length - 2) 0) 131072 32768) (rotr (l.getD (l.length - 2) 0) 524288 8192)) (l.getD (l.length - 2) 0 / 1024))
def schedI (b:List Int):Nat→List Int
  | 0=>[]
  | i+1=>schedI b i++[nextI b (schedI b i)]
theorem sched_len (b:List Int) (i:Nat):(schedI b i).length=i:=by
  induction i with
  | zero=>rfl
  | succ i ih=>simp [schedI,ih]
def roundsI (K W:List Int) (s:H8):Nat→H8
  | 0=>s
  | i+1=>stepI (roundsI K W s i) (K.getD i 0) (W.getD i 0)
def mixI (K b:List Int) (s:H8):H8:=addH s (roundsI K (schedI b 64) s 64)
/-- All whole blocks. -/
def allI (K:List Int):Nat→List Int→H8→H8
  | 0,_,s=>s
  | n+1,b,s=>allI K n (b.drop 64) (mixI K (b.take 64) s)
def h0I:H8:=⟨1779033703,3144134277,1013904242,2773480762,1359893119,2600822924,528734635,1541459225⟩
def kI:List Int:=[1116352408,1899447441,3049323471,3921009573,961987163,1508970993,2453635748,2870763221,3624381080,310598401,607225278,1426881987,1925078388,2162078206,2614888103,3248222580,3835390401,4022224774,264347078,604807628,770255983,1249150122,1555081692,1996064986,2554220882,2821834349,2952996808,3210313671,3336571891,3584528711,113926993,338241895,666307205,773529912,1294757372,1396182291,1695183700,1986661051,2177026350,2456956037,2730485921,2820302411,3259730800,3345764771,3516065817,3600352804,4094571909,275423344,430227734,506948616,659060556,883997877,958139571,1322822218,1537002063,1747873779,1955562222,2024104815,2227730452,2361852424,2428436474,2756734187,3204031479,3329325298]
def lenI (n:Int):List Int:=[n / 72057594037927936 % 256,n / 281474976710656 % 256,n / 1099511627776 % 256,n / 4294967296 % 256,n / 16777216 % 256,n / 65536 % 256,n / 256 % 256,n % 256]
/-- What stands behind n bytes: a sign,zeros,the length. -/
def padI (n:Nat):List Int:=128::(List.replicate ((119 - n % 64) % 64) 0++lenI (8 * n))
def outI (s:H8):List Int:=s.l.flatMap fun x=>[x / 16777216 % 256,x / 65536 % 256,x / 256 % 256,x % 256]
def shaI (b:List Int):List Int:=outI (allI kI ((b++padI b.length).length / 64) (b++padI b.length) h0I)
theorem out_len (s:H8):(outI s).length=32:=by simp [outI,H8.l]
theorem sha_len (b:List Int):(shaI b).length=32:=out_len _
theorem kI_len:kI.length=64:=rfl

theorem allI_add (K:List Int) (j:Nat):∀ (i:Nat) (b:List Int) (s:H8),allI K (i+j) b s=allI K j (b.drop (64 * i)) (allI K i b s)
  | 0,b,s=>by simp [allI]
  | i+1,b,s=>by
    rw [show i+1+j=(i+j)+1 by omega,allI,allI_add K j i,allI,List.drop_drop,show 64+64 * i=64 * (i+1) by omega]
theorem allI_app (K:List Int):∀ (i:Nat) (b c:List Int) (s:H8),64 * i≤b.length→allI K i (b++c) s=allI K i b s
  | 0,_,_,_,_=>rfl
  | i+1,b,c,s,h=>by
    rw [allI,allI,List.drop_append_of_le_length (by omega),List.take_append_of_le_length (by omega)]
    exact allI_app K i _ c _ (by rw [List.length_drop];omega)
/-- The words and what is left,once bytes b have come. -/
def wordsI (b:List Int):H8:=allI kI (b.length / 64) b h0I
def leftI (b:List Int):List Int:=b.drop (64 * (b.length / 64))
theorem left_len (b:List Int):(leftI b).length=b.length % 64:=by unfold leftI;rw [List.length_drop];omega
theorem feed (b x:List Int):allI kI ((leftI b++x).length / 64) (leftI b++x) (wordsI b)=wordsI (b++x)∧(leftI b++x).drop (64 * ((leftI b++x).length / 64))=leftI (b++x):=by
  have hl:=left_len b
  have hd:leftI b++x=(b++x).drop (64 * (b.length / 64)):=by
    unfold leftI;rw [List.drop_append_of_le_length (by omega)]
  have hn:(b++x).length / 64=b.length / 64+(leftI b++x).length / 64:=by
    rw [List.length_append,List.length_append,hl];omega
  constructor
  · unfold wordsI
    rw [hn,allI_add,← hd,allI_app kI _ b x _ (by omega)]
  · conv=>rhs;unfold leftI
    rw [hn,Nat.mul_add,← List.drop_drop,← hd]
theorem sha_words (b:List Int):shaI b=outI (wordsI (b++padI b.length)):=rfl
def rowsTab:List (Option TRow):=[
  none,
  some { k:=.fn,size:=1,bytes:=8,zero:=.nilFunc },
  some { k:=.int .i64,size:=1,bytes:=8,zero:=.int .i64 0 },
  some { k:=.int .i64,size:=1,bytes:=8,zero:=.int .i64 0 },
  some { k:=.bool,size:=1,bytes:=1,zero:=.bool false },
  some { k:=.int .u8,size:=1,bytes:=1,zero:=.int .u8 0 },
  some { k:=.int .u8,size:=1,bytes:=1,zero:=.int .u8 0 },
  none,
  none,
  some { k:=.string,size:=1,bytes:=16,zero:=.string ByteArray.empty },
  some { k:=.string,size:=1,bytes:=16,zero:=.string ByteArray.empty },
  some { k:=.string,size:=1,bytes:=16,zero:=.string ByteArray.empty },
  some { k:=.int .u64,size:=1,bytes:=8,zero:=.int .u64 0 },
  none,
  none,
  some { k:=.ptr 243,size:=1,bytes:=8,zero:=.pointer none },
  some { k:=.ptr 246,size:=1,bytes:=8,zero:=.pointer none },
  some { k:=.ptr 254,size:=1,bytes:=8,zero:=.pointer none },
  none,
  none,
  none,
  some { k:=.int .i32,size:=1,bytes:=4,zero:=.int .i32 0 },
  some { k:=.strct [(3,0,1),(3,1,1),(3,2,1),(3,3,1)],size:=4,bytes:=32,zero:=.agg #[.int .i64 0,.int .i64 0,.int .i64 0,.int .i64 0] },
  some { k:=.strct [(3,0,1),(3,1,1),(3,2,1),(3,3,1)],size:=4,bytes:=32,zero:=.agg #[.int .i64 0,.int .i64 0,.int .i64 0,.int .i64 0] },
  some { k:=.strct [(3,0,1),(3,1,1)],size:=2,bytes:=16,zero:=.agg #[.int .i64 0,.int .i64 0] },
  some { k:=.strct [(3,0,1),(3,1,1)],size:=2,bytes:=16,zero:=.agg #[.int .i64 0,.int .i64 0] },
  some { k:=.slice 5,size:=1,bytes:=24,zero:=.slice none 0 0 },
  some { k:=.arr 32 5,size:=32,bytes:=32,zero:=.agg #[.int .u8 0,.int .u8 0,.int .u8 0,.int .u8 0,.int .u8 0,.int .u8 0,.int .u8 0,.int .u8 0,.int .u8 0,.int .u8 0,.int .u8 0,.int .u8 0,.int .u8 0,.int .u8 0,.int .u8 0,.int .u8 0,.int .u8 0,.int .u8 0,.int .u8 0,.int .u8 0,.int .u8 0,.int .u8 0,.int .u8 0,.int .u8 0,.int .u8 0,.int .u8 0,.int .u8 0,.int .u8 0,.int .u8 0,.int .u8 0,.int .u8 0,.int .u8 0] },
  some { k:=.strct [(3,0,1),(23,1,4),(3,5,1),(25,6,2),(26,8,1),(27,9,32)],size:=41,bytes:=120,zero:=.agg #[.int .i64 0,.int .i64 0,.int .i64 0,.int .i64 0,.int .i64 0,.int .i64 0,.int .i64 0,.int .i64 0,.slice none 0 0,.int .u8 0,.int .u8 0,.int .u8 0,.int .u8 0,.int .u8 0,.int .u8 0,.int .u8 0,.int .u8 0,.int .u8 0,.int .u8 0,.int .u8 0,.int .u8 0,.int .u8 0,.int .u8 0,.int .u8 0,.int .u8 0,.int .u8 0,.int .u8 0,.int .u8 0,.int .u8 0,.int .u8 0,.int .u8 0,.int .u8 0,.int .u8 0,.int .u8 0,.int .u8 0,.int .u8 0,.int .u8 0,.int .u8 0,.int .u8 0,.int .u8 0,.int .u8 0] },
  some { k:=.strct [(3,0,1),(23,1,4),(3,5,1),(25,6,2),(26,8,1),(27,9,32)],size:=41,bytes:=120,zero:=.agg #[.int .i64 0,.int .i64 0,.int .i64 0,.int .i64 0,.int .i64 0,.int .i64 0,.int .i64 0,.int .i64 0,.slice none 0 0,.int .u8 0,.int .u8 0,.int .u8 0,.int .u8 0,.int .u8 0,.int .u8 0,.int .u8 0,.int .u8 0,.int .u8 0,.int .u8 0,.int .u8 0,.int .u8 0,.int .u8 0,.int .u8 0,.int .u8 0,.int .u8 0,.int .u8 0,.int .u8 0,.int .u8 0,.int .u8 0,.int .u8 0,.int .u8 0,.int .u8 0,.int .u8 0,.int .u8 0,.int .u8 0,.int .u8 0,.int .u8 0,.int .u8 0,.int .u8 0,.int .u8 0,.int .u8 0] },
  some { k:=.ptr 54,size:=1,bytes:=8,zero:=.pointer none },
  some { k:=.int .i64,size:=1,bytes:=8,zero:=.int .i64 0 },
  none,
  none,
  none,
  none,
  none,
  some { k:=.strct [(3,0,1),(3,1,1),(3,2,1),(3,3,1)],size:=4,bytes:=32,zero:=.agg #[.int .i64 0,.int .i64 0,.int .i64 0,.int .i64 0] },
  some { k:=.strct [(3,0,1),(3,1,1)],size:=2,bytes:=16,zero:=.agg #[.int .i64 0,.int .i64 0] },
  some { k:=.strct [(3,0,1),(37,1,4),(3,5,1),(38,6,2),(26,8,1),(27,9,32)],size:=41,bytes:=120,zero:=.agg #[.int .i64 0,.int .i64 0,.int .i64 0,.int .i64 0,.int .i64 0,.int .i64 0,.int .i64 0,.int .i64 0,.slice none 0 0,.int .u8 0,.int .u8 0,.int .u8 0,.int .u8 0,.int .u8 0,.int .u8 0,.int .u8 0,.int .u8 0,.int .u8 0,.int .u8 0,.int .u8 0,.int .u8 0,.int .u8 0,.int .u8 0,.int .u8 0,.int .u8 0,.int .u8 0,.int .u8 0,.int .u8 0,.int .u8 0,.int .u8 0,.int .u8 0,.int .u8 0,.int .u8 0,.int .u8 0,.int .u8 0,.int .u8 0,.int .u8 0,.int .u8 0,.int .u8 0,.int .u8 0,.int .u8 0] },
  some { k:=.strct [(3,0,1),(37,1,4),(3,5,1),(38,6,2),(26,8,1),(27,9,32)],size:=41,bytes:=120,zero:=.agg #[.int .i64 0,.int .i64 0,.int .i64 0,.int .i64 0,.int .i64 0,.int .i64 0,.int .i64 0,.int .i64 0,.slice none 0 0,.int .u8 0,.int .u8 0,.int .u8 0,.int .u8 0,.int .u8 0,.int .u8 0,.int .u8 0,.int .u8 0,.int .u8 0,.int .u8 0,.int .u8 0,.int .u8 0,.int .u8 0,.int .u8 0,.int .u8 0,.int .u8 0,.int .u8 0,.int .u8 0,.int .u8 0,.int .u8 0,.int .u8 0,.int .u8 0,.int .u8 0,.int .u8 0,.int .u8 0,.int .u8 0,.int .u8 0,.int .u8 0,.int .u8 0,.int .u8 0,.int .u8 0,.int .u8 0] },
  none,
  none,
  none,
  none,
  some { k:=.arr 4 9,size:=4,bytes:=64,zero:=.agg #[.string ByteArray.empty,.string ByteArray.empty,.string ByteArray.empty,.string ByteArray.empty] },
  none,
  none,
  some { k:=.slice 37,size:=1,bytes:=24,zero:=.slice none 0 0 },
  none,
  none,
  none,
  some { k:=.ptr 85,size:=1,bytes:=8,zero:=.pointer none },
  some { k:=.strct [(52,0,1),(3,1,1),(3,2,1),(3,3,1),(3,4,1),(48,5,1)],size:=6,bytes:=64,zero:=.agg #[.pointer none,.int .i64 0,.int .i64 0,.int .i64 0,.int .i64 0,.slice none 0 0] },
  some { k:=.strct [(52,0,1),(3,1,1),(3,2,1),(3,3,1),(3,4,1),(48,5,1)],size:=6,bytes:=64,zero:=.agg #[.pointer none,.int .i64 0,.int .i64 0,.int .i64 0,.int .i64 0,.slice none 0 0] },
  none,
  some { k:=.fn,size:=1,bytes:=8,zero:=.nilFunc },
  some { k:=.map 3 56,size:=1,bytes:=8,zero:=.map none },
  none,
  none,
  none,
  some { k:=.strct [(37,0,4),(27,4,32)],size:=36,bytes:=64,zero:=.agg #[.int .i64 0,.int .i64 0,.int .i64 0,.int .i64 0,.int .u8 0,.int .u8 0,.int .u8 0,.int .u8 0,.int .u8 0,.int .u8 0,.int .u8 0,.int .u8 0,.int .u8 0,.int .u8 0,.int .u8 0,.int .u8 0,.int .u8 0,.int .u8 0,.int .u8 0,.int .u8 0,.int .u8 0,.int .u8 0,.int .u8 0,.int .u8 0,.int .u8 0,.int .u8 0,.int .u8 0,.int .u8 0,.int .u8 0,.int .u8 0,.int .u8 0,.int .u8 0,.int .u8 0,.int .u8 0,.int .u8 0,.int .u8 0] },
  some { k:=.strct [(37,0,4),(27,4,32)],size:=36,bytes:=64,zero:=.agg #[.int .i64 0,.int .i64 0,.int .i64 0,.int .i64 0,.int .u8 0,.int .u8 0,.int .u8 0,.int .u8 0,.int .u8 0,.int .u8 0,.int .u8 0,.int .u8 0,.int .u8 0,.int .u8 0,.int .u8 0,.int .u8 0,.int .u8 0,.int .u8 0,.int .u8 0,.int .u8 0,.int .u8 0,.int .u8 0,.int .u8 0,.int .u8 0,.int .u8 0,.int .u8 0,.int .u8 0,.int .u8 0,.int .u8 0,.int .u8 0,.int .u8 0,.int .u8 0,.int .u8 0,.int .u8 0,.int .u8 0,.int .u8 0] },
  none,
  none,
  some { k:=.ptr 97,size:=1,bytes:=8,zero:=.pointer none },
  none,
  none,
  none,
  none,
  some { k:=.slice 9,size:=1,bytes:=24,zero:=.slice none 0 0 },
  none,
  none,
  none,
  none,
  none,
  some { k:=.ptr 111,size:=1,bytes:=8,zero:=.pointer none },
  some { k:=.ptr 127,size:=1,bytes:=8,zero:=.pointer none },
  some { k:=.ptr 134,size:=1,bytes:=8,zero:=.pointer none },
  some { k:=.ptr 131,size:=1,bytes:=8,zero:=.pointer none },
  some { k:=.int .u64,size:=1,bytes:=8,zero:=.int .u64 0 },
  some { k:=.strct [(38,0,2),(80,2,1)],size:=3,bytes:=24,zero:=.agg #[.int .i64 0,.int .i64 0,.int .u64 0] },
  some { k:=.strct [(38,0,2),(80,2,1)],size:=3,bytes:=24,zero:=.agg #[.int .i64 0,.int .i64 0,.int .u64 0] },
  some { k:=.arr 4 82,size:=12,bytes:=96,zero:=.agg #[.int .i64 0,.int .i64 0,.int .u64 0,.int .i64 0,.int .i64 0,.int .u64 0,.int .i64 0,.int .i64 0,.int .u64 0,.int .i64 0,.int .i64 0,.int .u64 0] },
  some { k:=.strct [(76,0,1),(77,1,1),(78,2,1),(79,3,1),(83,4,12)],size:=16,bytes:=128,zero:=.agg #[.pointer none,.pointer none,.pointer none,.pointer none,.int .i64 0,.int .i64 0,.int .u64 0,.int .i64 0,.int .i64 0,.int .u64 0,.int .i64 0,.int .i64 0,.int .u64 0,.int .i64 0,.int .i64 0,.int .u64 0] },
  some { k:=.strct [(76,0,1),(77,1,1),(78,2,1),(79,3,1),(83,4,12)],size:=16,bytes:=128,zero:=.agg #[.pointer none,.pointer none,.pointer none,.pointer none,.int .i64 0,.int .i64 0,.int .u64 0,.int .i64 0,.int .i64 0,.int .u64 0,.int .i64 0,.int .i64 0,.int .u64 0,.int .i64 0,.int .i64 0,.int .u64 0] },
  none,
  none,
  none,
  none,
  none,
  none,
  none,
  none,
  none,
  some { k:=.slice 5,size:=1,bytes:=24,zero:=.slice none 0 0 },
  some { k:=.strct [(95,0,1)],size:=1,bytes:=24,zero:=.agg #[.slice none 0 0] },
  some { k:=.strct [(95,0,1)],size:=1,bytes:=24,zero:=.agg #[.slice none 0 0] },
  none,
  none,
  none,
  none,
  none,
  none,
  none,
  none,
  none,
  some { k:=.fn,size:=1,bytes:=8,zero:=.nilFunc },
  none,
  none,
  some { k:=.strct [(38,0,2)],size:=2,bytes:=16,zero:=.agg #[.int .i64 0,.int .i64 0] },
  some { k:=.strct [(38,0,2)],size:=2,bytes:=16,zero:=.agg #[.int .i64 0,.int .i64 0] },
  none,
  none,
  none,
  none,
  none,
  some { k:=.strct [(26,0,1),(31,1,1)],size:=2,bytes:=32,zero:=.agg #[.slice none 0 0,.int .i64 0] },
  some { k:=.strct [(26,0,1),(31,1,1)],size:=2,bytes:=32,zero:=.agg #[.slice none 0 0,.int .i64 0] },
  some { k:=.ptr 118,size:=1,bytes:=8,zero:=.pointer none },
  none,
  some { k:=.slice 26,size:=1,bytes:=24,zero:=.slice none 0 0 },
  none,
  none,
  some { k:=.map 37 65,size:=1,bytes:=8,zero:=.map none },
  some { k:=.map 3 65,size:=1,bytes:=8,zero:=.map none },
  some { k:=.strct [(62,0,36),(124,36,1),(125,37,1)],size:=38,bytes:=80,zero:=.agg #[.int .i64 0,.int .i64 0,.int .i64 0,.int .i64 0,.int .u8 0,.int .u8 0,.int .u8 0,.int .u8 0,.int .u8 0,.int .u8 0,.int .u8 0,.int .u8 0,.int .u8 0,.int .u8 0,.int .u8 0,.int .u8 0,.int .u8 0,.int .u8 0,.int .u8 0,.int .u8 0,.int .u8 0,.int .u8 0,.int .u8 0,.int .u8 0,.int .u8 0,.int .u8 0,.int .u8 0,.int .u8 0,.int .u8 0,.int .u8 0,.int .u8 0,.int .u8 0,.int .u8 0,.int .u8 0,.int .u8 0,.int .u8 0,.map none,.map none] },
  some { k:=.strct [(62,0,36),(124,36,1),(125,37,1)],size:=38,bytes:=80,zero:=.agg #[.int .i64 0,.int .i64 0,.int .i64 0,.int .i64 0,.int .u8 0,.int .u8 0,.int .u8 0,.int .u8 0,.int .u8 0,.int .u8 0,.int .u8 0,.int .u8 0,.int .u8 0,.int .u8 0,.int .u8 0,.int .u8 0,.int .u8 0,.int .u8 0,.int .u8 0,.int .u8 0,.int .u8 0,.int .u8 0,.int .u8 0,.int .u8 0,.int .u8 0,.int .u8 0,.int .u8 0,.int .u8 0,.int .u8 0,.int .u8 0,.int .u8 0,.int .u8 0,.int .u8 0,.int .u8 0,.int .u8 0,.int .u8 0,.map none,.map none] },
  none,
  some { k:=.arr 16 3,size:=16,bytes:=128,zero:=.agg #[.int .i64 0,.int .i64 0,.int .i64 0,.int .i64 0,.int .i64 0,.int .i64 0,.int .i64 0,.int .i64 0,.int .i64 0,.int .i64 0,.int .i64 0,.int .i64 0,.int .i64 0,.int .i64 0,.int .i64 0,.int .i64 0] },
  some { k:=.strct [(3,0,1),(129,1,16)],size:=17,bytes:=136,zero:=.agg #[.int .i64 0,.int .i64 0,.int .i64 0,.int .i64 0,.int .i64 0,.int .i64 0,.int .i64 0,.int .i64 0,.int .i64 0,.int .i64 0,.int .i64 0,.int .i64 0,.int .i64 0,.int .i64 0,.int .i64 0,.int .i64 0,.int .i64 0] },
  some { k:=.strct [(3,0,1),(129,1,16)],size:=17,bytes:=136,zero:=.agg #[.int .i64 0,.int .i64 0,.int .i64 0,.int .i64 0,.int .i64 0,.int .i64 0,.int .i64 0,.int .i64 0,.int .i64 0,.int .i64 0,.int .i64 0,.int .i64 0,.int .i64 0,.int .i64 0,.int .i64 0,.int .i64 0,.int .i64 0] },
  some { k:=.map 37 256,size:=1,bytes:=8,zero:=.map none },
  some { k:=.strct [(132,0,1)],size:=1,bytes:=8,zero:=.agg #[.map none] },
  some { k:=.strct [(132,0,1)],size:=1,bytes:=8,zero:=.agg #[.map none] },
  some { k:=.slice 137,size:=1,bytes:=24,zero:=.slice none 0 0 },
  some { k:=.strct [(3,0,1),(3,1,1)],size:=2,bytes:=16,zero:=.agg #[.int .i64 0,.int .i64 0] },
  some { k:=.strct [(3,0,1),(3,1,1)],size:=2,bytes:=16,zero:=.agg #[.int .i64 0,.int .i64 0] },
  some { k:=.int .u32,size:=1,bytes:=4,zero:=.int .u32 0 },
  none,
  some { k:=.ptr 177,size:=1,bytes:=8,zero:=.pointer none },
  none,
  none,
  none,
  none,
  none,
  none,
  none,
  some { k:=.ptr 189,size:=1,bytes:=8,zero:=.pointer none },
  none,
  none,
  none,
  none,
  none,
  some { k:=.fn,size:=1,bytes:=8,zero:=.nilFunc },
  some { k:=.strct [(3,0,1),(3,1,1),(3,2,1)],size:=3,bytes:=24,zero:=.agg #[.int .i64 0,.int .i64 0,.int .i64 0] },
  some { k:=.strct [(3,0,1),(3,1,1),(3,2,1)],size:=3,bytes:=24,zero:=.agg #[.int .i64 0,.int .i64 0,.int .i64 0] },
  some { k:=.arr 4 156,size:=12,bytes:=96,zero:=.agg #[.int .i64 0,.int .i64 0,.int .i64 0,.int .i64 0,.int .i64 0,.int .i64 0,.int .i64 0,.int .i64 0,.int .i64 0,.int .i64 0,.int .i64 0,.int .i64 0] },
  none,
  some { k:=.slice 3,size:=1,bytes:=24,zero:=.slice none 0 0 },
  none,
  some { k:=.strct [(3,0,1),(3,1,1),(26,2,1)],size:=3,bytes:=40,zero:=.agg #[.int .i64 0,.int .i64 0,.slice none 0 0] },
  some { k:=.strct [(3,0,1),(3,1,1),(26,2,1)],size:=3,bytes:=40,zero:=.agg #[.int .i64 0,.int .i64 0,.slice none 0 0] },
  some { k:=.arr 8 138,size:=8,bytes:=32,zero:=.agg #[.int .u32 0,.int .u32 0,.int .u32 0,.int .u32 0,.int .u32 0,.int .u32 0,.int .u32 0,.int .u32 0] },
  some { k:=.strct [(163,0,8)],size:=8,bytes:=32,zero:=.agg #[.int .u32 0,.int .u32 0,.int .u32 0,.int .u32 0,.int .u32 0,.int .u32 0,.int .u32 0,.int .u32 0] },
  some { k:=.strct [(163,0,8)],size:=8,bytes:=32,zero:=.agg #[.int .u32 0,.int .u32 0,.int .u32 0,.int .u32 0,.int .u32 0,.int .u32 0,.int .u32 0,.int .u32 0] },
  some { k:=.strct [(165,0,8),(4,8,1),(26,9,1),(3,10,1)],size:=11,bytes:=72,zero:=.agg #[.int .u32 0,.int .u32 0,.int .u32 0,.int .u32 0,.int .u32 0,.int .u32 0,.int .u32 0,.int .u32 0,.bool false,.slice none 0 0,.int .i64 0] },
  some { k:=.strct [(165,0,8),(4,8,1),(26,9,1),(3,10,1)],size:=11,bytes:=72,zero:=.agg #[.int .u32 0,.int .u32 0,.int .u32 0,.int .u32 0,.int .u32 0,.int .u32 0,.int .u32 0,.int .u32 0,.bool false,.slice none 0 0,.int .i64 0] },
  some { k:=.ptr 167,size:=1,bytes:=8,zero:=.pointer none },
  none,
  none,
  none,
  some { k:=.int .u64,size:=1,bytes:=8,zero:=.int .u64 0 },
  some { k:=.fn,size:=1,bytes:=8,zero:=.nilFunc },
  some { k:=.slice 180,size:=1,bytes:=24,zero:=.slice none 0 0 },
  some { k:=.slice 183,size:=1,bytes:=24,zero:=.slice none 0 0 },
  some { k:=.strct [(174,0,1),(175,1,1),(3,2,1)],size:=3,bytes:=56,zero:=.agg #[.slice none 0 0,.slice none 0 0,.int .i64 0] },
  some { k:=.strct [(174,0,1),(175,1,1),(3,2,1)],size:=3,bytes:=56,zero:=.agg #[.slice none 0 0,.slice none 0 0,.int .i64 0] },
  some { k:=.int .u16,size:=1,bytes:=2,zero:=.int .u16 0 },
  some { k:=.strct [(178,0,1),(178,1,1),(178,2,1)],size:=3,bytes:=6,zero:=.agg #[.int .u16 0,.int .u16 0,.int .u16 0] },
  some { k:=.strct [(178,0,1),(178,1,1),(178,2,1)],size:=3,bytes:=6,zero:=.agg #[.int .u16 0,.int .u16 0,.int .u16 0] },
  none,
  some { k:=.strct [(138,0,1),(138,1,1),(138,2,1)],size:=3,bytes:=12,zero:=.agg #[.int .u32 0,.int .u32 0,.int .u32 0] },
  some { k:=.strct [(138,0,1),(138,1,1),(138,2,1)],size:=3,bytes:=12,zero:=.agg #[.int .u32 0,.int .u32 0,.int .u32 0] },
  none,
  none,
  none,
  some { k:=.strct [(26,0,1),(31,1,1)],size:=2,bytes:=32,zero:=.agg #[.slice none 0 0,.int .i64 0] },
  some { k:=.strct [(187,0,2)],size:=2,bytes:=32,zero:=.agg #[.slice none 0 0,.int .i64 0] },
  some { k:=.strct [(187,0,2)],size:=2,bytes:=32,zero:=.agg #[.slice none 0 0,.int .i64 0] },
  none,
  none,
  none,
  some { k:=.fn,size:=1,bytes:=8,zero:=.nilFunc },
  some { k:=.fn,size:=1,bytes:=8,zero:=.nilFunc },
  none,
  none,
  none,
  some { k:=.slice 162,size:=1,bytes:=24,zero:=.slice none 0 0 },
  none,
  none,
  none,
  none,
  some { k:=.ptr 180,size:=1,bytes:=8,zero:=.pointer none },
  some { k:=.ptr 183,size:=1,bytes:=8,zero:=.pointer none },
  some { k:=.ptr 187,size:=1,bytes:=8,zero:=.pointer none },
  none,
  none,
  none,
  none,
  some { k:=.fn,size:=1,bytes:=8,zero:=.nilFunc },
  none,
  some { k:=.ptr 165,size:=1,bytes:=8,zero:=.pointer none },
  none,
  none,
  none,
  none,
  some { k:=.arr 64 138,size:=64,bytes:=256,zero:=.agg #[.int .u32 0,.int .u32 0,.int .u32 0,.int .u32 0,.int .u32 0,.int .u32 0,.int .u32 0,.int .u32 0,.int .u32 0,.int .u32 0,.int .u32 0,.int .u32 0,.int .u32 0,.int .u32 0,.int .u32 0,.int .u32 0,.int .u32 0,.int .u32 0,.int .u32 0,.int .u32 0,.int .u32 0,.int .u32 0,.int .u32 0,.int .u32 0,.int .u32 0,.int .u32 0,.int .u32 0,.int .u32 0,.int .u32 0,.int .u32 0,.int .u32 0,.int .u32 0,.int .u32 0,.int .u32 0,.int .u32 0,.int .u32 0,.int .u32 0,.int .u32 0,.int .u32 0,.int .u32 0,.int .u32 0,.int .u32 0,.int .u32 0,.int .u32 0,.int .u32 0,.int .u32 0,.int .u32 0,.int .u32 0,.int .u32 0,.int .u32 0,.int .u32 0,.int .u32 0,.int .u32 0,.int .u32 0,.int .u32 0,.int .u32 0,.int .u32 0,.int .u32 0,.int .u32 0,.int .u32 0,.int .u32 0,.int .u32 0,.int .u32 0,.int .u32 0] },
  none,
  none,
  none,
  some { k:=.fn,size:=1,bytes:=8,zero:=.nilFunc },
  none,
  some { k:=.int .i64,size:=1,bytes:=8,zero:=.int .i64 0 },
  none,
  none,
  none,
  none,
  none,
  none,
  none,
  none,
  some { k:=.int .u64,size:=1,bytes:=8,zero:=.int .u64 0 },
  none,
  none,
  none,
  some { k:=.ptr 3,size:=1,bytes:=8,zero:=.pointer none },
  none,
  some { k:=.ptr 232,size:=1,bytes:=8,zero:=.pointer none },
  none,
  none,
  none,
  none,
  none,
  none,
  none,
  none,
  some { k:=.int .u8,size:=1,bytes:=1,zero:=.int .u8 0 },
  some { k:=.int .u8,size:=1,bytes:=1,zero:=.int .u8 0 },
  some { k:=.fn,size:=1,bytes:=8,zero:=.nilFunc },
  some { k:=.ptr 5,size:=1,bytes:=8,zero:=.pointer none },
  some { k:=.int .i32,size:=1,bytes:=4,zero:=.int .i32 0 },
  some { k:=.int .i32,size:=1,bytes:=4,zero:=.int .i32 0 },
  none,
  none,
  none,
  some { k:=.ptr 259,size:=1,bytes:=8,zero:=.pointer none },
  none,
  some { k:=.strct [(82,0,3),(65,3,1),(3,4,1)],size:=5,bytes:=40,zero:=.agg #[.int .i64 0,.int .i64 0,.int .u64 0,.pointer none,.int .i64 0] },
  some { k:=.strct [(82,0,3),(65,3,1),(3,4,1)],size:=5,bytes:=40,zero:=.agg #[.int .i64 0,.int .i64 0,.int .u64 0,.pointer none,.int .i64 0] },
  none,
  none]
set_option maxRecDepth 100000 in
theorem rowsGood:TGoods Tryz.prog 0 rowsTab :=
  ⟨⟨⟨_,_,_,Tryz.underlying1⟩,Tryz.sizeOf1,Tryz.zeroValue1,trivial,by kernel_rfl⟩,
   ⟨Tryz.underlying2,Tryz.sizeOf2,Tryz.zeroValue2,trivial,by kernel_rfl⟩,
   ⟨Tryz.underlying3,Tryz.sizeOf3,Tryz.zeroValue3,trivial,by kernel_rfl⟩,
   ⟨Tryz.underlying4,Tryz.sizeOf4,Tryz.zeroValue4,trivial,by kernel_rfl⟩,
   ⟨Tryz.underlying5,Tryz.sizeOf5,Tryz.zeroValue5,trivial,by kernel_rfl⟩,
   ⟨Tryz.underlying6,Tryz.sizeOf6,Tryz.zeroValue6,trivial,by kernel_rfl⟩,
   ⟨Tryz.underlying9,Tryz.sizeOf9,Tryz.zeroValue9,trivial,by kernel_rfl⟩,
   ⟨Tryz.underlying10,Tryz.sizeOf10,Tryz.zeroValue10,trivial,by kernel_rfl⟩,
   ⟨Tryz.underlying11,Tryz.sizeOf11,Tryz.zeroValue11,trivial,by kernel_rfl⟩,
   ⟨Tryz.underlying12,Tryz.sizeOf12,Tryz.zeroValue12,trivial,by kernel_rfl⟩,
   ⟨Tryz.underlying15,Tryz.sizeOf15,Tryz.zeroValue15,trivial,by kernel_rfl⟩,
   ⟨Tryz.underlying16,Tryz.sizeOf16,Tryz.zeroValue16,trivial,by kernel_rfl⟩,
   ⟨Tryz.underlying17,Tryz.sizeOf17,Tryz.zeroValue17,trivial,by kernel_rfl⟩,
   ⟨Tryz.underlying21,Tryz.sizeOf21,Tryz.zeroValue21,trivial,by kernel_rfl⟩,
   ⟨⟨_,Tryz.underlying22,rfl,rfl,Tryz.sizeOf3,rfl,rfl,rfl,Tryz.sizeOf3,rfl,rfl,rfl,Tryz.sizeOf3,rfl,rfl,rfl,Tryz.sizeOf3,rfl,trivial⟩,Tryz.sizeOf22,Tryz.zeroValue22,(by show Tryz.prog.stoodInHeld 22=false;kernel_rfl),by kernel_rfl⟩,
   ⟨⟨_,Tryz.underlying23,rfl,rfl,Tryz.sizeOf3,rfl,rfl,rfl,Tryz.sizeOf3,rfl,rfl,rfl,Tryz.sizeOf3,rfl,rfl,rfl,Tryz.sizeOf3,rfl,trivial⟩,Tryz.sizeOf23,Tryz.zeroValue23,(by show Tryz.prog.stoodInHeld 23=false;kernel_rfl),by kernel_rfl⟩,
   ⟨⟨_,Tryz.underlying24,rfl,rfl,Tryz.sizeOf3,rfl,rfl,rfl,Tryz.sizeOf3,rfl,trivial⟩,Tryz.sizeOf24,Tryz.zeroValue24,(by show Tryz.prog.stoodInHeld 24=false;kernel_rfl),by kernel_rfl⟩,
   ⟨⟨_,Tryz.underlying25,rfl,rfl,Tryz.sizeOf3,rfl,rfl,rfl,Tryz.sizeOf3,rfl,trivial⟩,Tryz.sizeOf25,Tryz.zeroValue25,(by show Tryz.prog.stoodInHeld 25=false;kernel_rfl),by kernel_rfl⟩,
   ⟨Tryz.underlying26,Tryz.sizeOf26,Tryz.zeroValue26,trivial,by kernel_rfl⟩,
   ⟨Tryz.underlying27,Tryz.sizeOf27,Tryz.zeroValue27,trivial,by kernel_rfl⟩,
   ⟨⟨_,Tryz.underlying28,rfl,rfl,Tryz.sizeOf3,rfl,rfl,rfl,Tryz.sizeOf23,rfl,rfl,rfl,Tryz.sizeOf3,rfl,rfl,rfl,Tryz.sizeOf25,rfl,rfl,rfl,Tryz.sizeOf26,rfl,rfl,rfl,Tryz.sizeOf27,rfl,trivial⟩,Tryz.sizeOf28,Tryz.zeroValue28,(by show Tryz.prog.stoodInHeld 28=false;kernel_rfl),by kernel_rfl⟩,
   ⟨⟨_,Tryz.underlying29,rfl,rfl,Tryz.sizeOf3,rfl,rfl,rfl,Tryz.sizeOf23,rfl,rfl,rfl,Tryz.sizeOf3,rfl,rfl,rfl,Tryz.sizeOf25,rfl,rfl,rfl,Tryz.sizeOf26,rfl,rfl,rfl,Tryz.sizeOf27,rfl,trivial⟩,Tryz.sizeOf29,Tryz.zeroValue29,(by show Tryz.prog.stoodInHeld 29=false;kernel_rfl),by kernel_rfl⟩,
   ⟨Tryz.underlying30,Tryz.sizeOf30,Tryz.zeroValue30,trivial,by kernel_rfl⟩,
   ⟨Tryz.underlying31,Tryz.sizeOf31,Tryz.zeroValue31,trivial,by kernel_rfl⟩,
   ⟨⟨_,Tryz.underlying37,rfl,rfl,Tryz.sizeOf3,rfl,rfl,rfl,Tryz.sizeOf3,rfl,rfl,rfl,Tryz.sizeOf3,rfl,rfl,rfl,Tryz.sizeOf3,rfl,trivial⟩,Tryz.sizeOf37,Tryz.zeroValue37,(by show Tryz.prog.stoodInHeld 37=false;kernel_rfl),by kernel_rfl⟩,
   ⟨⟨_,Tryz.underlying38,rfl,rfl,Tryz.sizeOf3,rfl,rfl,rfl,Tryz.sizeOf3,rfl,trivial⟩,Tryz.sizeOf38,Tryz.zeroValue38,(by show Tryz.prog.stoodInHeld 38=false;kernel_rfl),by kernel_rfl⟩,
   ⟨⟨_,Tryz.underlying39,rfl,rfl,Tryz.sizeOf3,rfl,rfl,rfl,Tryz.sizeOf37,rfl,rfl,rfl,Tryz.sizeOf3,rfl,rfl,rfl,Tryz.sizeOf38,rfl,rfl,rfl,Tryz.sizeOf26,rfl,rfl,rfl,Tryz.sizeOf27,rfl,trivial⟩,Tryz.sizeOf39,Tryz.zeroValue39,(by show Tryz.prog.stoodInHeld 39=false;kernel_rfl),by kernel_rfl⟩,
   ⟨⟨_,Tryz.underlying40,rfl,rfl,Tryz.sizeOf3,rfl,rfl,rfl,Tryz.sizeOf37,rfl,rfl,rfl,Tryz.sizeOf3,rfl,rfl,rfl,Tryz.sizeOf38,rfl,rfl,rfl,Tryz.sizeOf26,rfl,rfl,rfl,Tryz.sizeOf27,rfl,trivial⟩,Tryz.sizeOf40,Tryz.zeroValue40,(by show Tryz.prog.stoodInHeld 40=false;kernel_rfl),by kernel_rfl⟩,
   ⟨Tryz.underlying45,Tryz.sizeOf45,Tryz.zeroValue45,trivial,by kernel_rfl⟩,
   ⟨Tryz.underlying48,Tryz.sizeOf48,Tryz.zeroValue48,trivial,by kernel_rfl⟩,
   ⟨Tryz.underlying52,Tryz.sizeOf52,Tryz.zeroValue52,trivial,by kernel_rfl⟩,
   ⟨⟨_,Tryz.underlying53,rfl,rfl,Tryz.sizeOf52,rfl,rfl,rfl,Tryz.sizeOf3,rfl,rfl,rfl,Tryz.sizeOf3,rfl,rfl,rfl,Tryz.sizeOf3,rfl,rfl,rfl,Tryz.sizeOf3,rfl,rfl,rfl,Tryz.sizeOf48,rfl,trivial⟩,Tryz.sizeOf53,Tryz.zeroValue53,(by show Tryz.prog.stoodInHeld 53=false;kernel_rfl),by kernel_rfl⟩,
   ⟨⟨_,Tryz.underlying54,rfl,rfl,Tryz.sizeOf52,rfl,rfl,rfl,Tryz.sizeOf3,rfl,rfl,rfl,Tryz.sizeOf3,rfl,rfl,rfl,Tryz.sizeOf3,rfl,rfl,rfl,Tryz.sizeOf3,rfl,rfl,rfl,Tryz.sizeOf48,rfl,trivial⟩,Tryz.sizeOf54,Tryz.zeroValue54,(by show Tryz.prog.stoodInHeld 54=false;kernel_rfl),by kernel_rfl⟩,
   ⟨⟨_,_,_,Tryz.underlying56⟩,Tryz.sizeOf56,Tryz.zeroValue56,trivial,by kernel_rfl⟩,
   ⟨Tryz.underlying57,Tryz.sizeOf57,Tryz.zeroValue57,trivial,by kernel_rfl⟩,
   ⟨⟨_,Tryz.underlying61,rfl,rfl,Tryz.sizeOf37,rfl,rfl,rfl,Tryz.sizeOf27,rfl,trivial⟩,Tryz.sizeOf61,Tryz.zeroValue61,(by show Tryz.prog.stoodInHeld 61=false;kernel_rfl),by kernel_rfl⟩,
   ⟨⟨_,Tryz.underlying62,rfl,rfl,Tryz.sizeOf37,rfl,rfl,rfl,Tryz.sizeOf27,rfl,trivial⟩,Tryz.sizeOf62,Tryz.zeroValue62,(by show Tryz.prog.stoodInHeld 62=false;kernel_rfl),by kernel_rfl⟩,
   ⟨Tryz.underlying65,Tryz.sizeOf65,Tryz.zeroValue65,trivial,by kernel_rfl⟩,
   ⟨Tryz.underlying70,Tryz.sizeOf70,Tryz.zeroValue70,trivial,by kernel_rfl⟩,
   ⟨Tryz.underlying76,Tryz.sizeOf76,Tryz.zeroValue76,trivial,by kernel_rfl⟩,
   ⟨Tryz.underlying77,Tryz.sizeOf77,Tryz.zeroValue77,trivial,by kernel_rfl⟩,
   ⟨Tryz.underlying78,Tryz.sizeOf78,Tryz.zeroValue78,trivial,by kernel_rfl⟩,
   ⟨Tryz.underlying79,Tryz.sizeOf79,Tryz.zeroValue79,trivial,by kernel_rfl⟩,
   ⟨Tryz.underlying80,Tryz.sizeOf80,Tryz.zeroValue80,trivial,by kernel_rfl⟩,
   ⟨⟨_,Tryz.underlying81,rfl,rfl,Tryz.sizeOf38,rfl,rfl,rfl,Tryz.sizeOf80,rfl,trivial⟩,Tryz.sizeOf81,Tryz.zeroValue81,(by show Tryz.prog.stoodInHeld 81=false;kernel_rfl),by kernel_rfl⟩,
   ⟨⟨_,Tryz.underlying82,rfl,rfl,Tryz.sizeOf38,rfl,rfl,rfl,Tryz.sizeOf80,rfl,trivial⟩,Tryz.sizeOf82,Tryz.zeroValue82,(by show Tryz.prog.stoodInHeld 82=false;kernel_rfl),by kernel_rfl⟩,
   ⟨Tryz.underlying83,Tryz.sizeOf83,Tryz.zeroValue83,trivial,by kernel_rfl⟩,
   ⟨⟨_,Tryz.underlying84,rfl,rfl,Tryz.sizeOf76,rfl,rfl,rfl,Tryz.sizeOf77,rfl,rfl,rfl,Tryz.sizeOf78,rfl,rfl,rfl,Tryz.sizeOf79,rfl,rfl,rfl,Tryz.sizeOf83,rfl,trivial⟩,Tryz.sizeOf84,Tryz.zeroValue84,(by show Tryz.prog.stoodInHeld 84=false;kernel_rfl),by kernel_rfl⟩,
   ⟨⟨_,Tryz.underlying85,rfl,rfl,Tryz.sizeOf76,rfl,rfl,rfl,Tryz.sizeOf77,rfl,rfl,rfl,Tryz.sizeOf78,rfl,rfl,rfl,Tryz.sizeOf79,rfl,rfl,rfl,Tryz.sizeOf83,rfl,trivial⟩,Tryz.sizeOf85,Tryz.zeroValue85,(by show Tryz.prog.stoodInHeld 85=false;kernel_rfl),by kernel_rfl⟩,
   ⟨Tryz.underlying95,Tryz.sizeOf95,Tryz.zeroValue95,trivial,by kernel_rfl⟩,
   ⟨⟨_,Tryz.underlying96,rfl,rfl,Tryz.sizeOf95,rfl,trivial⟩,Tryz.sizeOf96,Tryz.zeroValue96,(by show Tryz.prog.stoodInHeld 96=false;kernel_rfl),by kernel_rfl⟩,
   ⟨⟨_,Tryz.underlying97,rfl,rfl,Tryz.sizeOf95,rfl,trivial⟩,Tryz.sizeOf97,Tryz.zeroValue97,(by show Tryz.prog.stoodInHeld 97=false;kernel_rfl),by kernel_rfl⟩,
   ⟨⟨_,_,_,Tryz.underlying107⟩,Tryz.sizeOf107,Tryz.zeroValue107,trivial,by kernel_rfl⟩,
   ⟨⟨_,Tryz.underlying110,rfl,rfl,Tryz.sizeOf38,rfl,trivial⟩,Tryz.sizeOf110,Tryz.zeroValue110,(by show Tryz.prog.stoodInHeld 110=false;kernel_rfl),by kernel_rfl⟩,
   ⟨⟨_,Tryz.underlying111,rfl,rfl,Tryz.sizeOf38,rfl,trivial⟩,Tryz.sizeOf111,Tryz.zeroValue111,(by show Tryz.prog.stoodInHeld 111=false;kernel_rfl),by kernel_rfl⟩,
   ⟨⟨_,Tryz.underlying117,rfl,rfl,Tryz.sizeOf26,rfl,rfl,rfl,Tryz.sizeOf31,rfl,trivial⟩,Tryz.sizeOf117,Tryz.zeroValue117,(by show Tryz.prog.stoodInHeld 117=false;kernel_rfl),by kernel_rfl⟩,
   ⟨⟨_,Tryz.underlying118,rfl,rfl,Tryz.sizeOf26,rfl,rfl,rfl,Tryz.sizeOf31,rfl,trivial⟩,Tryz.sizeOf118,Tryz.zeroValue118,(by show Tryz.prog.stoodInHeld 118=false;kernel_rfl),by kernel_rfl⟩,
   ⟨Tryz.underlying119,Tryz.sizeOf119,Tryz.zeroValue119,trivial,by kernel_rfl⟩,
   ⟨Tryz.underlying121,Tryz.sizeOf121,Tryz.zeroValue121,trivial,by kernel_rfl⟩,
   ⟨Tryz.underlying124,Tryz.sizeOf124,Tryz.zeroValue124,trivial,by kernel_rfl⟩,
   ⟨Tryz.underlying125,Tryz.sizeOf125,Tryz.zeroValue125,trivial,by kernel_rfl⟩,
   ⟨⟨_,Tryz.underlying126,rfl,rfl,Tryz.sizeOf62,rfl,rfl,rfl,Tryz.sizeOf124,rfl,rfl,rfl,Tryz.sizeOf125,rfl,trivial⟩,Tryz.sizeOf126,Tryz.zeroValue126,(by show Tryz.prog.stoodInHeld 126=false;kernel_rfl),by kernel_rfl⟩,
   ⟨⟨_,Tryz.underlying127,rfl,rfl,Tryz.sizeOf62,rfl,rfl,rfl,Tryz.sizeOf124,rfl,rfl,rfl,Tryz.sizeOf125,rfl,trivial⟩,Tryz.sizeOf127,Tryz.zeroValue127,(by show Tryz.prog.stoodInHeld 127=false;kernel_rfl),by kernel_rfl⟩,
   ⟨Tryz.underlying129,Tryz.sizeOf129,Tryz.zeroValue129,trivial,by kernel_rfl⟩,
   ⟨⟨_,Tryz.underlying130,rfl,rfl,Tryz.sizeOf3,rfl,rfl,rfl,Tryz.sizeOf129,rfl,trivial⟩,Tryz.sizeOf130,Tryz.zeroValue130,(by show Tryz.prog.stoodInHeld 130=false;kernel_rfl),by kernel_rfl⟩,
   ⟨⟨_,Tryz.underlying131,rfl,rfl,Tryz.sizeOf3,rfl,rfl,rfl,Tryz.sizeOf129,rfl,trivial⟩,Tryz.sizeOf131,Tryz.zeroValue131,(by show Tryz.prog.stoodInHeld 131=false;kernel_rfl),by kernel_rfl⟩,
   ⟨Tryz.underlying132,Tryz.sizeOf132,Tryz.zeroValue132,trivial,by kernel_rfl⟩,
   ⟨⟨_,Tryz.underlying133,rfl,rfl,Tryz.sizeOf132,rfl,trivial⟩,Tryz.sizeOf133,Tryz.zeroValue133,(by show Tryz.prog.stoodInHeld 133=false;kernel_rfl),by kernel_rfl⟩,
   ⟨⟨_,Tryz.underlying134,rfl,rfl,Tryz.sizeOf132,rfl,trivial⟩,Tryz.sizeOf134,Tryz.zeroValue134,(by show Tryz.prog.stoodInHeld 134=false;kernel_rfl),by kernel_rfl⟩,
   ⟨Tryz.underlying135,Tryz.sizeOf135,Tryz.zeroValue135,trivial,by kernel_rfl⟩,
   ⟨⟨_,Tryz.underlying136,rfl,rfl,Tryz.sizeOf3,rfl,rfl,rfl,Tryz.sizeOf3,rfl,trivial⟩,Tryz.sizeOf136,Tryz.zeroValue136,(by show Tryz.prog.stoodInHeld 136=false;kernel_rfl),by kernel_rfl⟩,
   ⟨⟨_,Tryz.underlying137,rfl,rfl,Tryz.sizeOf3,rfl,rfl,rfl,Tryz.sizeOf3,rfl,trivial⟩,Tryz.sizeOf137,Tryz.zeroValue137,(by show Tryz.prog.stoodInHeld 137=false;kernel_rfl),by kernel_rfl⟩,
   ⟨Tryz.underlying138,Tryz.sizeOf138,Tryz.zeroValue138,trivial,by kernel_rfl⟩,
   ⟨Tryz.underlying140,Tryz.sizeOf140,Tryz.zeroValue140,trivial,by kernel_rfl⟩,
   ⟨Tryz.underlying148,Tryz.sizeOf148,Tryz.zeroValue148,trivial,by kernel_rfl⟩,
   ⟨⟨_,_,_,Tryz.underlying154⟩,Tryz.sizeOf154,Tryz.zeroValue154,trivial,by kernel_rfl⟩,
   ⟨⟨_,Tryz.underlying155,rfl,rfl,Tryz.sizeOf3,rfl,rfl,rfl,Tryz.sizeOf3,rfl,rfl,rfl,Tryz.sizeOf3,rfl,trivial⟩,Tryz.sizeOf155,Tryz.zeroValue155,(by show Tryz.prog.stoodInHeld 155=false;kernel_rfl),by kernel_rfl⟩,
   ⟨⟨_,Tryz.underlying156,rfl,rfl,Tryz.sizeOf3,rfl,rfl,rfl,Tryz.sizeOf3,rfl,rfl,rfl,Tryz.sizeOf3,rfl,trivial⟩,Tryz.sizeOf156,Tryz.zeroValue156,(by show Tryz.prog.stoodInHeld 156=false;kernel_rfl),by kernel_rfl⟩,
   ⟨Tryz.underlying157,Tryz.sizeOf157,Tryz.zeroValue157,trivial,by kernel_rfl⟩,
   ⟨Tryz.underlying159,Tryz.sizeOf159,Tryz.zeroValue159,trivial,by kernel_rfl⟩,
   ⟨⟨_,Tryz.underlying161,rfl,rfl,Tryz.sizeOf3,rfl,rfl,rfl,Tryz.sizeOf3,rfl,rfl,rfl,Tryz.sizeOf26,rfl,trivial⟩,Tryz.sizeOf161,Tryz.zeroValue161,(by show Tryz.prog.stoodInHeld 161=false;kernel_rfl),by kernel_rfl⟩,
   ⟨⟨_,Tryz.underlying162,rfl,rfl,Tryz.sizeOf3,rfl,rfl,rfl,Tryz.sizeOf3,rfl,rfl,rfl,Tryz.sizeOf26,rfl,trivial⟩,Tryz.sizeOf162,Tryz.zeroValue162,(by show Tryz.prog.stoodInHeld 162=false;kernel_rfl),by kernel_rfl⟩,
   ⟨Tryz.underlying163,Tryz.sizeOf163,Tryz.zeroValue163,trivial,by kernel_rfl⟩,
   ⟨⟨_,Tryz.underlying164,rfl,rfl,Tryz.sizeOf163,rfl,trivial⟩,Tryz.sizeOf164,Tryz.zeroValue164,(by show Tryz.prog.stoodInHeld 164=false;kernel_rfl),by kernel_rfl⟩,
   ⟨⟨_,Tryz.underlying165,rfl,rfl,Tryz.sizeOf163,rfl,trivial⟩,Tryz.sizeOf165,Tryz.zeroValue165,(by show Tryz.prog.stoodInHeld 165=false;kernel_rfl),by kernel_rfl⟩,
   ⟨⟨_,Tryz.underlying166,rfl,rfl,Tryz.sizeOf165,rfl,rfl,rfl,Tryz.sizeOf4,rfl,rfl,rfl,Tryz.sizeOf26,rfl,rfl,rfl,Tryz.sizeOf3,rfl,trivial⟩,Tryz.sizeOf166,Tryz.zeroValue166,(by show Tryz.prog.stoodInHeld 166=false;kernel_rfl),by kernel_rfl⟩,
   ⟨⟨_,Tryz.underlying167,rfl,rfl,Tryz.sizeOf165,rfl,rfl,rfl,Tryz.sizeOf4,rfl,rfl,rfl,Tryz.sizeOf26,rfl,rfl,rfl,Tryz.sizeOf3,rfl,trivial⟩,Tryz.sizeOf167,Tryz.zeroValue167,(by show Tryz.prog.stoodInHeld 167=false;kernel_rfl),by kernel_rfl⟩,
   ⟨Tryz.underlying168,Tryz.sizeOf168,Tryz.zeroValue168,trivial,by kernel_rfl⟩,
   ⟨Tryz.underlying172,Tryz.sizeOf172,Tryz.zeroValue172,trivial,by kernel_rfl⟩,
   ⟨⟨_,_,_,Tryz.underlying173⟩,Tryz.sizeOf173,Tryz.zeroValue173,trivial,by kernel_rfl⟩,
   ⟨Tryz.underlying174,Tryz.sizeOf174,Tryz.zeroValue174,trivial,by kernel_rfl⟩,
   ⟨Tryz.underlying175,Tryz.sizeOf175,Tryz.zeroValue175,trivial,by kernel_rfl⟩,
   ⟨⟨_,Tryz.underlying176,rfl,rfl,Tryz.sizeOf174,rfl,rfl,rfl,Tryz.sizeOf175,rfl,rfl,rfl,Tryz.sizeOf3,rfl,trivial⟩,Tryz.sizeOf176,Tryz.zeroValue176,(by show Tryz.prog.stoodInHeld 176=false;kernel_rfl),by kernel_rfl⟩,
   ⟨⟨_,Tryz.underlying177,rfl,rfl,Tryz.sizeOf174,rfl,rfl,rfl,Tryz.sizeOf175,rfl,rfl,rfl,Tryz.sizeOf3,rfl,trivial⟩,Tryz.sizeOf177,Tryz.zeroValue177,(by show Tryz.prog.stoodInHeld 177=false;kernel_rfl),by kernel_rfl⟩,
   ⟨Tryz.underlying178,Tryz.sizeOf178,Tryz.zeroValue178,trivial,by kernel_rfl⟩,
   ⟨⟨_,Tryz.underlying179,rfl,rfl,Tryz.sizeOf178,rfl,rfl,rfl,Tryz.sizeOf178,rfl,rfl,rfl,Tryz.sizeOf178,rfl,trivial⟩,Tryz.sizeOf179,Tryz.zeroValue179,(by show Tryz.prog.stoodInHeld 179=false;kernel_rfl),by kernel_rfl⟩,
   ⟨⟨_,Tryz.underlying180,rfl,rfl,Tryz.sizeOf178,rfl,rfl,rfl,Tryz.sizeOf178,rfl,rfl,rfl,Tryz.sizeOf178,rfl,trivial⟩,Tryz.sizeOf180,Tryz.zeroValue180,(by show Tryz.prog.stoodInHeld 180=false;kernel_rfl),by kernel_rfl⟩,
   ⟨⟨_,Tryz.underlying182,rfl,rfl,Tryz.sizeOf138,rfl,rfl,rfl,Tryz.sizeOf138,rfl,rfl,rfl,Tryz.sizeOf138,rfl,trivial⟩,Tryz.sizeOf182,Tryz.zeroValue182,(by show Tryz.prog.stoodInHeld 182=false;kernel_rfl),by kernel_rfl⟩,
   ⟨⟨_,Tryz.underlying183,rfl,rfl,Tryz.sizeOf138,rfl,rfl,rfl,Tryz.sizeOf138,rfl,rfl,rfl,Tryz.sizeOf138,rfl,trivial⟩,Tryz.sizeOf183,Tryz.zeroValue183,(by show Tryz.prog.stoodInHeld 183=false;kernel_rfl),by kernel_rfl⟩,
   ⟨⟨_,Tryz.underlying187,rfl,rfl,Tryz.sizeOf26,rfl,rfl,rfl,Tryz.sizeOf31,rfl,trivial⟩,Tryz.sizeOf187,Tryz.zeroValue187,(by show Tryz.prog.stoodInHeld 187=false;kernel_rfl),by kernel_rfl⟩,
   ⟨⟨_,Tryz.underlying188,rfl,rfl,Tryz.sizeOf187,rfl,trivial⟩,Tryz.sizeOf188,Tryz.zeroValue188,(by show Tryz.prog.stoodInHeld 188=false;kernel_rfl),by kernel_rfl⟩,
   ⟨⟨_,Tryz.underlying189,rfl,rfl,Tryz.sizeOf187,rfl,trivial⟩,Tryz.sizeOf189,Tryz.zeroValue189,(by show Tryz.prog.stoodInHeld 189=false;kernel_rfl),by kernel_rfl⟩,
   ⟨⟨_,_,_,Tryz.underlying193⟩,Tryz.sizeOf193,Tryz.zeroValue193,trivial,by kernel_rfl⟩,
   ⟨⟨_,_,_,Tryz.underlying194⟩,Tryz.sizeOf194,Tryz.zeroValue194,trivial,by kernel_rfl⟩,
   ⟨Tryz.underlying198,Tryz.sizeOf198,Tryz.zeroValue198,trivial,by kernel_rfl⟩,
   ⟨Tryz.underlying203,Tryz.sizeOf203,Tryz.zeroValue203,trivial,by kernel_rfl⟩,
   ⟨Tryz.underlying204,Tryz.sizeOf204,Tryz.zeroValue204,trivial,by kernel_rfl⟩,
   ⟨Tryz.underlying205,Tryz.sizeOf205,Tryz.zeroValue205,trivial,by kernel_rfl⟩,
   ⟨⟨_,_,_,Tryz.underlying210⟩,Tryz.sizeOf210,Tryz.zeroValue210,trivial,by kernel_rfl⟩,
   ⟨Tryz.underlying212,Tryz.sizeOf212,Tryz.zeroValue212,trivial,by kernel_rfl⟩,
   ⟨Tryz.underlying217,Tryz.sizeOf217,Tryz.zeroValue217,trivial,by kernel_rfl⟩,
   ⟨⟨_,_,_,Tryz.underlying221⟩,Tryz.sizeOf221,Tryz.zeroValue221,trivial,by kernel_rfl⟩,
   ⟨Tryz.underlying223,Tryz.sizeOf223,Tryz.zeroValue223,trivial,by kernel_rfl⟩,
   ⟨Tryz.underlying232,Tryz.sizeOf232,Tryz.zeroValue232,trivial,by kernel_rfl⟩,
   ⟨Tryz.underlying236,Tryz.sizeOf236,Tryz.zeroValue236,trivial,by kernel_rfl⟩,
   ⟨Tryz.underlying238,Tryz.sizeOf238,Tryz.zeroValue238,trivial,by kernel_rfl⟩,
   ⟨Tryz.underlying247,Tryz.sizeOf247,Tryz.zeroValue247,trivial,by kernel_rfl⟩,
   ⟨Tryz.underlying248,Tryz.sizeOf248,Tryz.zeroValue248,trivial,by kernel_rfl⟩,
   ⟨⟨_,_,_,Tryz.underlying249⟩,Tryz.sizeOf249,Tryz.zeroValue249,trivial,by kernel_rfl⟩,
   ⟨Tryz.underlying250,Tryz.sizeOf250,Tryz.zeroValue250,trivial,by kernel_rfl⟩,
   ⟨Tryz.underlying251,Tryz.sizeOf251,Tryz.zeroValue251,trivial,by kernel_rfl⟩,
   ⟨Tryz.underlying252,Tryz.sizeOf252,Tryz.zeroValue252,trivial,by kernel_rfl⟩,
   ⟨Tryz.underlying256,Tryz.sizeOf256,Tryz.zeroValue256,trivial,by kernel_rfl⟩,
   ⟨⟨_,Tryz.underlying258,rfl,rfl,Tryz.sizeOf82,rfl,rfl,rfl,Tryz.sizeOf65,rfl,rfl,rfl,Tryz.sizeOf3,rfl,trivial⟩,Tryz.sizeOf258,Tryz.zeroValue258,(by show Tryz.prog.stoodInHeld 258=false;kernel_rfl),by kernel_rfl⟩,
   ⟨⟨_,Tryz.underlying259,rfl,rfl,Tryz.sizeOf82,rfl,rfl,rfl,Tryz.sizeOf65,rfl,rfl,rfl,Tryz.sizeOf3,rfl,trivial⟩,Tryz.sizeOf259,Tryz.zeroValue259,(by show Tryz.prog.stoodInHeld 259=false;kernel_rfl),by kernel_rfl⟩,
   trivial⟩
set_option maxRecDepth 100000 in
theorem fnsGood:FGoods Tryz.prog [3,4,5,6,7,8,9,10,11,12,13,14,15,16,17,18,19,20,21,22,23,24,25,26,27,28,29,30,31,32,33,34,35,36,37,38,39,40,41,42,43,44,45,46,47,48,49,50,51,52,53,54,55,56,57,58,59,60,61,62,63,64,65,66,67,68,69,70,71,72,73,74,75,76,77,78,79,80,82,83,84,85,86,87,88,89,90,91,92,93,94,95,96,97,98,99,100,101,102,103,104,105,106,107,108,109,110,111,112,113,114,115,116,117,118,119,120,121,122,123,124,125,126,127,128,129,130,131] :=
  ⟨enters_of Tryz.func3 (by kernel_rfl) rfl,
   enters_of Tryz.func4 (by kernel_rfl) rfl,
   enters_of Tryz.func5 (by kernel_rfl) rfl,
   enters_of Tryz.func6 (by kernel_rfl) rfl,
   enters_of Tryz.func7 (by kernel_rfl) rfl,
   enters_of Tryz.func8 (by kernel_rfl) rfl,
   enters_of Tryz.func9 (by kernel_rfl) rfl,
   enters_of Tryz.func10 (by kernel_rfl) rfl,
   enters_of Tryz.func11 (by kernel_rfl) rfl,
   enters_of Tryz.func12 (by kernel_rfl) rfl,
   enters_of Tryz.func13 (by kernel_rfl) rfl,
   enters_of Tryz.func14 (by kernel_rfl) rfl,
   enters_of Tryz.func15 (by kernel_rfl) rfl,
   enters_of Tryz.func16 (by kernel_rfl) rfl,
   enters_of Tryz.func17 (by kernel_rfl) rfl,
   enters_of Tryz.func18 (by kernel_rfl) rfl,
   enters_of Tryz.func19 (by kernel_rfl) rfl,
   enters_of Tryz.func20 (by kernel_rfl) rfl,
   enters_of Tryz.func21 (by kernel_rfl) rfl,
   enters_of Tryz.func22 (by kernel_rfl) rfl,
   enters_of Tryz.func23 (by kernel_rfl) rfl,
   enters_of Tryz.func24 (by kernel_rfl) rfl,
   enters_of Tryz.func25 (by kernel_rfl) rfl,
   enters_of Tryz.func26 (by kernel_rfl) rfl,
   enters_of Tryz.func27 (by kernel_rfl) rfl,
   enters_of Tryz.func28 (by kernel_rfl) rfl,
   enters_of Tryz.func29 (by kernel_rfl) rfl,
   enters_of Tryz.func30 (by kernel_rfl) rfl,
   enters_of Tryz.func31 (by kernel_rfl) rfl,
   enters_of Tryz.func32 (by kernel_rfl) rfl,
   enters_of Tryz.func33 (by kernel_rfl) rfl,
   enters_of Tryz.func34 (by kernel_rfl) rfl,
   enters_of Tryz.func35 (by kernel_rfl) rfl,
   enters_of Tryz.func36 (by kernel_rfl) rfl,
   enters_of Tryz.func37 (by kernel_rfl) rfl,
   enters_of Tryz.func38 (by kernel_rfl) rfl,
   enters_of Tryz.func39 (by kernel_rfl) rfl,
   enters_of Tryz.func40 (by kernel_rfl) rfl,
   enters_of Tryz.func41 (by kernel_rfl) rfl,
   enters_of Tryz.func42 (by kernel_rfl) rfl,
   enters_of Tryz.func43 (by kernel_rfl) rfl,
   enters_of Tryz.func44 (by kernel_rfl) rfl,
   enters_of Tryz.func45 (by kernel_rfl) rfl,
   enters_of Tryz.func46 (by kernel_rfl) rfl,
   enters_of Tryz.func47 (by kernel_rfl) rfl,
   enters_of Tryz.func48 (by kernel_rfl) rfl,
   enters_of Tryz.func49 (by kernel_rfl) rfl,
   enters_of Tryz.func50 (by kernel_rfl) rfl,
   enters_of Tryz.func51 (by kernel_rfl) rfl,
   enters_of Tryz.func52 (by kernel_rfl) rfl,
   enters_of Tryz.func53 (by kernel_rfl) rfl,
   enters_of Tryz.func54 (by kernel_rfl) rfl,
   enters_of Tryz.func55 (by kernel_rfl) rfl,
   enters_of Tryz.func56 (by kernel_rfl) rfl,
   enters_of Tryz.func57 (by kernel_rfl) rfl,
   enters_of Tryz.func58 (by kernel_rfl) rfl,
   enters_of Tryz.func59 (by kernel_rfl) rfl,
   enters_of Tryz.func60 (by kernel_rfl) rfl,
   enters_of Tryz.func61 (by kernel_rfl) rfl,
   enters_of Tryz.func62 (by kernel_rfl) rfl,
   enters_of Tryz.func63 (by kernel_rfl) rfl,
   enters_of Tryz.func64 (by kernel_rfl) rfl,
   enters_of Tryz.func65 (by kernel_rfl) rfl,
   enters_of Tryz.func66 (by kernel_rfl) rfl,
   enters_of Tryz.func67 (by kernel_rfl) rfl,
   enters_of Tryz.func68 (by kernel_rfl) rfl,
   enters_of Tryz.func69 (by kernel_rfl) rfl,
   enters_of Tryz.func70 (by kernel_rfl) rfl,
   enters_of Tryz.func71 (by kernel_rfl) rfl,
   enters_of Tryz.func72 (by kernel_rfl) rfl,
   enters_of Tryz.func73 (by kernel_rfl) rfl,
   enters_of Tryz.func74 (by kernel_rfl) rfl,
   enters_of Tryz.func75 (by kernel_rfl) rfl,
   enters_of Tryz.func76 (by kernel_rfl) rfl,
   enters_of Tryz.func77 (by kernel_rfl) rfl,
   enters_of Tryz.func78 (by kernel_rfl) rfl,
   enters_of Tryz.func79 (by kernel_rfl) rfl,
   enters_of Tryz.func80 (by kernel_rfl) rfl,
   enters_of Tryz.func82 (by kernel_rfl) rfl,
   enters_of Tryz.func83 (by kernel_rfl) rfl,
   enters_of Tryz.func84 (by kernel_rfl) rfl,
   enters_of Tryz.func85 (by kernel_rfl) rfl,
   enters_of Tryz.func86 (by kernel_rfl) rfl,
   enters_of Tryz.func87 (by kernel_rfl) rfl,
   enters_of Tryz.func88 (by kernel_rfl) rfl,
   enters_of Tryz.func89 (by kernel_rfl) rfl,
   enters_of Tryz.func90 (by kernel_rfl) rfl,
   enters_of Tryz.func91 (by kernel_rfl) rfl,
   enters_of Tryz.func92 (by kernel_rfl) rfl,
   enters_of Tryz.func93 (by kernel_rfl) rfl,
   enters_of Tryz.func94 (by kernel_rfl) rfl,
   enters_of Tryz.func95 (by kernel_rfl) rfl,
   enters_of Tryz.func96 (by kernel_rfl) rfl,
   enters_of Tryz.func97 (by kernel_rfl) rfl,
   enters_of Tryz.func98 (by kernel_rfl) rfl,
   enters_of Tryz.func99 (by kernel_rfl) rfl,
   enters_of Tryz.func100 (by kernel_rfl) rfl,
   enters_of Tryz.func101 (by kernel_rfl) rfl,
   enters_of Tryz.func102 (by kernel_rfl) rfl,
   enters_of Tryz.func103 (by kernel_rfl) rfl,
   enters_of Tryz.func104 (by kernel_rfl) rfl,
   enters_of Tryz.func105 (by kernel_rfl) rfl,
   enters_of Tryz.func106 (by kernel_rfl) rfl,
   enters_of Tryz.func107 (by kernel_rfl) rfl,
   enters_of Tryz.func108 (by kernel_rfl) rfl,
   enters_of Tryz.func109 (by kernel_rfl) rfl,
   enters_of Tryz.func110 (by kernel_rfl) rfl,
   enters_of Tryz.func111 (by kernel_rfl) rfl,
   enters_of Tryz.func112 (by kernel_rfl) rfl,
   enters_of Tryz.func113 (by kernel_rfl) rfl,
   enters_of Tryz.func114 (by kernel_rfl) rfl,
   enters_of Tryz.func115 (by kernel_rfl) rfl,
   enters_of Tryz.func116 (by kernel_rfl) rfl,
   enters_of Tryz.func117 (by kernel_rfl) rfl,
   enters_of Tryz.func118 (by kernel_rfl) rfl,
   enters_of Tryz.func119 (by kernel_rfl) rfl,
   enters_of Tryz.func120 (by kernel_rfl) rfl,
   enters_of Tryz.func121 (by kernel_rfl) rfl,
   enters_of Tryz.func122 (by kernel_rfl) rfl,
   enters_of Tryz.func123 (by kernel_rfl) rfl,
   enters_of Tryz.func124 (by kernel_rfl) rfl,
   enters_of Tryz.func125 (by kernel_rfl) rfl,
   enters_of Tryz.func126 (by kernel_rfl) rfl,
   enters_of Tryz.func127 (by kernel_rfl) rfl,
   enters_of Tryz.func128 (by kernel_rfl) rfl,
   enters_of Tryz.func129 (by kernel_rfl) rfl,
   enters_of Tryz.func130 (by kernel_rfl) rfl,
   enters_of Tryz.func131 (by kernel_rfl) rfl,trivial⟩
theorem mixGood:Tryz.prog.follows .mixedOrders=true:=by kernel_rfl
def tb:Tb Tryz.prog:={ rows:=rowsTab,good:=rowsGood,fns:=[3,4,5,6,7,8,9,10,11,12,13,14,15,16,17,18,19,20,21,22,23,24,25,26,27,28,29,30,31,32,33,34,35,36,37,38,39,40,41,42,43,44,45,46,47,48,49,50,51,52,53,54,55,56,57,58,59,60,61,62,63,64,65,66,67,68,69,70,71,72,73,74,75,76,77,78,79,80,82,83,84,85,86,87,88,89,90,91,92,93,94,95,96,97,98,99,100,101,102,103,104,105,106,107,108,109,110,111,112,113,114,115,116,117,118,119,120,121,122,123,124,125,126,127,128,129,130,131],fgood:=fnsGood,mix:=mixGood,deep:=Nat.le_of_ble_eq_true (by kernel_rfl) }
set_option maxRecDepth 100000
def u8V (x:Int):List Value:=[.int .u8 x]
theorem u8V_len (x:Int):(u8V x).length=1:=rfl
theorem fl_u8 (bs:List Int):fl u8V bs=u8s bs:=by
  unfold fl u8s
  induction bs with
  | nil=>rfl
  | cons a l ih=>simp only [List.map_cons,List.flatten_cons,ih];rfl
def Byt (bs:List Int):Prop:=∀ x∈bs,0≤x∧x≤255
theorem rot_ok (x k s p q:Int) (h:andI .u64 (IntKind.u64.wrap k) 31=s) (h0:0 < s) (h1:s < 32) (hq:pw s.toNat=q) (hp:pw (32 - s).toNat=p):CallP Tryz.prog 114 [.int .u32 x,.int .i64 k] (.int .u32 (rotr x p q)):=by
  refine enterP (tb:=tb) Tryz.func114 rfl Tryz.ntmps114 rfl fun w=>?_
  have hs32:s.toNat≤IntKind.u32.bits:=by show s.toNat≤32;omega
  have hs33:(32 - s).toNat≤IntKind.u32.bits:=by show (32 - s).toNat≤32;omega
  repeat' (first|(apply R.is1;first|(apply R.isBin;first|(apply R.pure;exact rfl;first|(apply Ok1.andE;exact rfl;exact rfl;exact h)|(apply Ok1.subU;exact rfl;exact rfl;omega;omega)|(apply Ok1.shl;exact rfl;exact rfl;omega;exact hs32;exact hq)|(apply Ok1.shr;exact rfl;exact rfl;omega;exact hs33;exact hp)|(apply Ok1.orK;exact rfl;exact rfl)|(apply Ok1.sub64;exact rfl;exact rfl;omega;omega)|(apply Ok1.shr;exact rfl;exact rfl;omega;exact Nat.le_of_ble_eq_true rfl;(first|exact pwE1|exact pwE2|exact pwE3|exact pwE4|exact pwE5|exact pwE6|exact pwE7|exact pwE8|exact pwE16|exact pwE24|exact pwE32|exact rfl))))|(apply R.pure;exact rfl;first|(apply Ok1.move;exact rfl)|(apply Ok1.assign;exact rfl)|(apply Ok1.convI64;(iterate 5 exact rfl);omega;omega)|(apply Ok1.convU64;(iterate 5 exact rfl);omega;omega)|(apply Ok1.convU32;(iterate 5 exact rfl);omega;omega)|(apply Ok1.convU8;(iterate 5 exact rfl);omega;omega)|(apply Ok1.conv;(iterate 5 exact rfl))))|(apply R.is0;first|fail)|(apply R.isG;first|(apply R.guard_run;exact rfl;exact rfl)|(apply R.guard_not;(iterate 3 exact rfl))|(apply R.guard_not0;exact rfl;exact rfl)|(apply R.guard_un;(iterate 3 exact rfl))|(apply R.guard_un0;exact rfl;exact rfl)|(apply R.guard rfl rfl ?_ (fun h=>⟨rfl,?_⟩)<;>try intro))|apply R.nil|(apply T.is;first|apply T.seq|apply T.region|apply T.block|apply T.scope|apply T.label|apply T.skip|apply T.exit|apply T.ret|(apply T.cond_t;exact rfl)|(apply T.cond_f;exact rfl)|(apply T.cond_h;exact rfl;assumption)|(apply T.cond_n;exact rfl;assumption)|(apply T.cond rfl<;>intro))|apply Rnd.step)
  (apply RetOk.t;exact rfl)
  rfl
theorem turnedA_ok (x:Int):CallP Tryz.prog 113 [.int .u32 x,.int .i64 6,.int .i64 11,.int .i64 25] (.int .u32 (turned x 64 67108864 2048 2097152 33554432 128)):=by
  refine enterP (tb:=tb) Tryz.func113 rfl Tryz.ntmps113 rfl fun w=>?_
  repeat' (first|(apply R.is1;first|(apply R.isBin;first|(apply R.pure;exact rfl;first|(apply Ok1.xorK;exact rfl;exact rfl)))|(apply R.isCall;first|apply R.callP rfl rfl rfl (rot_ok x (IntKind.i64.wrap (0 - 6)) 26 64 67108864 (by decide +kernel) (by decide) (by decide) rfl rfl)|apply R.callP rfl rfl rfl (rot_ok x (IntKind.i64.wrap (0 - 11)) 21 2048 2097152 (by decide +kernel) (by decide) (by decide) rfl rfl)|apply R.callP rfl rfl rfl (rot_ok x (IntKind.i64.wrap (0 - 25)) 7 33554432 128 (by decide +kernel) (by decide) (by decide) rfl rfl))|(apply R.pure;exact rfl;first|(apply Ok1.move;exact rfl)|(apply Ok1.assign;exact rfl)|(apply Ok1.not_t;exact rfl)|(apply Ok1.not_f;exact rfl)|(apply Ok1.not;exact rfl)|(apply Ok1.neg;exact rfl)))|(apply R.is0;first|fail)|(apply R.isG;first|(apply R.guard_run;exact rfl;exact rfl)|(apply R.guard_not;(iterate 3 exact rfl))|(apply R.guard_not0;exact rfl;exact rfl)|(apply R.guard_un;(iterate 3 exact rfl))|(apply R.guard_un0;exact rfl;exact rfl)|(apply R.guard rfl rfl ?_ (fun h=>⟨rfl,?_⟩)<;>try intro))|apply R.nil|(apply T.is;first|apply T.seq|apply T.region|apply T.block|apply T.scope|apply T.label|apply T.skip|apply T.exit|apply T.ret|(apply T.cond_t;exact rfl)|(apply T.cond_f;exact rfl)|(apply T.cond_h;exact rfl;assumption)|(apply T.cond_n;exact rfl;assumption)|(apply T.cond rfl<;>intro))|apply Rnd.step)
  (apply RetOk.t;exact rfl)
  rfl
theorem turnedB_ok (x:Int):CallP Tryz.prog 113 [.int .u32 x,.int .i64 2,.int .i64 13,.int .i64 22] (.int .u32 (turned x 4 1073741824 8192 524288 4194304 1024)):=by
  refine enterP (tb:=tb) Tryz.func113 rfl Tryz.ntmps113 rfl fun w=>?_
  repeat' (first|(apply R.is1;first|(apply R.isBin;first|(apply R.pure;exact rfl;first|(apply Ok1.xorK;exact rfl;exact rfl)))|(apply R.isCall;first|apply R.callP rfl rfl rfl (rot_ok x (IntKind.i64.wrap (0 - 2)) 30 4 1073741824 (by decide +kernel) (by decide) (by decide) rfl rfl)|apply R.callP rfl rfl rfl (rot_ok x (IntKind.i64.wrap (0 - 13)) 19 8192 524288 (by decide +kernel) (by decide) (by decide) rfl rfl)|apply R.callP rfl rfl rfl (rot_ok x (IntKind.i64.wrap (0 - 22)) 10 4194304 1024 (by decide +kernel) (by decide) (by decide) rfl rfl))|(apply R.pure;exact rfl;first|(apply Ok1.move;exact rfl)|(apply Ok1.assign;exact rfl)|(apply Ok1.not_t;exact rfl)|(apply Ok1.not_f;exact rfl)|(apply Ok1.not;exact rfl)|(apply Ok1.neg;exact rfl)))|(apply R.is0;first|fail)|(apply R.isG;first|(apply R.guard_run;exact rfl;exact rfl)|(apply R.guard_not;(iterate 3 exact rfl))|(apply R.guard_not0;exact rfl;exact rfl)|(apply R.guard_un;(iterate 3 exact rfl))|(apply R.guard_un0;exact rfl;exact rfl)|(apply R.guard rfl rfl ?_ (fun h=>⟨rfl,?_⟩)<;>try intro))|apply R.nil|(apply T.is;first|apply T.seq|apply T.region|apply T.block|apply T.scope|apply T.label|apply T.skip|apply T.exit|apply T.ret|(apply T.cond_t;exact rfl)|(apply T.cond_f;exact rfl)|(apply T.cond_h;exact rfl;assumption)|(apply T.cond_n;exact rfl;assumption)|(apply T.cond rfl<;>intro))|apply Rnd.step)
  (apply RetOk.t;exact rfl)
  rfl
theorem table_ok:CallP Tryz.prog 112 [] (.agg ⟨u32s kI⟩):=by
  refine enterP (tb:=tb) Tryz.func112 rfl Tryz.ntmps112 rfl fun w=>?_
  repeat' (first|(apply R.is1;first|(apply R.pure;exact rfl;first|(apply Ok1.build;(iterate 5 exact rfl))|(apply Ok1.buildA;(iterate 6 exact rfl)))|(apply R.alloc;(iterate 3 exact rfl);intro))|(apply R.is0;first|(apply R.store;(iterate 6 exact rfl);(focus (repeat' first|exact Upd.head|apply Upd.tail|apply Upd.right);done);exact rfl)|fail)|(apply R.isG;first|(apply R.guard_run;exact rfl;exact rfl)|(apply R.guard_not;(iterate 3 exact rfl))|(apply R.guard_not0;exact rfl;exact rfl)|(apply R.guard_un;(iterate 3 exact rfl))|(apply R.guard_un0;exact rfl;exact rfl)|(apply R.guard rfl rfl ?_ (fun h=>⟨rfl,?_⟩)<;>try intro))|apply R.nil|(apply T.is;first|apply T.seq|apply T.region|apply T.block|apply T.scope|apply T.label|apply T.skip|apply T.exit|apply T.ret|(apply T.cond_t;exact rfl)|(apply T.cond_f;exact rfl)|(apply T.cond_h;exact rfl;assumption)|(apply T.cond_n;exact rfl;assumption)|(apply T.cond rfl<;>intro))|apply Rnd.step)
  (apply RetOk.c;exact rfl;(first|(apply Ld.ownk;exact rfl;exact rfl;(focus (repeat' first|exact At.head|apply At.tail|apply At.right);done);exact rfl)|(apply Ld.own1;exact rfl;exact rfl;(focus (repeat' first|exact At.head|apply At.tail|apply At.right);done);exact rfl)))
  rfl
theorem begun_ok:CallP Tryz.prog 93 [] (.agg ⟨h0I.v⟩):=by
  refine enterP (tb:=tb) Tryz.func93 rfl Tryz.ntmps93 rfl fun w=>?_
  repeat' (first|(apply R.is1;first|(apply R.pure;exact rfl;first|(apply Ok1.build;(iterate 5 exact rfl))|(apply Ok1.buildA;(iterate 6 exact rfl)))|(apply R.alloc;(iterate 3 exact rfl);intro))|(apply R.is0;first|(apply R.store;(iterate 6 exact rfl);(focus (repeat' first|exact Upd.head|apply Upd.tail|apply Upd.right);done);exact rfl)|fail)|(apply R.isG;first|(apply R.guard_run;exact rfl;exact rfl)|(apply R.guard_not;(iterate 3 exact rfl))|(apply R.guard_not0;exact rfl;exact rfl)|(apply R.guard_un;(iterate 3 exact rfl))|(apply R.guard_un0;exact rfl;exact rfl)|(apply R.guard rfl rfl ?_ (fun h=>⟨rfl,?_⟩)<;>try intro))|apply R.nil|(apply T.is;first|apply T.seq|apply T.region|apply T.block|apply T.scope|apply T.label|apply T.skip|apply T.exit|apply T.ret|(apply T.cond_t;exact rfl)|(apply T.cond_f;exact rfl)|(apply T.cond_h;exact rfl;assumption)|(apply T.cond_n;exact rfl;assumption)|(apply T.cond rfl<;>intro))|apply Rnd.step)
  (apply RetOk.c;exact rfl;(first|(apply Ld.ownk;exact rfl;exact rfl;(focus (repeat' first|exact At.head|apply At.tail|apply At.right);done);exact rfl)|(apply Ld.own1;exact rfl;exact rfl;(focus (repeat' first|exact At.head|apply At.tail|apply At.right);done);exact rfl)))
  rfl
theorem byt_get {bs:List Int} (hb:Byt bs) {i:Nat} (h:i < bs.length):∃ x,bs[i]? = some x∧bs.getD i 0=x∧0≤x∧x≤255:=⟨bs[i],List.getElem?_eq_getElem h,by simp [h],hb _ (List.getElem_mem h)⟩
theorem word_ok (p:Option Addr) (n cap:Nat) (bs:List Int) (hn:n=bs.length) (hl:4≤bs.length) (hb:Byt bs) (w:World) (hp:RdSl w p u8V bs):CallW Tryz.prog 125 [.slice p n cap] w fun v _=>v = .int .u32 (wordI (bs.getD 0 0) (bs.getD 1 0) (bs.getD 2 0) (bs.getD 3 0)):=by
  subst hn
  obtain ⟨x0,h0,g0,l0,u0⟩:=byt_get hb (i:=0) (by omega)
  obtain ⟨x1,h1,g1,l1,u1⟩:=byt_get hb (i:=1) (by omega)
  obtain ⟨x2,h2,g2,l2,u2⟩:=byt_get hb (i:=2) (by omega)
  obtain ⟨x3,h3,g3,l3,u3⟩:=byt_get hb (i:=3) (by omega)
  rw [g0,g1,g2,g3]
  obtain ⟨b,o,hpe,H0⟩:=hp.at h0
  replace H0:=H0 1 u8V_len
  obtain ⟨b',o',hpe1,H1⟩:=hp.at h1
  replace H1:=H1 1 u8V_len
  rw [hpe] at hpe1;cases hpe1
  obtain ⟨b',o',hpe1,H2⟩:=hp.at h2
  replace H2:=H2 1 u8V_len
  rw [hpe] at hpe1;cases hpe1
  obtain ⟨b',o',hpe1,H3⟩:=hp.at h3
  replace H3:=H3 1 u8V_len
  rw [hpe] at hpe1;cases hpe1
  refine enterW (tb:=tb) Tryz.func125 rfl Tryz.ntmps125 rfl ?_
  repeat' (first|(apply R.is1;first|(apply R.isBin;first|(apply R.pure;exact rfl;first|(apply Ok1.shl;exact rfl;exact rfl;omega;exact Nat.le_of_ble_eq_true rfl;exact rfl)|(apply Ok1.orK;exact rfl;exact rfl)))|(apply R.pure;exact rfl;first|(apply Ok1.indexAddrP;(iterate 4 exact rfl);exact hpe;exact rfl;omega;omega)|(apply Ok1.load;exact rfl;apply Ld.row0 H0;exact rfl;exact List.not_mem_nil;(iterate 3 exact rfl))|(apply Ok1.load;exact rfl;apply Ld.row0 H1;exact rfl;exact List.not_mem_nil;(iterate 3 exact rfl))|(apply Ok1.load;exact rfl;apply Ld.row0 H2;exact rfl;exact List.not_mem_nil;(iterate 3 exact rfl))|(apply Ok1.load;exact rfl;apply Ld.row0 H3;exact rfl;exact List.not_mem_nil;(iterate 3 exact rfl))|(apply Ok1.move;exact rfl)|(apply Ok1.load;exact rfl;first|(apply Ld.own1;exact rfl;exact rfl;(focus (repeat' first|exact At.head|apply At.tail|apply At.right);done);exact rfl)|(apply Ld.ownk;exact rfl;exact rfl;(focus (repeat' first|exact At.head|apply At.tail|apply At.right);done);exact rfl)|(apply Ld.old1;exact rfl;exact rfl;assumption;(first|exact List.not_mem_nil|assumption))|(apply Ld.blk1;exact rfl;exact rfl;assumption;(first|exact List.not_mem_nil|assumption);exact rfl)|(apply Ld.blkk;exact rfl;exact rfl;assumption;(first|exact List.not_mem_nil|assumption);exact rfl))|(apply Ok1.assign;exact rfl)|(apply Ok1.indexAddr;(iterate 5 exact rfl);omega;omega)|(apply Ok1.indexAddrA;(iterate 5 exact rfl);omega;omega)|(apply Ok1.convI64;(iterate 5 exact rfl);omega;omega)|(apply Ok1.convU64;(iterate 5 exact rfl);omega;omega)|(apply Ok1.convU32;(iterate 5 exact rfl);omega;omega)|(apply Ok1.convU8;(iterate 5 exact rfl);omega;omega)|(apply Ok1.conv;(iterate 5 exact rfl))))|(apply R.is0;first|fail)|(apply R.isG;first|(apply R.guard_run;exact rfl;exact rfl)|(apply R.guard_not;(iterate 3 exact rfl))|(apply R.guard_not0;exact rfl;exact rfl)|(apply R.guard_un;(iterate 3 exact rfl))|(apply R.guard_un0;exact rfl;exact rfl)|(apply R.guard rfl rfl ?_ (fun h=>⟨rfl,?_⟩)<;>try intro))|apply R.nil|(apply T.is;first|(apply T.drawC (id:=1) [] (by decide);((apply A.tk 0;exact rfl;kernel_rfl;first|(apply Ok1.move;exact rfl))<;>(apply A.tk 1;exact rfl;kernel_rfl;first|(apply Ok1.indexAddrP;(iterate 4 exact rfl);exact hpe;exact rfl;omega;omega)|(apply Ok1.indexAddr;(iterate 5 exact rfl);omega;omega)|(apply Ok1.indexAddrA;(iterate 5 exact rfl);omega;omega))<;>(apply A.tk 2;exact rfl;kernel_rfl;first|(apply Ok1.load;exact rfl;apply Ld.row0 H0;exact rfl;exact List.not_mem_nil;(iterate 3 exact rfl))|(apply Ok1.load;exact rfl;apply Ld.row0 H1;exact rfl;exact List.not_mem_nil;(iterate 3 exact rfl))|(apply Ok1.load;exact rfl;apply Ld.row0 H2;exact rfl;exact List.not_mem_nil;(iterate 3 exact rfl))|(apply Ok1.load;exact rfl;apply Ld.row0 H3;exact rfl;exact List.not_mem_nil;(iterate 3 exact rfl))|(apply Ok1.load;exact rfl;first|(apply Ld.own1;exact rfl;exact rfl;(focus (repeat' first|exact At.head|apply At.tail|apply At.right);done);exact rfl)|(apply Ld.ownk;exact rfl;exact rfl;(focus (repeat' first|exact At.head|apply At.tail|apply At.right);done);exact rfl)|(apply Ld.old1;exact rfl;exact rfl;assumption;(first|exact List.not_mem_nil|assumption))|(apply Ld.blk1;exact rfl;exact rfl;assumption;(first|exact List.not_mem_nil|assumption);exact rfl)|(apply Ld.blkk;exact rfl;exact rfl;assumption;(first|exact List.not_mem_nil|assumption);exact rfl)))<;>(apply A.tk 3;exact rfl;kernel_rfl;first|(apply Ok1.convI64;(iterate 5 exact rfl);omega;omega)|(apply Ok1.convU64;(iterate 5 exact rfl);omega;omega)|(apply Ok1.convU32;(iterate 5 exact rfl);omega;omega)|(apply Ok1.convU8;(iterate 5 exact rfl);omega;omega)|(apply Ok1.conv;(iterate 5 exact rfl)))<;>(apply A.tk 4;exact rfl;kernel_rfl;first|(apply Ok1.shl;exact rfl;exact rfl;omega;exact Nat.le_of_ble_eq_true rfl;exact rfl))<;>(apply A.tk 5;exact rfl;kernel_rfl;first|(apply Ok1.move;exact rfl))<;>(apply A.tk 6;exact rfl;kernel_rfl;first|(apply Ok1.indexAddrP;(iterate 4 exact rfl);exact hpe;exact rfl;omega;omega)|(apply Ok1.indexAddr;(iterate 5 exact rfl);omega;omega)|(apply Ok1.indexAddrA;(iterate 5 exact rfl);omega;omega))<;>(apply A.tk 7;exact rfl;kernel_rfl;first|(apply Ok1.load;exact rfl;apply Ld.row0 H0;exact rfl;exact List.not_mem_nil;(iterate 3 exact rfl))|(apply Ok1.load;exact rfl;apply Ld.row0 H1;exact rfl;exact List.not_mem_nil;(iterate 3 exact rfl))|(apply Ok1.load;exact rfl;apply Ld.row0 H2;exact rfl;exact List.not_mem_nil;(iterate 3 exact rfl))|(apply Ok1.load;exact rfl;apply Ld.row0 H3;exact rfl;exact List.not_mem_nil;(iterate 3 exact rfl))|(apply Ok1.load;exact rfl;first|(apply Ld.own1;exact rfl;exact rfl;(focus (repeat' first|exact At.head|apply At.tail|apply At.right);done);exact rfl)|(apply Ld.ownk;exact rfl;exact rfl;(focus (repeat' first|exact At.head|apply At.tail|apply At.right);done);exact rfl)|(apply Ld.old1;exact rfl;exact rfl;assumption;(first|exact List.not_mem_nil|assumption))|(apply Ld.blk1;exact rfl;exact rfl;assumption;(first|exact List.not_mem_nil|assumption);exact rfl)|(apply Ld.blkk;exact rfl;exact rfl;assumption;(first|exact List.not_mem_nil|assumption);exact rfl)))<;>(apply A.tk 8;exact rfl;kernel_rfl;first|(apply Ok1.convI64;(iterate 5 exact rfl);omega;omega)|(apply Ok1.convU64;(iterate 5 exact rfl);omega;omega)|(apply Ok1.convU32;(iterate 5 exact rfl);omega;omega)|(apply Ok1.convU8;(iterate 5 exact rfl);omega;omega)|(apply Ok1.conv;(iterate 5 exact rfl)))<;>(apply A.tk 9;exact rfl;kernel_rfl;first|(apply Ok1.shl;exact rfl;exact rfl;omega;exact Nat.le_of_ble_eq_true rfl;exact rfl))<;>(apply A.tk 10;exact rfl;kernel_rfl;first|(apply Ok1.orK;exact rfl;exact rfl))<;>(apply A.tk 11;exact rfl;kernel_rfl;first|(apply Ok1.move;exact rfl))<;>(apply A.tk 12;exact rfl;kernel_rfl;first|(apply Ok1.indexAddrP;(iterate 4 exact rfl);exact hpe;exact rfl;omega;omega)|(apply Ok1.indexAddr;(iterate 5 exact rfl);omega;omega)|(apply Ok1.indexAddrA;(iterate 5 exact rfl);omega;omega))<;>(apply A.tk 13;exact rfl;kernel_rfl;first|(apply Ok1.load;exact rfl;apply Ld.row0 H0;exact rfl;exact List.not_mem_nil;(iterate 3 exact rfl))|(apply Ok1.load;exact rfl;apply Ld.row0 H1;exact rfl;exact List.not_mem_nil;(iterate 3 exact rfl))|(apply Ok1.load;exact rfl;apply Ld.row0 H2;exact rfl;exact List.not_mem_nil;(iterate 3 exact rfl))|(apply Ok1.load;exact rfl;apply Ld.row0 H3;exact rfl;exact List.not_mem_nil;(iterate 3 exact rfl))|(apply Ok1.load;exact rfl;first|(apply Ld.own1;exact rfl;exact rfl;(focus (repeat' first|exact At.head|apply At.tail|apply At.right);done);exact rfl)|(apply Ld.ownk;exact rfl;exact rfl;(focus (repeat' first|exact At.head|apply At.tail|apply At.right);done);exact rfl)|(apply Ld.old1;exact rfl;exact rfl;assumption;(first|exact List.not_mem_nil|assumption))|(apply Ld.blk1;exact rfl;exact rfl;assumption;(first|exact List.not_mem_nil|assumption);exact rfl)|(apply Ld.blkk;exact rfl;exact rfl;assumption;(first|exact List.not_mem_nil|assumption);exact rfl)))<;>(apply A.tk 14;exact rfl;kernel_rfl;first|(apply Ok1.convI64;(iterate 5 exact rfl);omega;omega)|(apply Ok1.convU64;(iterate 5 exact rfl);omega;omega)|(apply Ok1.convU32;(iterate 5 exact rfl);omega;omega)|(apply Ok1.convU8;(iterate 5 exact rfl);omega;omega)|(apply Ok1.conv;(iterate 5 exact rfl)))<;>(apply A.tk 15;exact rfl;kernel_rfl;first|(apply Ok1.shl;exact rfl;exact rfl;omega;exact Nat.le_of_ble_eq_true rfl;exact rfl))<;>(apply A.tk 16;exact rfl;kernel_rfl;first|(apply Ok1.orK;exact rfl;exact rfl))<;>(apply A.tk 17;exact rfl;kernel_rfl;first|(apply Ok1.move;exact rfl))<;>(apply A.tk 18;exact rfl;kernel_rfl;first|(apply Ok1.indexAddrP;(iterate 4 exact rfl);exact hpe;exact rfl;omega;omega)|(apply Ok1.indexAddr;(iterate 5 exact rfl);omega;omega)|(apply Ok1.indexAddrA;(iterate 5 exact rfl);omega;omega))<;>(apply A.tk 19;exact rfl;kernel_rfl;first|(apply Ok1.load;exact rfl;apply Ld.row0 H0;exact rfl;exact List.not_mem_nil;(iterate 3 exact rfl))|(apply Ok1.load;exact rfl;apply Ld.row0 H1;exact rfl;exact List.not_mem_nil;(iterate 3 exact rfl))|(apply Ok1.load;exact rfl;apply Ld.row0 H2;exact rfl;exact List.not_mem_nil;(iterate 3 exact rfl))|(apply Ok1.load;exact rfl;apply Ld.row0 H3;exact rfl;exact List.not_mem_nil;(iterate 3 exact rfl))|(apply Ok1.load;exact rfl;first|(apply Ld.own1;exact rfl;exact rfl;(focus (repeat' first|exact At.head|apply At.tail|apply At.right);done);exact rfl)|(apply Ld.ownk;exact rfl;exact rfl;(focus (repeat' first|exact At.head|apply At.tail|apply At.right);done);exact rfl)|(apply Ld.old1;exact rfl;exact rfl;assumption;(first|exact List.not_mem_nil|assumption))|(apply Ld.blk1;exact rfl;exact rfl;assumption;(first|exact List.not_mem_nil|assumption);exact rfl)|(apply Ld.blkk;exact rfl;exact rfl;assumption;(first|exact List.not_mem_nil|assumption);exact rfl)))<;>(apply A.tk 20;exact rfl;kernel_rfl;first|(apply Ok1.convI64;(iterate 5 exact rfl);omega;omega)|(apply Ok1.convU64;(iterate 5 exact rfl);omega;omega)|(apply Ok1.convU32;(iterate 5 exact rfl);omega;omega)|(apply Ok1.convU8;(iterate 5 exact rfl);omega;omega)|(apply Ok1.conv;(iterate 5 exact rfl)))<;>(apply A.tk 21;exact rfl;kernel_rfl;first|(apply Ok1.orK;exact rfl;exact rfl))<;>(apply A.tk 22;exact rfl;kernel_rfl;first|(apply Ok1.assign;exact rfl))<;>(apply A.done;kernel_rfl)))|apply T.seq|apply T.region|apply T.block|apply T.scope|apply T.label|apply T.skip|apply T.exit|apply T.ret|(apply T.cond_t;exact rfl)|(apply T.cond_f;exact rfl)|(apply T.cond_h;exact rfl;assumption)|(apply T.cond_n;exact rfl;assumption)|(apply T.cond rfl<;>intro))|apply Rnd.step)
  (apply RetOk.t;exact rfl)
  exact congrArg _ (word_or ⟨l0,u0⟩ ⟨l1,u1⟩ ⟨l2,u2⟩ ⟨l3,u3⟩)
theorem u32s_app (a b:List Int):u32s (a++b)=u32s a++u32s b:=by simp [u32s]
theorem u32s_one (a:List Int):(u32s a).all Value.oneCell'=true:=by rw [List.all_eq_true];intro x hx;obtain ⟨y,_,rfl⟩:=List.mem_map.1 hx;rfl
theorem u32s_len (a:List Int):(u32s a).length=a.length:=by simp [u32s]
theorem arr_get {l:List Int} {zs:List Value} {k:Nat} (h:k < l.length):(u32s l++zs)[0+k * 1]? = some (.int .u32 (l.getD k 0)):=by
  rw [Nat.zero_add,Nat.mul_one,List.getElem?_append_left (by rw [u32s_len];exact h)]
  simp [u32s,h]
theorem arr_put (l:List Int) (x:Int) (z:Value) {k:Nat}:setE (u32s l++List.replicate (k+1) z) (0+l.length * 1) [.int .u32 x]=some (u32s (l++[x])++List.replicate k z):=by
  have:=setE_mid (u32s l) (vs:=[.int .u32 x]) (junk:=List.replicate (k+1) z) (by simp)
  rw [u32s_len] at this
  rw [Nat.zero_add,Nat.mul_one,this,u32s_app]
  rfl
theorem spread_ok (p:Option Addr) (n cap:Nat) (b:List Int) (hn:n=b.length) (hl:b.length=64) (hcap:n≤cap) (hb:Byt b) (w:World) (hp:RdSl w p u8V b):CallW Tryz.prog 111 [.slice p n cap] w fun v _=>v = .agg ⟨u32s (schedI b 64)⟩:=by
  refine enterW (tb:=tb) Tryz.func111 rfl Tryz.ntmps111 rfl ?_
  repeat' (first|(apply R.is1;first|(apply R.isBin;first|(apply R.pure;exact rfl;first|(apply Ok1.add64;exact rfl;exact rfl;omega;omega)|(apply Ok1.sub64;exact rfl;exact rfl;omega;omega)|(apply Ok1.lss_t;exact rfl;exact rfl;omega)|(apply Ok1.lss_f;exact rfl;exact rfl;omega)|(apply Ok1.mul64;exact rfl;exact rfl;omega;omega)|(apply Ok1.shr;exact rfl;exact rfl;omega;exact Nat.le_of_ble_eq_true rfl;(first|exact pwE1|exact pwE2|exact pwE3|exact pwE4|exact pwE5|exact pwE6|exact pwE7|exact pwE8|exact pwE16|exact pwE24|exact pwE32|exact rfl)))|(apply R.lss rfl rfl rfl<;>intro))|(apply R.pure;exact rfl;first|(apply Ok1.move;exact rfl)|(apply Ok1.load;exact rfl;first|(apply Ld.own1;exact rfl;exact rfl;(focus (repeat' first|exact At.head|apply At.tail|apply At.right);done);exact rfl)|(apply Ld.ownk;exact rfl;exact rfl;(focus (repeat' first|exact At.head|apply At.tail|apply At.right);done);exact rfl)|(apply Ld.old1;exact rfl;exact rfl;assumption;(first|exact List.not_mem_nil|assumption))|(apply Ld.blk1;exact rfl;exact rfl;assumption;(first|exact List.not_mem_nil|assumption);exact rfl)|(apply Ld.blkk;exact rfl;exact rfl;assumption;(first|exact List.not_mem_nil|assumption);exact rfl))|(apply Ok1.assign;exact rfl)|(apply Ok1.indexAddr;(iterate 5 exact rfl);omega;omega)|(apply Ok1.indexAddrA;(iterate 5 exact rfl);omega;omega)|(apply Ok1.slice0;(iterate 7 exact rfl);(refine ⟨?_,?_,?_⟩<;>omega);(first|exact Or.inl rfl|exact Or.inr (fun e=>by cases e)))|(apply Ok1.sliceTo;(iterate 6 exact rfl);omega;omega;omega;(first|exact Or.inl rfl|exact Or.inr (fun e=>by cases e)))|(apply Ok1.sliceFrom;(iterate 7 exact rfl);omega;omega;omega;omega;omega;(first|exact Or.inl rfl|exact Or.inr (fun e=>by cases e))))|(apply R.alloc;(iterate 3 exact rfl);intro))|(apply R.is0;first|(apply R.store;(iterate 6 exact rfl);(focus (repeat' first|exact Upd.head|apply Upd.tail|apply Upd.right);done);exact rfl)|fail)|(apply R.isG;first|(apply R.guard_run;exact rfl;exact rfl)|(apply R.guard_not;(iterate 3 exact rfl))|(apply R.guard_not0;exact rfl;exact rfl)|(apply R.guard_un;(iterate 3 exact rfl))|(apply R.guard_un0;exact rfl;exact rfl)|(apply R.guard rfl rfl ?_ (fun h=>⟨rfl,?_⟩)<;>try intro))|apply R.nil|(apply T.is;first|apply T.seq|apply T.region|apply T.block|apply T.scope|apply T.label|apply T.skip|apply T.exit|apply T.ret|(apply T.cond_t;exact rfl)|(apply T.cond_f;exact rfl)|(apply T.cond_h;exact rfl;assumption)|(apply T.cond_n;exact rfl;assumption)|(apply T.cond rfl<;>intro))|apply Rnd.step)
  rename_i b2 b3
  apply T.loopK (α:=Nat) (I:=fun i=>i≤64) (σi:=fun i=>[(0,.slice p n cap),(2,.pointer (some ⟨b2,0,none⟩)),(3,.pointer (some ⟨b3,0,none⟩)),(9,.int .i64 i)]) (Li:=fun i=>[(b3,.cells ⟨u32s (schedI b i)++List.replicate (64 - i) (.int .u32 0)⟩ 217 (0,0)),(b2,.cells ⟨List.replicate 64 (.int .u32 0)⟩ 217 (0,0))]) (μ:=fun i=>64 - i) (i0:=0)
  · exact Nat.zero_le _
  · exact ⟨rfl,rfl,rfl,rfl,trivial⟩
  · (focus (repeat' first|exact Keep.nil _|exact Ext.one _ _|exact Ext.here _ _|exact Ext.all _|apply Keep.cons|apply Keep.app|apply Keep.last|apply Ext.cons|apply Ext.app);done)
  · intro i hi
    have hsl:=sched_len b i
    have hsn:schedI b (i+1)=schedI b i++[nextI b (schedI b i)]:=rfl
    have hnx:nextI b (schedI b i)=nextI b (schedI b i):=rfl
    conv at hnx=>rhs;unfold nextI
    generalize hleq:schedI b i=l at *
    rcases Nat.lt_or_ge i 64 with hlt|hge
    · obtain ⟨k,hk⟩:∃ k,64 - i=k+1:=⟨63 - i,by omega⟩
      have hput:=fun x=>arr_put l x (.int .u32 0) (k:=k)
      rw [hsl] at hput
      rw [hk]
      rcases Nat.lt_or_ge i 16 with h16|h16
      · rw [if_pos (by omega),hsl] at hnx
        have hwd:∀ w1,Chg [] w w1→CallW Tryz.prog 125 [.slice (sufP p cap (4 * i) 1) (n - 4 * i) (cap - 4 * i)] w1 fun v _=>v = .int .u32 (nextI b l):=by
          intro w1 hc
          have:=word_ok (sufP p cap (4 * i) 1) (n - 4 * i) (cap - 4 * i) (b.drop (4 * i)) (by rw [List.length_drop,hn]) (by rw [List.length_drop];omega) (fun x hx=>hb x (List.mem_of_mem_drop hx)) w1 ((hp.suf u8V_len (by omega) (by omega)).chg hc (Off.nil _))
          rw [hnx]
          simpa only [List.getD_eq_getElem?_getD,List.getElem?_drop,Nat.add_zero] using this
        repeat' (first|(apply R.is1;first|(apply R.isBin;first|(apply R.pure;exact rfl;first|(apply Ok1.add64;exact rfl;exact rfl;omega;omega)|(apply Ok1.sub64;exact rfl;exact rfl;omega;omega)|(apply Ok1.lss_t;exact rfl;exact rfl;omega)|(apply Ok1.lss_f;exact rfl;exact rfl;omega)|(apply Ok1.mul64;exact rfl;exact rfl;omega;omega)|(apply Ok1.shr;exact rfl;exact rfl;omega;exact Nat.le_of_ble_eq_true rfl;(first|exact pwE1|exact pwE2|exact pwE3|exact pwE4|exact pwE5|exact pwE6|exact pwE7|exact pwE8|exact pwE16|exact pwE24|exact pwE32|exact rfl)))|(apply R.lss rfl rfl rfl<;>intro))|(apply R.isCall;first|(apply R.callV;(iterate 3 exact rfl);intro w1 hw1;exact hwd w1 hw1.chg))|(apply R.pure;exact rfl;first|(apply Ok1.sufR (i:=4 * i) (sz:=1);(iterate 6 exact rfl);omega;omega)|(apply Ok1.move;exact rfl)|(apply Ok1.load;exact rfl;first|(apply Ld.own1;exact rfl;exact rfl;(focus (repeat' first|exact At.head|apply At.tail|apply At.right);done);exact rfl)|(apply Ld.ownk;exact rfl;exact rfl;(focus (repeat' first|exact At.head|apply At.tail|apply At.right);done);exact rfl)|(apply Ld.old1;exact rfl;exact rfl;assumption;(first|exact List.not_mem_nil|assumption))|(apply Ld.blk1;exact rfl;exact rfl;assumption;(first|exact List.not_mem_nil|assumption);exact rfl)|(apply Ld.blkk;exact rfl;exact rfl;assumption;(first|exact List.not_mem_nil|assumption);exact rfl))|(apply Ok1.assign;exact rfl)|(apply Ok1.indexAddr;(iterate 5 exact rfl);omega;omega)|(apply Ok1.indexAddrA;(iterate 5 exact rfl);omega;omega)|(apply Ok1.slice0;(iterate 7 exact rfl);(refine ⟨?_,?_,?_⟩<;>omega);(first|exact Or.inl rfl|exact Or.inr (fun e=>by cases e)))|(apply Ok1.sliceTo;(iterate 6 exact rfl);omega;omega;omega;(first|exact Or.inl rfl|exact Or.inr (fun e=>by cases e)))|(apply Ok1.sliceFrom;(iterate 7 exact rfl);omega;omega;omega;omega;omega;(first|exact Or.inl rfl|exact Or.inr (fun e=>by cases e))))|(apply R.alloc;(iterate 3 exact rfl);intro))|(apply R.is0;first|(apply R.store;(iterate 6 exact rfl);(focus (repeat' first|exact Upd.head|apply Upd.tail|apply Upd.right);done);exact hput _)|(apply R.store;(iterate 6 exact rfl);(focus (repeat' first|exact Upd.head|apply Upd.tail|apply Upd.right);done);exact rfl)|fail)|(apply R.isG;first|(apply R.guard_run;exact rfl;exact rfl)|(apply R.guard_not;(iterate 3 exact rfl))|(apply R.guard_not0;exact rfl;exact rfl)|(apply R.guard_un;(iterate 3 exact rfl))|(apply R.guard_un0;exact rfl;exact rfl)|(apply R.guard rfl rfl ?_ (fun h=>⟨rfl,?_⟩)<;>try intro))|apply R.nil|(apply T.is;first|apply T.seq|apply T.region|apply T.block|apply T.scope|apply T.label|apply T.skip|apply T.exit|apply T.ret|(apply T.cond_t;exact rfl)|(apply T.cond_f;exact rfl)|(apply T.cond_h;exact rfl;assumption)|(apply T.cond_n;exact rfl;assumption)|(apply T.cond rfl<;>intro))|apply Rnd.step)
        refine ⟨i+1,by omega,by omega,⟨rfl,rfl,rfl,rfl,trivial⟩,?_⟩
        rw [hsn,show 64 - (i+1)=k by omega]
        (focus (repeat' first|exact Keep.nil _|exact Ext.one _ _|exact Ext.here _ _|exact Ext.all _|apply Keep.cons|apply Keep.app|apply Keep.last|apply Ext.cons|apply Ext.app);done)
      · rw [if_neg (by omega),hsl] at hnx
        have e15:((i:Int) - 15).toNat=i - 15:=by omega
        have e2:((i:Int) - 2).toNat=i - 2:=by omega
        have e16:((i:Int) - 16).toNat=i - 16:=by omega
        have e7:((i:Int) - 7).toNat=i - 7:=by omega
        have g15:(u32s l++List.replicate (k+1) (.int .u32 0))[0+((i:Int) - 15).toNat * 1]? = some (.int .u32 (l.getD (i - 15) 0)):=by rw [e15];exact arr_get (by omega)
        have g2:(u32s l++List.replicate (k+1) (.int .u32 0))[0+((i:Int) - 2).toNat * 1]? = some (.int .u32 (l.getD (i - 2) 0)):=by rw [e2];exact arr_get (by omega)
        have g16:(u32s l++List.replicate (k+1) (.int .u32 0))[0+((i:Int) - 16).toNat * 1]? = some (.int .u32 (l.getD (i - 16) 0)):=by rw [e16];exact arr_get (by omega)
        have g7:(u32s l++List.replicate (k+1) (.int .u32 0))[0+((i:Int) - 7).toNat * 1]? = some (.int .u32 (l.getD (i - 7) 0)):=by rw [e7];exact arr_get (by omega)
        generalize l.getD (i - 15) 0=x15 at *
        generalize l.getD (i - 2) 0=x2 at *
        generalize l.getD (i - 16) 0=x16 at *
        generalize l.getD (i - 7) 0=x7 at *
        repeat' (first|(apply R.is1;first|(apply R.isBin;first|(apply R.pure;exact rfl;first|(apply Ok1.xorK;exact rfl;exact rfl)|(apply Ok1.add32;exact rfl;exact rfl)|(apply Ok1.add64;exact rfl;exact rfl;omega;omega)|(apply Ok1.sub64;exact rfl;exact rfl;omega;omega)|(apply Ok1.lss_t;exact rfl;exact rfl;omega)|(apply Ok1.lss_f;exact rfl;exact rfl;omega)|(apply Ok1.mul64;exact rfl;exact rfl;omega;omega)|(apply Ok1.shr;exact rfl;exact rfl;omega;exact Nat.le_of_ble_eq_true rfl;(first|exact pwE1|exact pwE2|exact pwE3|exact pwE4|exact pwE5|exact pwE6|exact pwE7|exact pwE8|exact pwE16|exact pwE24|exact pwE32|exact rfl)))|(apply R.lss rfl rfl rfl<;>intro))|(apply R.isCall;first|apply R.callP rfl rfl rfl (rot_ok x15 (-7) 25 128 33554432 (by decide +kernel) (by decide) (by decide) rfl rfl)|apply R.callP rfl rfl rfl (rot_ok x15 (-18) 14 262144 16384 (by decide +kernel) (by decide) (by decide) rfl rfl)|apply R.callP rfl rfl rfl (rot_ok x2 (-17) 15 131072 32768 (by decide +kernel) (by decide) (by decide) rfl rfl)|apply R.callP rfl rfl rfl (rot_ok x2 (-19) 13 524288 8192 (by decide +kernel) (by decide) (by decide) rfl rfl))|(apply R.pure;exact rfl;first|(apply Ok1.load;exact rfl;apply Ld.own1;exact rfl;exact rfl;(focus (repeat' first|exact At.head|apply At.tail|apply At.right);done);with_reducible (first|exact g15|exact g2|exact g16|exact g7))|(apply Ok1.move;exact rfl)|(apply Ok1.load;exact rfl;first|(apply Ld.own1;exact rfl;exact rfl;(focus (repeat' first|exact At.head|apply At.tail|apply At.right);done);exact rfl)|(apply Ld.ownk;exact rfl;exact rfl;(focus (repeat' first|exact At.head|apply At.tail|apply At.right);done);exact rfl)|(apply Ld.old1;exact rfl;exact rfl;assumption;(first|exact List.not_mem_nil|assumption))|(apply Ld.blk1;exact rfl;exact rfl;assumption;(first|exact List.not_mem_nil|assumption);exact rfl)|(apply Ld.blkk;exact rfl;exact rfl;assumption;(first|exact List.not_mem_nil|assumption);exact rfl))|(apply Ok1.assign;exact rfl)|(apply Ok1.indexAddr;(iterate 5 exact rfl);omega;omega)|(apply Ok1.indexAddrA;(iterate 5 exact rfl);omega;omega)|(apply Ok1.slice0;(iterate 7 exact rfl);(refine ⟨?_,?_,?_⟩<;>omega);(first|exact Or.inl rfl|exact Or.inr (fun e=>by cases e)))|(apply Ok1.sliceTo;(iterate 6 exact rfl);omega;omega;omega;(first|exact Or.inl rfl|exact Or.inr (fun e=>by cases e)))|(apply Ok1.sliceFrom;(iterate 7 exact rfl);omega;omega;omega;omega;omega;(first|exact Or.inl rfl|exact Or.inr (fun e=>by cases e))))|(apply R.alloc;(iterate 3 exact rfl);intro))|(apply R.is0;first|(apply R.store;(iterate 6 exact rfl);(focus (repeat' first|exact Upd.head|apply Upd.tail|apply Upd.right);done);exact hput _)|(apply R.store;(iterate 6 exact rfl);(focus (repeat' first|exact Upd.head|apply Upd.tail|apply Upd.right);done);exact rfl)|fail)|(apply R.isG;first|(apply R.guard_run;exact rfl;exact rfl)|(apply R.guard_not;(iterate 3 exact rfl))|(apply R.guard_not0;exact rfl;exact rfl)|(apply R.guard_un;(iterate 3 exact rfl))|(apply R.guard_un0;exact rfl;exact rfl)|(apply R.guard rfl rfl ?_ (fun h=>⟨rfl,?_⟩)<;>try intro))|apply R.nil|(apply T.is;first|(apply T.drawC (id:=7) [0] (by decide);((apply A.tk 0;exact rfl;kernel_rfl;first|(apply Ok1.move;exact rfl))<;>(apply A.tk 1;exact rfl;kernel_rfl;first|(apply Ok1.sub64;exact rfl;exact rfl;omega;omega))<;>(apply A.tk 2;exact rfl;kernel_rfl;first|(apply Ok1.indexAddr;(iterate 5 exact rfl);omega;omega)|(apply Ok1.indexAddrA;(iterate 5 exact rfl);omega;omega))<;>(apply A.tk 3;exact rfl;kernel_rfl;first|(apply Ok1.load;exact rfl;apply Ld.own1;exact rfl;exact rfl;(focus (repeat' first|exact At.head|apply At.tail|apply At.right);done);with_reducible (first|exact g15|exact g2|exact g16|exact g7))|(apply Ok1.load;exact rfl;first|(apply Ld.own1;exact rfl;exact rfl;(focus (repeat' first|exact At.head|apply At.tail|apply At.right);done);exact rfl)|(apply Ld.ownk;exact rfl;exact rfl;(focus (repeat' first|exact At.head|apply At.tail|apply At.right);done);exact rfl)|(apply Ld.old1;exact rfl;exact rfl;assumption;(first|exact List.not_mem_nil|assumption))|(apply Ld.blk1;exact rfl;exact rfl;assumption;(first|exact List.not_mem_nil|assumption);exact rfl)|(apply Ld.blkk;exact rfl;exact rfl;assumption;(first|exact List.not_mem_nil|assumption);exact rfl)))<;>(apply A.tk 4;exact rfl;kernel_rfl;first|(apply Ok1.move;exact rfl))<;>(apply A.tk 5;exact rfl;kernel_rfl;first|(apply Ok1.sub64;exact rfl;exact rfl;omega;omega))<;>(apply A.tk 6;exact rfl;kernel_rfl;first|(apply Ok1.indexAddr;(iterate 5 exact rfl);omega;omega)|(apply Ok1.indexAddrA;(iterate 5 exact rfl);omega;omega))<;>(apply A.tk 7;exact rfl;kernel_rfl;first|(apply Ok1.load;exact rfl;apply Ld.own1;exact rfl;exact rfl;(focus (repeat' first|exact At.head|apply At.tail|apply At.right);done);with_reducible (first|exact g15|exact g2|exact g16|exact g7))|(apply Ok1.load;exact rfl;first|(apply Ld.own1;exact rfl;exact rfl;(focus (repeat' first|exact At.head|apply At.tail|apply At.right);done);exact rfl)|(apply Ld.ownk;exact rfl;exact rfl;(focus (repeat' first|exact At.head|apply At.tail|apply At.right);done);exact rfl)|(apply Ld.old1;exact rfl;exact rfl;assumption;(first|exact List.not_mem_nil|assumption))|(apply Ld.blk1;exact rfl;exact rfl;assumption;(first|exact List.not_mem_nil|assumption);exact rfl)|(apply Ld.blkk;exact rfl;exact rfl;assumption;(first|exact List.not_mem_nil|assumption);exact rfl)))<;>(apply A.tk 8;exact rfl;kernel_rfl;first|(apply Ok1.assign;exact rfl))<;>(apply A.tk 9;exact rfl;kernel_rfl;first|(apply Ok1.assign;exact rfl))<;>(apply A.done;kernel_rfl)))|(apply T.drawC (id:=10) [] (by decide);((apply A.tk 0;exact rfl;kernel_rfl;first|(apply Ok1.move;exact rfl))<;>(apply A.tk 1;exact rfl;kernel_rfl;first|(apply Ok1.move;exact rfl))<;>(apply A.tk 2;exact rfl;kernel_rfl;first|(apply Ok1.sub64;exact rfl;exact rfl;omega;omega))<;>(apply A.tk 3;exact rfl;kernel_rfl;first|(apply Ok1.indexAddr;(iterate 5 exact rfl);omega;omega)|(apply Ok1.indexAddrA;(iterate 5 exact rfl);omega;omega))<;>(apply A.tk 5;exact rfl;kernel_rfl;first|(apply Ok1.move;exact rfl))<;>(apply A.tk 7;exact rfl;kernel_rfl;first|(apply Ok1.move;exact rfl))<;>(apply A.tk 8;exact rfl;kernel_rfl;first|(apply Ok1.sub64;exact rfl;exact rfl;omega;omega))<;>(apply A.tk 9;exact rfl;kernel_rfl;first|(apply Ok1.indexAddr;(iterate 5 exact rfl);omega;omega)|(apply Ok1.indexAddrA;(iterate 5 exact rfl);omega;omega))<;>(apply A.tk 12;exact rfl;kernel_rfl;first|(apply Ok1.move;exact rfl))<;>(apply A.two 4 10;kernel_rfl;exact rfl;exact rfl;rotate_left 1;(focus ((((first|(apply R.pure;exact rfl;first|(apply Ok1.load;exact rfl;apply Ld.own1;exact rfl;exact rfl;(focus (repeat' first|exact At.head|apply At.tail|apply At.right);done);with_reducible (first|exact g15|exact g2|exact g16|exact g7))|(apply Ok1.load;exact rfl;first|(apply Ld.own1;exact rfl;exact rfl;(focus (repeat' first|exact At.head|apply At.tail|apply At.right);done);exact rfl)|(apply Ld.ownk;exact rfl;exact rfl;(focus (repeat' first|exact At.head|apply At.tail|apply At.right);done);exact rfl)|(apply Ld.old1;exact rfl;exact rfl;assumption;(first|exact List.not_mem_nil|assumption))|(apply Ld.blk1;exact rfl;exact rfl;assumption;(first|exact List.not_mem_nil|assumption);exact rfl)|(apply Ld.blkk;exact rfl;exact rfl;assumption;(first|exact List.not_mem_nil|assumption);exact rfl)))|fail));apply R.nil;refine ⟨?_,?_⟩;(focus (repeat' first|exact trivial|exact At.head|apply At.tail|apply At.right|refine ⟨?_,?_⟩)))<;>(apply A.one 4;kernel_rfl;exact rfl;((first|(apply R.pure;exact rfl;first|(apply Ok1.load;exact rfl;apply Ld.own1;exact rfl;exact rfl;(focus (repeat' first|exact At.head|apply At.tail|apply At.right);done);with_reducible (first|exact g15|exact g2|exact g16|exact g7))|(apply Ok1.load;exact rfl;first|(apply Ld.own1;exact rfl;exact rfl;(focus (repeat' first|exact At.head|apply At.tail|apply At.right);done);exact rfl)|(apply Ld.ownk;exact rfl;exact rfl;(focus (repeat' first|exact At.head|apply At.tail|apply At.right);done);exact rfl)|(apply Ld.old1;exact rfl;exact rfl;assumption;(first|exact List.not_mem_nil|assumption))|(apply Ld.blk1;exact rfl;exact rfl;assumption;(first|exact List.not_mem_nil|assumption);exact rfl)|(apply Ld.blkk;exact rfl;exact rfl;assumption;(first|exact List.not_mem_nil|assumption);exact rfl)))|fail));apply R.nil;refine ⟨?_,?_⟩;(focus (repeat' first|exact trivial|exact At.head|apply At.tail|apply At.right|refine ⟨?_,?_⟩)))<;>(apply A.tk 6;exact rfl;kernel_rfl;first|(apply Ok1.add32;exact rfl;exact rfl)|(apply Ok1.add64;exact rfl;exact rfl;omega;omega))<;>(apply A.tk 11;exact rfl;kernel_rfl;first|(apply Ok1.add32;exact rfl;exact rfl)|(apply Ok1.add64;exact rfl;exact rfl;omega;omega))<;>(apply A.tk 13;exact rfl;kernel_rfl;first|(apply Ok1.add32;exact rfl;exact rfl)|(apply Ok1.add64;exact rfl;exact rfl;omega;omega))<;>(apply A.tk 14;exact rfl;kernel_rfl;first|(apply Ok1.indexAddr;(iterate 5 exact rfl);omega;omega)|(apply Ok1.indexAddrA;(iterate 5 exact rfl);omega;omega))<;>(apply A.one 15;kernel_rfl;exact rfl;((first|(apply R.store;(iterate 6 exact rfl);(focus (repeat' first|exact Upd.head|apply Upd.tail|apply Upd.right);done);exact hput _)|(apply R.store;(iterate 6 exact rfl);(focus (repeat' first|exact Upd.head|apply Upd.tail|apply Upd.right);done);exact rfl)|fail));apply R.nil;refine ⟨?_,?_⟩;(focus (repeat' first|exact trivial|exact At.head|apply At.tail|apply At.right|refine ⟨?_,?_⟩)))<;>(apply A.done;kernel_rfl)));rotate_right 1;(focus ((((first|(apply R.pure;exact rfl;first|(apply Ok1.load;exact rfl;apply Ld.own1;exact rfl;exact rfl;(focus (repeat' first|exact At.head|apply At.tail|apply At.right);done);with_reducible (first|exact g15|exact g2|exact g16|exact g7))|(apply Ok1.load;exact rfl;first|(apply Ld.own1;exact rfl;exact rfl;(focus (repeat' first|exact At.head|apply At.tail|apply At.right);done);exact rfl)|(apply Ld.ownk;exact rfl;exact rfl;(focus (repeat' first|exact At.head|apply At.tail|apply At.right);done);exact rfl)|(apply Ld.old1;exact rfl;exact rfl;assumption;(first|exact List.not_mem_nil|assumption))|(apply Ld.blk1;exact rfl;exact rfl;assumption;(first|exact List.not_mem_nil|assumption);exact rfl)|(apply Ld.blkk;exact rfl;exact rfl;assumption;(first|exact List.not_mem_nil|assumption);exact rfl)))|fail));apply R.nil;refine ⟨?_,?_⟩;(focus (repeat' first|exact trivial|exact At.head|apply At.tail|apply At.right|refine ⟨?_,?_⟩)))<;>(apply A.tk 6;exact rfl;kernel_rfl;first|(apply Ok1.add32;exact rfl;exact rfl)|(apply Ok1.add64;exact rfl;exact rfl;omega;omega))<;>(apply A.one 10;kernel_rfl;exact rfl;((first|(apply R.pure;exact rfl;first|(apply Ok1.load;exact rfl;apply Ld.own1;exact rfl;exact rfl;(focus (repeat' first|exact At.head|apply At.tail|apply At.right);done);with_reducible (first|exact g15|exact g2|exact g16|exact g7))|(apply Ok1.load;exact rfl;first|(apply Ld.own1;exact rfl;exact rfl;(focus (repeat' first|exact At.head|apply At.tail|apply At.right);done);exact rfl)|(apply Ld.ownk;exact rfl;exact rfl;(focus (repeat' first|exact At.head|apply At.tail|apply At.right);done);exact rfl)|(apply Ld.old1;exact rfl;exact rfl;assumption;(first|exact List.not_mem_nil|assumption))|(apply Ld.blk1;exact rfl;exact rfl;assumption;(first|exact List.not_mem_nil|assumption);exact rfl)|(apply Ld.blkk;exact rfl;exact rfl;assumption;(first|exact List.not_mem_nil|assumption);exact rfl)))|fail));apply R.nil;refine ⟨?_,?_⟩;(focus (repeat' first|exact trivial|exact At.head|apply At.tail|apply At.right|refine ⟨?_,?_⟩)))<;>(apply A.tk 11;exact rfl;kernel_rfl;first|(apply Ok1.add32;exact rfl;exact rfl)|(apply Ok1.add64;exact rfl;exact rfl;omega;omega))<;>(apply A.tk 13;exact rfl;kernel_rfl;first|(apply Ok1.add32;exact rfl;exact rfl)|(apply Ok1.add64;exact rfl;exact rfl;omega;omega))<;>(apply A.tk 14;exact rfl;kernel_rfl;first|(apply Ok1.indexAddr;(iterate 5 exact rfl);omega;omega)|(apply Ok1.indexAddrA;(iterate 5 exact rfl);omega;omega))<;>(apply A.one 15;kernel_rfl;exact rfl;((first|(apply R.store;(iterate 6 exact rfl);(focus (repeat' first|exact Upd.head|apply Upd.tail|apply Upd.right);done);exact hput _)|(apply R.store;(iterate 6 exact rfl);(focus (repeat' first|exact Upd.head|apply Upd.tail|apply Upd.right);done);exact rfl)|fail));apply R.nil;refine ⟨?_,?_⟩;(focus (repeat' first|exact trivial|exact At.head|apply At.tail|apply At.right|refine ⟨?_,?_⟩)))<;>(apply A.done;kernel_rfl))))))|apply T.seq|apply T.region|apply T.block|apply T.scope|apply T.label|apply T.skip|apply T.exit|apply T.ret|(apply T.cond_t;exact rfl)|(apply T.cond_f;exact rfl)|(apply T.cond_h;exact rfl;assumption)|(apply T.cond_n;exact rfl;assumption)|(apply T.cond rfl<;>intro))|apply Rnd.step)
        all_goals refine ⟨i+1,by omega,by omega,⟨rfl,rfl,rfl,rfl,trivial⟩,?_⟩
        all_goals rw [hsn,hnx,show 64 - (i+1)=k by omega]
        all_goals (focus (repeat' first|exact Keep.nil _|exact Ext.one _ _|exact Ext.here _ _|exact Ext.all _|apply Keep.cons|apply Keep.app|apply Keep.last|apply Ext.cons|apply Ext.app);done)
    · have him:i=64:=by omega
      subst him
      rw [Nat.sub_self,List.replicate_zero,List.append_nil]
      rw [hleq]
      have hls:=u32s_len l
      rw [hsl] at hls
      have hsub:=subE_all hls
      have hset:∀ cs:List Value,cs.length=64→setE cs 0 (u32s l)=some (u32s l):=fun cs h=>setE_all (by rw [hls,h])
      have hone:=u32s_one l
      generalize u32s l=us at *
      repeat' (first|(apply R.is1;first|(apply R.isBin;first|(apply R.pure;exact rfl;first|(apply Ok1.add64;exact rfl;exact rfl;omega;omega)|(apply Ok1.sub64;exact rfl;exact rfl;omega;omega)|(apply Ok1.lss_t;exact rfl;exact rfl;omega)|(apply Ok1.lss_f;exact rfl;exact rfl;omega)|(apply Ok1.mul64;exact rfl;exact rfl;omega;omega)|(apply Ok1.shr;exact rfl;exact rfl;omega;exact Nat.le_of_ble_eq_true rfl;(first|exact pwE1|exact pwE2|exact pwE3|exact pwE4|exact pwE5|exact pwE6|exact pwE7|exact pwE8|exact pwE16|exact pwE24|exact pwE32|exact rfl)))|(apply R.lss rfl rfl rfl<;>intro))|(apply R.pure;exact rfl;first|(apply Ok1.load;exact rfl;apply Ld.ownk;exact rfl;exact rfl;(focus (repeat' first|exact At.head|apply At.tail|apply At.right);done);exact hsub)|(apply Ok1.move;exact rfl)|(apply Ok1.load;exact rfl;first|(apply Ld.own1;exact rfl;exact rfl;(focus (repeat' first|exact At.head|apply At.tail|apply At.right);done);exact rfl)|(apply Ld.ownk;exact rfl;exact rfl;(focus (repeat' first|exact At.head|apply At.tail|apply At.right);done);exact rfl)|(apply Ld.old1;exact rfl;exact rfl;assumption;(first|exact List.not_mem_nil|assumption))|(apply Ld.blk1;exact rfl;exact rfl;assumption;(first|exact List.not_mem_nil|assumption);exact rfl)|(apply Ld.blkk;exact rfl;exact rfl;assumption;(first|exact List.not_mem_nil|assumption);exact rfl))|(apply Ok1.assign;exact rfl)|(apply Ok1.indexAddr;(iterate 5 exact rfl);omega;omega)|(apply Ok1.indexAddrA;(iterate 5 exact rfl);omega;omega)|(apply Ok1.slice0;(iterate 7 exact rfl);(refine ⟨?_,?_,?_⟩<;>omega);(first|exact Or.inl rfl|exact Or.inr (fun e=>by cases e)))|(apply Ok1.sliceTo;(iterate 6 exact rfl);omega;omega;omega;(first|exact Or.inl rfl|exact Or.inr (fun e=>by cases e)))|(apply Ok1.sliceFrom;(iterate 7 exact rfl);omega;omega;omega;omega;omega;(first|exact Or.inl rfl|exact Or.inr (fun e=>by cases e))))|(apply R.alloc;(iterate 3 exact rfl);intro))|(apply R.is0;first|(apply R.store;(iterate 4 exact rfl);exact hls;exact hone;(focus (repeat' first|exact Upd.head|apply Upd.tail|apply Upd.right);done);exact hset _ rfl)|(apply R.store;(iterate 6 exact rfl);(focus (repeat' first|exact Upd.head|apply Upd.tail|apply Upd.right);done);exact rfl)|fail)|(apply R.isG;first|(apply R.guard_run;exact rfl;exact rfl)|(apply R.guard_not;(iterate 3 exact rfl))|(apply R.guard_not0;exact rfl;exact rfl)|(apply R.guard_un;(iterate 3 exact rfl))|(apply R.guard_un0;exact rfl;exact rfl)|(apply R.guard rfl rfl ?_ (fun h=>⟨rfl,?_⟩)<;>try intro))|apply R.nil|(apply T.is;first|apply T.seq|apply T.region|apply T.block|apply T.scope|apply T.label|apply T.skip|apply T.exit|apply T.ret|(apply T.cond_t;exact rfl)|(apply T.cond_f;exact rfl)|(apply T.cond_h;exact rfl;assumption)|(apply T.cond_n;exact rfl;assumption)|(apply T.cond rfl<;>intro))|apply Rnd.step)
      apply RetOk.c
      exact rfl
      apply Ld.ownk
      exact rfl
      exact rfl
      (focus (repeat' first|exact At.head|apply At.tail|apply At.right);done)
      exact hsub
      rfl
/-- What a block's rounds hold. -/
theorem mix_ok (r:Nat) (s:H8) (rest:List Value) (e:TypeId) (p:Option Addr) (n cap:Nat) (b:List Int) (hn:n=b.length) (hl:b.length=64) (hcap:n≤cap) (hb:Byt b) (w:World) (hp:RdSl w p u8V b) (hoff:Off p [r]) :
    CallM Tryz.prog 106 [.pointer (some ⟨r,0,none⟩),.slice p n cap] [(r,.cells ⟨s.v++rest⟩ e (0,0))] w fun v L=>v = .tuple #[]∧L=[(r,.cells ⟨(mixI kI b s).v++rest⟩ e (0,0))]:=by
  refine enterK (tb:=tb) Tryz.func106 rfl Tryz.ntmps106 rfl ?_
  have hls:=u32s_len (schedI b 64)
  have hsl:=sched_len b 64
  rw [hsl] at hls
  have hset:∀ cs:List Value,cs.length=64→setE cs 0 (u32s (schedI b 64))=some (u32s (schedI b 64)):=fun cs h=>setE_all (by rw [hls,h])
  have hgw:∀ i,i < 64→(u32s (schedI b 64))[0+i * 1]? = some (.int .u32 ((schedI b 64).getD i 0)):=fun i hi=>by have:=arr_get (l:=schedI b 64) (zs:=[]) (k:=i) (by omega);rwa [List.append_nil] at this
  have hgk:∀ i,i < 64→(u32s kI)[0+i * 1]? = some (.int .u32 (kI.getD i 0)):=fun i hi=>by have:=arr_get (l:=kI) (zs:=[]) (k:=i) (by rw [kI_len];exact hi);rwa [List.append_nil] at this
  have hmix:mixI kI b s=addH s (roundsI kI (schedI b 64) s 64):=rfl
  have hr0:roundsI kI (schedI b 64) s 0=s:=rfl
  have hrs:∀ i,roundsI kI (schedI b 64) s (i+1)=stepI (roundsI kI (schedI b 64) s i) (kI.getD i 0) ((schedI b 64).getD i 0):=fun _=>rfl
  have hset2:∀ cs:List Value,cs.length=64→setE cs 0 (u32s kI)=some (u32s kI):=fun cs h=>setE_all (by rw [u32s_len,kI_len,h])
  have hspr:∀ w1,Chg [r] w w1→CallW Tryz.prog 111 [.slice p n cap] w1 fun v _=>v = .agg ⟨u32s (schedI b 64)⟩:=fun w1 hc=>spread_ok p n cap b hn hl hcap hb w1 (hp.chg hc hoff)
  have htab:=table_ok
  have hsv:subE (s.v++rest) 0 8=some s.v:=subE_app _ _ rfl
  have hset8:∀ cs:List Value,cs.length=8→setE cs 0 s.v=some s.v:=fun cs h=>setE_all (by rw [h];rfl)
  have hone:=u32s_one (schedI b 64)
  have hone2:=u32s_one kI
  have hkl:(u32s kI).length=64:=by rw [u32s_len,kI_len]
  generalize hK:u32s kI=ks at *
  generalize roundsI kI (schedI b 64) s=rs at *
  generalize hW:u32s (schedI b 64)=us at *
  repeat' (first|(apply R.is1;first|(apply R.isBin;first|(apply R.pure;exact rfl;first|(apply Ok1.add64;exact rfl;exact rfl;omega;omega)|(apply Ok1.lss_t;exact rfl;exact rfl;omega)|(apply Ok1.lss_f;exact rfl;exact rfl;omega))|(apply R.lss rfl rfl rfl<;>intro))|(apply R.isCall;first|(apply R.callV;(iterate 3 exact rfl);intro w1 hw1;exact hspr w1 hw1.chg)|apply R.callP rfl rfl rfl htab)|(apply R.pure;exact rfl;first|(apply Ok1.load;exact rfl;apply Ld.ownk;exact rfl;exact rfl;(focus (repeat' first|exact At.head|apply At.tail|apply At.right);done);exact hsv)|(apply Ok1.move;exact rfl)|(apply Ok1.fieldAddr;(iterate 5 exact rfl))|(apply Ok1.load;exact rfl;first|(apply Ld.own1;exact rfl;exact rfl;(focus (repeat' first|exact At.head|apply At.tail|apply At.right);done);exact rfl)|(apply Ld.ownk;exact rfl;exact rfl;(focus (repeat' first|exact At.head|apply At.tail|apply At.right);done);exact rfl)|(apply Ld.old1;exact rfl;exact rfl;assumption;(first|exact List.not_mem_nil|assumption))|(apply Ld.blk1;exact rfl;exact rfl;assumption;(first|exact List.not_mem_nil|assumption);exact rfl)|(apply Ld.blkk;exact rfl;exact rfl;assumption;(first|exact List.not_mem_nil|assumption);exact rfl))|(apply Ok1.assign;exact rfl)|(apply Ok1.indexAddr;(iterate 5 exact rfl);omega;omega)|(apply Ok1.indexAddrA;(iterate 5 exact rfl);omega;omega)|(apply Ok1.build;(iterate 5 exact rfl))|(apply Ok1.not_t;exact rfl)|(apply Ok1.not_f;exact rfl)|(apply Ok1.not;exact rfl)|(apply Ok1.nilCheck;exact rfl)|(apply Ok1.nilCheckF;exact rfl)|(apply Ok1.buildA;(iterate 6 exact rfl))|(apply Ok1.neg;exact rfl))|(apply R.alloc;(iterate 3 exact rfl);intro))|(apply R.is0;first|(apply R.store;(iterate 4 exact rfl);exact hls;exact hone;(focus (repeat' first|exact Upd.head|apply Upd.tail|apply Upd.right);done);exact hset _ rfl)|(apply R.store;(iterate 4 exact rfl);exact hkl;exact hone2;(focus (repeat' first|exact Upd.head|apply Upd.tail|apply Upd.right);done);exact hset2 _ rfl)|(apply R.store;(iterate 6 exact rfl);(focus (repeat' first|exact Upd.head|apply Upd.tail|apply Upd.right);done);exact hset8 _ rfl)|(apply R.store;(iterate 6 exact rfl);(focus (repeat' first|exact Upd.head|apply Upd.tail|apply Upd.right);done);exact rfl)|fail)|(apply R.isG;first|(apply R.guard_run;exact rfl;exact rfl)|(apply R.guard_not;(iterate 3 exact rfl))|(apply R.guard_not0;exact rfl;exact rfl)|(apply R.guard_un;(iterate 3 exact rfl))|(apply R.guard_un0;exact rfl;exact rfl)|(apply R.guard rfl rfl ?_ (fun h=>⟨rfl,?_⟩)<;>try intro))|apply R.nil|(apply T.is;first|apply T.seq|apply T.region|apply T.block|apply T.scope|apply T.label|apply T.skip|apply T.exit|apply T.ret|(apply T.cond_t;exact rfl)|(apply T.cond_f;exact rfl)|(apply T.cond_h;exact rfl;assumption)|(apply T.cond_n;exact rfl;assumption)|(apply T.cond rfl<;>intro))|apply Rnd.step)
  rename_i b4 b5 b6
  apply T.loopK (α:=Nat) (I:=fun i=>i≤64) (σi:=fun i=>[(0,.pointer (some ⟨r,0,none⟩)),(4,.pointer (some ⟨b4,0,none⟩)),(5,.pointer (some ⟨b5,0,none⟩)),(6,.pointer (some ⟨b6,0,none⟩)),(7,.func (.func 113) #[] #[]),(19,.int .i64 i)])
    (Li:=fun i=>[(b6,.cells ⟨(rs i).v⟩ 163 (0,0)),(b5,.cells ⟨ks⟩ 217 (0,0)),(b4,.cells ⟨us⟩ 217 (0,0)),(r,.cells ⟨s.v++rest⟩ e (0,0))]) (μ:=fun i=>64 - i) (i0:=0)
  · exact Nat.zero_le _
  · exact ⟨rfl,rfl,rfl,rfl,rfl,rfl,trivial⟩
  · rw [hr0];(focus (repeat' first|exact Keep.nil _|exact Ext.one _ _|exact Ext.here _ _|exact Ext.all _|apply Keep.cons|apply Keep.app|apply Keep.last|apply Ext.cons|apply Ext.app);done)
  · intro i hi
    rcases Nat.lt_or_ge i 64 with hlt|hge
    · have g1:=hgk i hlt
      have g2:=hgw i hlt
      have hst:=hrs i
      generalize kI.getD i 0=ki at *
      generalize (schedI b 64).getD i 0=wi at *
      generalize rs i=st at *
      repeat' (first|(apply R.is1;first|(apply R.isBin;first|(apply R.pure;exact rfl;first|(apply Ok1.xorK;exact rfl;exact rfl)|(apply Ok1.andK;exact rfl;exact rfl)|(apply Ok1.add32;exact rfl;exact rfl)|(apply Ok1.add64;exact rfl;exact rfl;omega;omega)|(apply Ok1.lss_t;exact rfl;exact rfl;omega)|(apply Ok1.lss_f;exact rfl;exact rfl;omega))|(apply R.lss rfl rfl rfl<;>intro))|(apply R.isCall;first|(apply R.callFP (fa:=[]) (cb:=[]);(iterate 4 exact rfl);first|exact turnedA_ok _|exact turnedB_ok _))|(apply R.pure;exact rfl;first|(apply Ok1.load;exact rfl;apply Ld.own1;exact rfl;exact rfl;(focus (repeat' first|exact At.head|apply At.tail|apply At.right);done);first|exact g1|exact g2)|(apply Ok1.cplK;exact rfl;exact rfl)|(apply Ok1.move;exact rfl)|(apply Ok1.fieldAddr;(iterate 5 exact rfl))|(apply Ok1.load;exact rfl;first|(apply Ld.own1;exact rfl;exact rfl;(focus (repeat' first|exact At.head|apply At.tail|apply At.right);done);exact rfl)|(apply Ld.ownk;exact rfl;exact rfl;(focus (repeat' first|exact At.head|apply At.tail|apply At.right);done);exact rfl)|(apply Ld.old1;exact rfl;exact rfl;assumption;(first|exact List.not_mem_nil|assumption))|(apply Ld.blk1;exact rfl;exact rfl;assumption;(first|exact List.not_mem_nil|assumption);exact rfl)|(apply Ld.blkk;exact rfl;exact rfl;assumption;(first|exact List.not_mem_nil|assumption);exact rfl))|(apply Ok1.assign;exact rfl)|(apply Ok1.indexAddr;(iterate 5 exact rfl);omega;omega)|(apply Ok1.indexAddrA;(iterate 5 exact rfl);omega;omega)|(apply Ok1.build;(iterate 5 exact rfl))|(apply Ok1.not_t;exact rfl)|(apply Ok1.not_f;exact rfl)|(apply Ok1.not;exact rfl)|(apply Ok1.nilCheck;exact rfl)|(apply Ok1.nilCheckF;exact rfl)|(apply Ok1.buildA;(iterate 6 exact rfl))|(apply Ok1.neg;exact rfl))|(apply R.alloc;(iterate 3 exact rfl);intro))|(apply R.is0;first|(apply R.store;(iterate 6 exact rfl);(focus (repeat' first|exact Upd.head|apply Upd.tail|apply Upd.right);done);exact setE_all rfl)|(apply R.store;(iterate 6 exact rfl);(focus (repeat' first|exact Upd.head|apply Upd.tail|apply Upd.right);done);exact rfl)|fail)|(apply R.isG;first|(apply R.guard_run;exact rfl;exact rfl)|(apply R.guard_not;(iterate 3 exact rfl))|(apply R.guard_not0;exact rfl;exact rfl)|(apply R.guard_un;(iterate 3 exact rfl))|(apply R.guard_un0;exact rfl;exact rfl)|(apply R.guard rfl rfl ?_ (fun h=>⟨rfl,?_⟩)<;>try intro))|apply R.nil|(apply T.is;first|(apply T.drawC (id:=6) [0,1,2] (by decide);(((apply A.tk 0;exact rfl;kernel_rfl;first|(apply Ok1.indexAddr;(iterate 5 exact rfl);omega;omega)|(apply Ok1.indexAddrA;(iterate 5 exact rfl);omega;omega));refine A.cast (listed':=#[true,false,false,false,false,false,false,false,false,false,false,false,false,false,false,false,false,false,false,false,false,false,false,false,false,false,false,false,false]) (by kernel_rfl) ?_)<;>((apply A.tk 1;exact rfl;kernel_rfl;first|(apply Ok1.load;exact rfl;apply Ld.own1;exact rfl;exact rfl;(focus (repeat' first|exact At.head|apply At.tail|apply At.right);done);first|exact g1|exact g2)|(apply Ok1.load;exact rfl;first|(apply Ld.own1;exact rfl;exact rfl;(focus (repeat' first|exact At.head|apply At.tail|apply At.right);done);exact rfl)|(apply Ld.ownk;exact rfl;exact rfl;(focus (repeat' first|exact At.head|apply At.tail|apply At.right);done);exact rfl)|(apply Ld.old1;exact rfl;exact rfl;assumption;(first|exact List.not_mem_nil|assumption))|(apply Ld.blk1;exact rfl;exact rfl;assumption;(first|exact List.not_mem_nil|assumption);exact rfl)|(apply Ld.blkk;exact rfl;exact rfl;assumption;(first|exact List.not_mem_nil|assumption);exact rfl)));refine A.cast (listed':=#[true,true,false,false,false,false,false,false,false,false,false,false,false,false,false,false,false,false,false,false,false,false,false,false,false,false,false,false,false]) (by kernel_rfl) ?_)<;>((apply A.tk 2;exact rfl;kernel_rfl;first|(apply Ok1.move;exact rfl));refine A.cast (listed':=#[true,true,true,false,false,false,false,false,false,false,false,false,false,false,false,false,false,false,false,false,false,false,false,false,false,false,false,false,false]) (by kernel_rfl) ?_)<;>((apply A.tk 3;exact rfl;kernel_rfl;first|(apply Ok1.indexAddr;(iterate 5 exact rfl);omega;omega)|(apply Ok1.indexAddrA;(iterate 5 exact rfl);omega;omega));refine A.cast (listed':=#[true,true,true,true,false,false,false,false,false,false,false,false,false,false,false,false,false,false,false,false,false,false,false,false,false,false,false,false,false]) (by kernel_rfl) ?_)<;>((apply A.tk 4;exact rfl;kernel_rfl;first|(apply Ok1.load;exact rfl;apply Ld.own1;exact rfl;exact rfl;(focus (repeat' first|exact At.head|apply At.tail|apply At.right);done);first|exact g1|exact g2)|(apply Ok1.load;exact rfl;first|(apply Ld.own1;exact rfl;exact rfl;(focus (repeat' first|exact At.head|apply At.tail|apply At.right);done);exact rfl)|(apply Ld.ownk;exact rfl;exact rfl;(focus (repeat' first|exact At.head|apply At.tail|apply At.right);done);exact rfl)|(apply Ld.old1;exact rfl;exact rfl;assumption;(first|exact List.not_mem_nil|assumption))|(apply Ld.blk1;exact rfl;exact rfl;assumption;(first|exact List.not_mem_nil|assumption);exact rfl)|(apply Ld.blkk;exact rfl;exact rfl;assumption;(first|exact List.not_mem_nil|assumption);exact rfl)));refine A.cast (listed':=#[true,true,true,true,true,false,false,false,false,false,false,false,false,false,false,false,false,false,false,false,false,false,false,false,false,false,false,false,false]) (by kernel_rfl) ?_)<;>((apply A.tk 7;exact rfl;kernel_rfl;first|(apply Ok1.indexAddr;(iterate 5 exact rfl);omega;omega)|(apply Ok1.indexAddrA;(iterate 5 exact rfl);omega;omega));refine A.cast (listed':=#[true,true,true,true,true,false,false,true,false,false,false,false,false,false,false,false,false,false,false,false,false,false,false,false,false,false,false,false,false]) (by kernel_rfl) ?_)<;>((apply A.tk 8;exact rfl;kernel_rfl;first|(apply Ok1.load;exact rfl;apply Ld.own1;exact rfl;exact rfl;(focus (repeat' first|exact At.head|apply At.tail|apply At.right);done);first|exact g1|exact g2)|(apply Ok1.load;exact rfl;first|(apply Ld.own1;exact rfl;exact rfl;(focus (repeat' first|exact At.head|apply At.tail|apply At.right);done);exact rfl)|(apply Ld.ownk;exact rfl;exact rfl;(focus (repeat' first|exact At.head|apply At.tail|apply At.right);done);exact rfl)|(apply Ld.old1;exact rfl;exact rfl;assumption;(first|exact List.not_mem_nil|assumption))|(apply Ld.blk1;exact rfl;exact rfl;assumption;(first|exact List.not_mem_nil|assumption);exact rfl)|(apply Ld.blkk;exact rfl;exact rfl;assumption;(first|exact List.not_mem_nil|assumption);exact rfl)));refine A.cast (listed':=#[true,true,true,true,true,false,false,true,true,false,false,false,false,false,false,false,false,false,false,false,false,false,false,false,false,false,false,false,false]) (by kernel_rfl) ?_)<;>((apply A.tk 9;exact rfl;kernel_rfl;first|(apply Ok1.indexAddr;(iterate 5 exact rfl);omega;omega)|(apply Ok1.indexAddrA;(iterate 5 exact rfl);omega;omega));refine A.cast (listed':=#[true,true,true,true,true,false,false,true,true,true,false,false,false,false,false,false,false,false,false,false,false,false,false,false,false,false,false,false,false]) (by kernel_rfl) ?_)<;>((apply A.tk 10;exact rfl;kernel_rfl;first|(apply Ok1.load;exact rfl;apply Ld.own1;exact rfl;exact rfl;(focus (repeat' first|exact At.head|apply At.tail|apply At.right);done);first|exact g1|exact g2)|(apply Ok1.load;exact rfl;first|(apply Ld.own1;exact rfl;exact rfl;(focus (repeat' first|exact At.head|apply At.tail|apply At.right);done);exact rfl)|(apply Ld.ownk;exact rfl;exact rfl;(focus (repeat' first|exact At.head|apply At.tail|apply At.right);done);exact rfl)|(apply Ld.old1;exact rfl;exact rfl;assumption;(first|exact List.not_mem_nil|assumption))|(apply Ld.blk1;exact rfl;exact rfl;assumption;(first|exact List.not_mem_nil|assumption);exact rfl)|(apply Ld.blkk;exact rfl;exact rfl;assumption;(first|exact List.not_mem_nil|assumption);exact rfl)));refine A.cast (listed':=#[true,true,true,true,true,false,false,true,true,true,true,false,false,false,false,false,false,false,false,false,false,false,false,false,false,false,false,false,false]) (by kernel_rfl) ?_)<;>((apply A.tk 11;exact rfl;kernel_rfl;first|(apply Ok1.andK;exact rfl;exact rfl));refine A.cast (listed':=#[true,true,true,true,true,false,false,true,true,true,true,true,false,false,false,false,false,false,false,false,false,false,false,false,false,false,false,false,false]) (by kernel_rfl) ?_)<;>((apply A.tk 12;exact rfl;kernel_rfl;first|(apply Ok1.indexAddr;(iterate 5 exact rfl);omega;omega)|(apply Ok1.indexAddrA;(iterate 5 exact rfl);omega;omega));refine A.cast (listed':=#[true,true,true,true,true,false,false,true,true,true,true,true,true,false,false,false,false,false,false,false,false,false,false,false,false,false,false,false,false]) (by kernel_rfl) ?_)<;>((apply A.tk 13;exact rfl;kernel_rfl;first|(apply Ok1.load;exact rfl;apply Ld.own1;exact rfl;exact rfl;(focus (repeat' first|exact At.head|apply At.tail|apply At.right);done);first|exact g1|exact g2)|(apply Ok1.load;exact rfl;first|(apply Ld.own1;exact rfl;exact rfl;(focus (repeat' first|exact At.head|apply At.tail|apply At.right);done);exact rfl)|(apply Ld.ownk;exact rfl;exact rfl;(focus (repeat' first|exact At.head|apply At.tail|apply At.right);done);exact rfl)|(apply Ld.old1;exact rfl;exact rfl;assumption;(first|exact List.not_mem_nil|assumption))|(apply Ld.blk1;exact rfl;exact rfl;assumption;(first|exact List.not_mem_nil|assumption);exact rfl)|(apply Ld.blkk;exact rfl;exact rfl;assumption;(first|exact List.not_mem_nil|assumption);exact rfl)));refine A.cast (listed':=#[true,true,true,true,true,false,false,true,true,true,true,true,true,true,false,false,false,false,false,false,false,false,false,false,false,false,false,false,false]) (by kernel_rfl) ?_)<;>((apply A.tk 14;exact rfl;kernel_rfl;first|(apply Ok1.cplK;exact rfl;exact rfl)|(apply Ok1.not_t;exact rfl)|(apply Ok1.not_f;exact rfl)|(apply Ok1.not;exact rfl)|(apply Ok1.neg;exact rfl));refine A.cast (listed':=#[true,true,true,true,true,false,false,true,true,true,true,true,true,true,true,false,false,false,false,false,false,false,false,false,false,false,false,false,false]) (by kernel_rfl) ?_)<;>((apply A.tk 15;exact rfl;kernel_rfl;first|(apply Ok1.indexAddr;(iterate 5 exact rfl);omega;omega)|(apply Ok1.indexAddrA;(iterate 5 exact rfl);omega;omega));refine A.cast (listed':=#[true,true,true,true,true,false,false,true,true,true,true,true,true,true,true,true,false,false,false,false,false,false,false,false,false,false,false,false,false]) (by kernel_rfl) ?_)<;>((apply A.tk 16;exact rfl;kernel_rfl;first|(apply Ok1.load;exact rfl;apply Ld.own1;exact rfl;exact rfl;(focus (repeat' first|exact At.head|apply At.tail|apply At.right);done);first|exact g1|exact g2)|(apply Ok1.load;exact rfl;first|(apply Ld.own1;exact rfl;exact rfl;(focus (repeat' first|exact At.head|apply At.tail|apply At.right);done);exact rfl)|(apply Ld.ownk;exact rfl;exact rfl;(focus (repeat' first|exact At.head|apply At.tail|apply At.right);done);exact rfl)|(apply Ld.old1;exact rfl;exact rfl;assumption;(first|exact List.not_mem_nil|assumption))|(apply Ld.blk1;exact rfl;exact rfl;assumption;(first|exact List.not_mem_nil|assumption);exact rfl)|(apply Ld.blkk;exact rfl;exact rfl;assumption;(first|exact List.not_mem_nil|assumption);exact rfl)));refine A.cast (listed':=#[true,true,true,true,true,false,false,true,true,true,true,true,true,true,true,true,true,false,false,false,false,false,false,false,false,false,false,false,false]) (by kernel_rfl) ?_)<;>((apply A.tk 17;exact rfl;kernel_rfl;first|(apply Ok1.andK;exact rfl;exact rfl));refine A.cast (listed':=#[true,true,true,true,true,false,false,true,true,true,true,true,true,true,true,true,true,true,false,false,false,false,false,false,false,false,false,false,false]) (by kernel_rfl) ?_)<;>((apply A.tk 18;exact rfl;kernel_rfl;first|(apply Ok1.xorK;exact rfl;exact rfl));refine A.cast (listed':=#[true,true,true,true,true,false,false,true,true,true,true,true,true,true,true,true,true,true,true,false,false,false,false,false,false,false,false,false,false]) (by kernel_rfl) ?_)<;>((apply A.tk 20;exact rfl;kernel_rfl;first|(apply Ok1.move;exact rfl));refine A.cast (listed':=#[true,true,true,true,true,false,false,true,true,true,true,true,true,true,true,true,true,true,true,false,true,false,false,false,false,false,false,false,false]) (by kernel_rfl) ?_)<;>((apply A.tk 21;exact rfl;kernel_rfl;first|(apply Ok1.indexAddr;(iterate 5 exact rfl);omega;omega)|(apply Ok1.indexAddrA;(iterate 5 exact rfl);omega;omega));refine A.cast (listed':=#[true,true,true,true,true,false,false,true,true,true,true,true,true,true,true,true,true,true,true,false,true,true,false,false,false,false,false,false,false]) (by kernel_rfl) ?_)<;>((apply A.tk 22;exact rfl;kernel_rfl;first|(apply Ok1.load;exact rfl;apply Ld.own1;exact rfl;exact rfl;(focus (repeat' first|exact At.head|apply At.tail|apply At.right);done);first|exact g1|exact g2)|(apply Ok1.load;exact rfl;first|(apply Ld.own1;exact rfl;exact rfl;(focus (repeat' first|exact At.head|apply At.tail|apply At.right);done);exact rfl)|(apply Ld.ownk;exact rfl;exact rfl;(focus (repeat' first|exact At.head|apply At.tail|apply At.right);done);exact rfl)|(apply Ld.old1;exact rfl;exact rfl;assumption;(first|exact List.not_mem_nil|assumption))|(apply Ld.blk1;exact rfl;exact rfl;assumption;(first|exact List.not_mem_nil|assumption);exact rfl)|(apply Ld.blkk;exact rfl;exact rfl;assumption;(first|exact List.not_mem_nil|assumption);exact rfl)));refine A.cast (listed':=#[true,true,true,true,true,false,false,true,true,true,true,true,true,true,true,true,true,true,true,false,true,true,true,false,false,false,false,false,false]) (by kernel_rfl) ?_)<;>((apply A.tk 24;exact rfl;kernel_rfl;first|(apply Ok1.move;exact rfl));refine A.cast (listed':=#[true,true,true,true,true,false,false,true,true,true,true,true,true,true,true,true,true,true,true,false,true,true,true,false,true,false,false,false,false]) (by kernel_rfl) ?_)<;>((apply A.tk 25;exact rfl;kernel_rfl;first|(apply Ok1.indexAddr;(iterate 5 exact rfl);omega;omega)|(apply Ok1.indexAddrA;(iterate 5 exact rfl);omega;omega));refine A.cast (listed':=#[true,true,true,true,true,false,false,true,true,true,true,true,true,true,true,true,true,true,true,false,true,true,true,false,true,true,false,false,false]) (by kernel_rfl) ?_)<;>((apply A.tk 26;exact rfl;kernel_rfl;first|(apply Ok1.load;exact rfl;apply Ld.own1;exact rfl;exact rfl;(focus (repeat' first|exact At.head|apply At.tail|apply At.right);done);first|exact g1|exact g2)|(apply Ok1.load;exact rfl;first|(apply Ld.own1;exact rfl;exact rfl;(focus (repeat' first|exact At.head|apply At.tail|apply At.right);done);exact rfl)|(apply Ld.ownk;exact rfl;exact rfl;(focus (repeat' first|exact At.head|apply At.tail|apply At.right);done);exact rfl)|(apply Ld.old1;exact rfl;exact rfl;assumption;(first|exact List.not_mem_nil|assumption))|(apply Ld.blk1;exact rfl;exact rfl;assumption;(first|exact List.not_mem_nil|assumption);exact rfl)|(apply Ld.blkk;exact rfl;exact rfl;assumption;(first|exact List.not_mem_nil|assumption);exact rfl)));refine A.cast (listed':=#[true,true,true,true,true,false,false,true,true,true,true,true,true,true,true,true,true,true,true,false,true,true,true,false,true,true,true,false,false]) (by kernel_rfl) ?_)<;>(apply A.one 5;kernel_rfl;exact rfl;((first|(apply R.callFP (fa:=[]) (cb:=[]);(iterate 4 exact rfl);first|exact turnedA_ok _|exact turnedB_ok _)|(apply R.pure;exact rfl;first|(apply Ok1.lenS;(iterate 3 exact rfl))|(apply Ok1.lenStr;(iterate 3 exact rfl))|(apply Ok1.lenMm;(iterate 3 exact rfl);(focus (repeat' first|exact At.head|apply At.tail|apply At.right);done))|(apply Ok1.lenM_nil;(iterate 3 exact rfl))|(apply Ok1.max2;exact rfl;exact rfl)|(apply Ok1.min2;exact rfl;exact rfl))));apply R.nil;refine ⟨?_,?_⟩;(focus (repeat' first|exact trivial|exact At.head|apply At.tail|apply At.right|refine ⟨?_,?_⟩)))<;>((apply A.tk 6;exact rfl;kernel_rfl;first|(apply Ok1.add32;exact rfl;exact rfl)|(apply Ok1.add64;exact rfl;exact rfl;omega;omega));refine A.cast (listed':=#[true,true,true,true,true,true,true,true,true,true,true,true,true,true,true,true,true,true,true,false,true,true,true,false,true,true,true,false,false]) (by kernel_rfl) ?_)<;>((apply A.tk 19;exact rfl;kernel_rfl;first|(apply Ok1.add32;exact rfl;exact rfl)|(apply Ok1.add64;exact rfl;exact rfl;omega;omega));refine A.cast (listed':=#[true,true,true,true,true,true,true,true,true,true,true,true,true,true,true,true,true,true,true,true,true,true,true,false,true,true,true,false,false]) (by kernel_rfl) ?_)<;>((apply A.tk 23;exact rfl;kernel_rfl;first|(apply Ok1.add32;exact rfl;exact rfl)|(apply Ok1.add64;exact rfl;exact rfl;omega;omega));refine A.cast (listed':=#[true,true,true,true,true,true,true,true,true,true,true,true,true,true,true,true,true,true,true,true,true,true,true,true,true,true,true,false,false]) (by kernel_rfl) ?_)<;>((apply A.tk 27;exact rfl;kernel_rfl;first|(apply Ok1.add32;exact rfl;exact rfl)|(apply Ok1.add64;exact rfl;exact rfl;omega;omega));refine A.cast (listed':=#[true,true,true,true,true,true,true,true,true,true,true,true,true,true,true,true,true,true,true,true,true,true,true,true,true,true,true,true,false]) (by kernel_rfl) ?_)<;>((apply A.tk 28;exact rfl;kernel_rfl;first|(apply Ok1.assign;exact rfl));refine A.cast (listed':=#[true,true,true,true,true,true,true,true,true,true,true,true,true,true,true,true,true,true,true,true,true,true,true,true,true,true,true,true,true]) (by kernel_rfl) ?_)<;>(apply A.done;kernel_rfl)))|(apply T.drawC (id:=7) [0,1,2] (by decide);((apply A.tk 0;exact rfl;kernel_rfl;first|(apply Ok1.move;exact rfl))<;>(apply A.tk 1;exact rfl;kernel_rfl;first|(apply Ok1.indexAddr;(iterate 5 exact rfl);omega;omega)|(apply Ok1.indexAddrA;(iterate 5 exact rfl);omega;omega))<;>(apply A.tk 2;exact rfl;kernel_rfl;first|(apply Ok1.load;exact rfl;apply Ld.own1;exact rfl;exact rfl;(focus (repeat' first|exact At.head|apply At.tail|apply At.right);done);first|exact g1|exact g2)|(apply Ok1.load;exact rfl;first|(apply Ld.own1;exact rfl;exact rfl;(focus (repeat' first|exact At.head|apply At.tail|apply At.right);done);exact rfl)|(apply Ld.ownk;exact rfl;exact rfl;(focus (repeat' first|exact At.head|apply At.tail|apply At.right);done);exact rfl)|(apply Ld.old1;exact rfl;exact rfl;assumption;(first|exact List.not_mem_nil|assumption))|(apply Ld.blk1;exact rfl;exact rfl;assumption;(first|exact List.not_mem_nil|assumption);exact rfl)|(apply Ld.blkk;exact rfl;exact rfl;assumption;(first|exact List.not_mem_nil|assumption);exact rfl)))<;>(apply A.tk 4;exact rfl;kernel_rfl;first|(apply Ok1.indexAddr;(iterate 5 exact rfl);omega;omega)|(apply Ok1.indexAddrA;(iterate 5 exact rfl);omega;omega))<;>(apply A.tk 5;exact rfl;kernel_rfl;first|(apply Ok1.load;exact rfl;apply Ld.own1;exact rfl;exact rfl;(focus (repeat' first|exact At.head|apply At.tail|apply At.right);done);first|exact g1|exact g2)|(apply Ok1.load;exact rfl;first|(apply Ld.own1;exact rfl;exact rfl;(focus (repeat' first|exact At.head|apply At.tail|apply At.right);done);exact rfl)|(apply Ld.ownk;exact rfl;exact rfl;(focus (repeat' first|exact At.head|apply At.tail|apply At.right);done);exact rfl)|(apply Ld.old1;exact rfl;exact rfl;assumption;(first|exact List.not_mem_nil|assumption))|(apply Ld.blk1;exact rfl;exact rfl;assumption;(first|exact List.not_mem_nil|assumption);exact rfl)|(apply Ld.blkk;exact rfl;exact rfl;assumption;(first|exact List.not_mem_nil|assumption);exact rfl)))<;>(apply A.tk 6;exact rfl;kernel_rfl;first|(apply Ok1.indexAddr;(iterate 5 exact rfl);omega;omega)|(apply Ok1.indexAddrA;(iterate 5 exact rfl);omega;omega))<;>(apply A.tk 7;exact rfl;kernel_rfl;first|(apply Ok1.load;exact rfl;apply Ld.own1;exact rfl;exact rfl;(focus (repeat' first|exact At.head|apply At.tail|apply At.right);done);first|exact g1|exact g2)|(apply Ok1.load;exact rfl;first|(apply Ld.own1;exact rfl;exact rfl;(focus (repeat' first|exact At.head|apply At.tail|apply At.right);done);exact rfl)|(apply Ld.ownk;exact rfl;exact rfl;(focus (repeat' first|exact At.head|apply At.tail|apply At.right);done);exact rfl)|(apply Ld.old1;exact rfl;exact rfl;assumption;(first|exact List.not_mem_nil|assumption))|(apply Ld.blk1;exact rfl;exact rfl;assumption;(first|exact List.not_mem_nil|assumption);exact rfl)|(apply Ld.blkk;exact rfl;exact rfl;assumption;(first|exact List.not_mem_nil|assumption);exact rfl)))<;>(apply A.tk 8;exact rfl;kernel_rfl;first|(apply Ok1.andK;exact rfl;exact rfl))<;>(apply A.tk 9;exact rfl;kernel_rfl;first|(apply Ok1.indexAddr;(iterate 5 exact rfl);omega;omega)|(apply Ok1.indexAddrA;(iterate 5 exact rfl);omega;omega))<;>(apply A.tk 10;exact rfl;kernel_rfl;first|(apply Ok1.load;exact rfl;apply Ld.own1;exact rfl;exact rfl;(focus (repeat' first|exact At.head|apply At.tail|apply At.right);done);first|exact g1|exact g2)|(apply Ok1.load;exact rfl;first|(apply Ld.own1;exact rfl;exact rfl;(focus (repeat' first|exact At.head|apply At.tail|apply At.right);done);exact rfl)|(apply Ld.ownk;exact rfl;exact rfl;(focus (repeat' first|exact At.head|apply At.tail|apply At.right);done);exact rfl)|(apply Ld.old1;exact rfl;exact rfl;assumption;(first|exact List.not_mem_nil|assumption))|(apply Ld.blk1;exact rfl;exact rfl;assumption;(first|exact List.not_mem_nil|assumption);exact rfl)|(apply Ld.blkk;exact rfl;exact rfl;assumption;(first|exact List.not_mem_nil|assumption);exact rfl)))<;>(apply A.tk 11;exact rfl;kernel_rfl;first|(apply Ok1.indexAddr;(iterate 5 exact rfl);omega;omega)|(apply Ok1.indexAddrA;(iterate 5 exact rfl);omega;omega))<;>(apply A.tk 12;exact rfl;kernel_rfl;first|(apply Ok1.load;exact rfl;apply Ld.own1;exact rfl;exact rfl;(focus (repeat' first|exact At.head|apply At.tail|apply At.right);done);first|exact g1|exact g2)|(apply Ok1.load;exact rfl;first|(apply Ld.own1;exact rfl;exact rfl;(focus (repeat' first|exact At.head|apply At.tail|apply At.right);done);exact rfl)|(apply Ld.ownk;exact rfl;exact rfl;(focus (repeat' first|exact At.head|apply At.tail|apply At.right);done);exact rfl)|(apply Ld.old1;exact rfl;exact rfl;assumption;(first|exact List.not_mem_nil|assumption))|(apply Ld.blk1;exact rfl;exact rfl;assumption;(first|exact List.not_mem_nil|assumption);exact rfl)|(apply Ld.blkk;exact rfl;exact rfl;assumption;(first|exact List.not_mem_nil|assumption);exact rfl)))<;>(apply A.tk 13;exact rfl;kernel_rfl;first|(apply Ok1.andK;exact rfl;exact rfl))<;>(apply A.tk 14;exact rfl;kernel_rfl;first|(apply Ok1.xorK;exact rfl;exact rfl))<;>(apply A.tk 15;exact rfl;kernel_rfl;first|(apply Ok1.indexAddr;(iterate 5 exact rfl);omega;omega)|(apply Ok1.indexAddrA;(iterate 5 exact rfl);omega;omega))<;>(apply A.tk 16;exact rfl;kernel_rfl;first|(apply Ok1.load;exact rfl;apply Ld.own1;exact rfl;exact rfl;(focus (repeat' first|exact At.head|apply At.tail|apply At.right);done);first|exact g1|exact g2)|(apply Ok1.load;exact rfl;first|(apply Ld.own1;exact rfl;exact rfl;(focus (repeat' first|exact At.head|apply At.tail|apply At.right);done);exact rfl)|(apply Ld.ownk;exact rfl;exact rfl;(focus (repeat' first|exact At.head|apply At.tail|apply At.right);done);exact rfl)|(apply Ld.old1;exact rfl;exact rfl;assumption;(first|exact List.not_mem_nil|assumption))|(apply Ld.blk1;exact rfl;exact rfl;assumption;(first|exact List.not_mem_nil|assumption);exact rfl)|(apply Ld.blkk;exact rfl;exact rfl;assumption;(first|exact List.not_mem_nil|assumption);exact rfl)))<;>(apply A.tk 17;exact rfl;kernel_rfl;first|(apply Ok1.indexAddr;(iterate 5 exact rfl);omega;omega)|(apply Ok1.indexAddrA;(iterate 5 exact rfl);omega;omega))<;>(apply A.tk 18;exact rfl;kernel_rfl;first|(apply Ok1.load;exact rfl;apply Ld.own1;exact rfl;exact rfl;(focus (repeat' first|exact At.head|apply At.tail|apply At.right);done);first|exact g1|exact g2)|(apply Ok1.load;exact rfl;first|(apply Ld.own1;exact rfl;exact rfl;(focus (repeat' first|exact At.head|apply At.tail|apply At.right);done);exact rfl)|(apply Ld.ownk;exact rfl;exact rfl;(focus (repeat' first|exact At.head|apply At.tail|apply At.right);done);exact rfl)|(apply Ld.old1;exact rfl;exact rfl;assumption;(first|exact List.not_mem_nil|assumption))|(apply Ld.blk1;exact rfl;exact rfl;assumption;(first|exact List.not_mem_nil|assumption);exact rfl)|(apply Ld.blkk;exact rfl;exact rfl;assumption;(first|exact List.not_mem_nil|assumption);exact rfl)))<;>(apply A.tk 19;exact rfl;kernel_rfl;first|(apply Ok1.andK;exact rfl;exact rfl))<;>(apply A.tk 20;exact rfl;kernel_rfl;first|(apply Ok1.xorK;exact rfl;exact rfl))<;>(apply A.one 3;kernel_rfl;exact rfl;((first|(apply R.callFP (fa:=[]) (cb:=[]);(iterate 4 exact rfl);first|exact turnedA_ok _|exact turnedB_ok _)|(apply R.pure;exact rfl;first|(apply Ok1.lenS;(iterate 3 exact rfl))|(apply Ok1.lenStr;(iterate 3 exact rfl))|(apply Ok1.lenMm;(iterate 3 exact rfl);(focus (repeat' first|exact At.head|apply At.tail|apply At.right);done))|(apply Ok1.lenM_nil;(iterate 3 exact rfl))|(apply Ok1.max2;exact rfl;exact rfl)|(apply Ok1.min2;exact rfl;exact rfl))));apply R.nil;refine ⟨?_,?_⟩;(focus (repeat' first|exact trivial|exact At.head|apply At.tail|apply At.right|refine ⟨?_,?_⟩)))<;>(apply A.tk 21;exact rfl;kernel_rfl;first|(apply Ok1.add32;exact rfl;exact rfl)|(apply Ok1.add64;exact rfl;exact rfl;omega;omega))<;>(apply A.tk 22;exact rfl;kernel_rfl;first|(apply Ok1.assign;exact rfl))<;>(apply A.done;kernel_rfl)))|(apply T.draw (id:=13);((apply A.tk 0;exact rfl;kernel_rfl;first|(apply Ok1.move;exact rfl))<;>(apply A.tk 1;exact rfl;kernel_rfl;first|(apply Ok1.move;exact rfl))<;>(apply A.tk 2;exact rfl;kernel_rfl;first|(apply Ok1.nilCheck;exact rfl)|(apply Ok1.nilCheckF;exact rfl))<;>(apply A.tk 3;exact rfl;kernel_rfl;first|(apply Ok1.fieldAddr;(iterate 5 exact rfl)))<;>(apply A.tk 4;exact rfl;kernel_rfl;first|(apply Ok1.indexAddr;(iterate 5 exact rfl);omega;omega)|(apply Ok1.indexAddrA;(iterate 5 exact rfl);omega;omega))<;>(apply A.tk 5;exact rfl;kernel_rfl;first|(apply Ok1.load;exact rfl;apply Ld.own1;exact rfl;exact rfl;(focus (repeat' first|exact At.head|apply At.tail|apply At.right);done);first|exact g1|exact g2)|(apply Ok1.load;exact rfl;first|(apply Ld.own1;exact rfl;exact rfl;(focus (repeat' first|exact At.head|apply At.tail|apply At.right);done);exact rfl)|(apply Ld.ownk;exact rfl;exact rfl;(focus (repeat' first|exact At.head|apply At.tail|apply At.right);done);exact rfl)|(apply Ld.old1;exact rfl;exact rfl;assumption;(first|exact List.not_mem_nil|assumption))|(apply Ld.blk1;exact rfl;exact rfl;assumption;(first|exact List.not_mem_nil|assumption);exact rfl)|(apply Ld.blkk;exact rfl;exact rfl;assumption;(first|exact List.not_mem_nil|assumption);exact rfl)))<;>(apply A.tk 6;exact rfl;kernel_rfl;first|(apply Ok1.move;exact rfl))<;>(apply A.tk 7;exact rfl;kernel_rfl;first|(apply Ok1.indexAddr;(iterate 5 exact rfl);omega;omega)|(apply Ok1.indexAddrA;(iterate 5 exact rfl);omega;omega))<;>(apply A.tk 8;exact rfl;kernel_rfl;first|(apply Ok1.load;exact rfl;apply Ld.own1;exact rfl;exact rfl;(focus (repeat' first|exact At.head|apply At.tail|apply At.right);done);first|exact g1|exact g2)|(apply Ok1.load;exact rfl;first|(apply Ld.own1;exact rfl;exact rfl;(focus (repeat' first|exact At.head|apply At.tail|apply At.right);done);exact rfl)|(apply Ld.ownk;exact rfl;exact rfl;(focus (repeat' first|exact At.head|apply At.tail|apply At.right);done);exact rfl)|(apply Ld.old1;exact rfl;exact rfl;assumption;(first|exact List.not_mem_nil|assumption))|(apply Ld.blk1;exact rfl;exact rfl;assumption;(first|exact List.not_mem_nil|assumption);exact rfl)|(apply Ld.blkk;exact rfl;exact rfl;assumption;(first|exact List.not_mem_nil|assumption);exact rfl)))<;>(apply A.tk 9;exact rfl;kernel_rfl;first|(apply Ok1.add32;exact rfl;exact rfl)|(apply Ok1.add64;exact rfl;exact rfl;omega;omega))<;>(apply A.tk 10;exact rfl;kernel_rfl;first|(apply Ok1.nilCheck;exact rfl)|(apply Ok1.nilCheckF;exact rfl))<;>(apply A.tk 11;exact rfl;kernel_rfl;first|(apply Ok1.fieldAddr;(iterate 5 exact rfl)))<;>(apply A.tk 12;exact rfl;kernel_rfl;first|(apply Ok1.indexAddr;(iterate 5 exact rfl);omega;omega)|(apply Ok1.indexAddrA;(iterate 5 exact rfl);omega;omega))<;>(apply A.one 13;kernel_rfl;exact rfl;((first|(apply R.store;(iterate 6 exact rfl);(focus (repeat' first|exact Upd.head|apply Upd.tail|apply Upd.right);done);exact setE_all rfl)|(apply R.store;(iterate 6 exact rfl);(focus (repeat' first|exact Upd.head|apply Upd.tail|apply Upd.right);done);exact rfl)|fail));apply R.nil;refine ⟨?_,?_⟩;(focus (repeat' first|exact trivial|exact At.head|apply At.tail|apply At.right|refine ⟨?_,?_⟩)))<;>(apply A.done;kernel_rfl)))|apply T.seq|apply T.region|apply T.block|apply T.scope|apply T.label|apply T.skip|apply T.exit|apply T.ret|(apply T.cond_t;exact rfl)|(apply T.cond_f;exact rfl)|(apply T.cond_h;exact rfl;assumption)|(apply T.cond_n;exact rfl;assumption)|(apply T.cond rfl<;>intro))|apply Rnd.step)
      refine ⟨i+1,by omega,by omega,⟨rfl,rfl,rfl,rfl,rfl,rfl,trivial⟩,?_⟩
      rw [hst]
      (focus (repeat' first|exact Keep.nil _|exact Ext.one _ _|exact Ext.here _ _|exact Ext.all _|apply Keep.cons|apply Keep.app|apply Keep.last|apply Ext.cons|apply Ext.app);done)
    · have him:i=64:=by omega
      subst him
      rw [hmix]
      generalize rs 64=t at *
      clear hset hset2 hgk hgw hspr
      simp only [H8.v,H8.l,u32s,List.map_cons,List.map_nil,List.cons_append,List.nil_append]
      repeat' (first|(apply R.is1;first|(apply R.isBin;first|(apply R.pure;exact rfl;first|(apply Ok1.add32;exact rfl;exact rfl)|(apply Ok1.add64;exact rfl;exact rfl;omega;omega)|(apply Ok1.lss_t;exact rfl;exact rfl;omega)|(apply Ok1.lss_f;exact rfl;exact rfl;omega))|(apply R.lss rfl rfl rfl<;>intro))|(apply R.pure;exact rfl;first|(apply Ok1.move;exact rfl)|(apply Ok1.fieldAddr;(iterate 5 exact rfl))|(apply Ok1.load;exact rfl;first|(apply Ld.own1;exact rfl;exact rfl;(focus (repeat' first|exact At.head|apply At.tail|apply At.right);done);exact rfl)|(apply Ld.ownk;exact rfl;exact rfl;(focus (repeat' first|exact At.head|apply At.tail|apply At.right);done);exact rfl)|(apply Ld.old1;exact rfl;exact rfl;assumption;(first|exact List.not_mem_nil|assumption))|(apply Ld.blk1;exact rfl;exact rfl;assumption;(first|exact List.not_mem_nil|assumption);exact rfl)|(apply Ld.blkk;exact rfl;exact rfl;assumption;(first|exact List.not_mem_nil|assumption);exact rfl))|(apply Ok1.assign;exact rfl)|(apply Ok1.indexAddr;(iterate 5 exact rfl);omega;omega)|(apply Ok1.indexAddrA;(iterate 5 exact rfl);omega;omega)|(apply Ok1.build;(iterate 5 exact rfl))|(apply Ok1.not_t;exact rfl)|(apply Ok1.not_f;exact rfl)|(apply Ok1.not;exact rfl)|(apply Ok1.nilCheck;exact rfl)|(apply Ok1.nilCheckF;exact rfl)|(apply Ok1.buildA;(iterate 6 exact rfl))|(apply Ok1.neg;exact rfl))|(apply R.alloc;(iterate 3 exact rfl);intro))|(apply R.is0;first|(apply R.store;(iterate 6 exact rfl);(focus (repeat' first|exact Upd.head|apply Upd.tail|apply Upd.right);done);exact rfl)|(apply R.store;(iterate 6 exact rfl);(focus (repeat' first|exact Upd.head|apply Upd.tail|apply Upd.right);done);exact setE_one (by simp only [List.length_cons];omega))|(apply R.store;(iterate 6 exact rfl);(focus (repeat' first|exact Upd.head|apply Upd.tail|apply Upd.right);done);exact rfl)|fail)|(apply R.isG;first|(apply R.guard_run;exact rfl;exact rfl)|(apply R.guard_not;(iterate 3 exact rfl))|(apply R.guard_not0;exact rfl;exact rfl)|(apply R.guard_un;(iterate 3 exact rfl))|(apply R.guard_un0;exact rfl;exact rfl)|(apply R.guard rfl rfl ?_ (fun h=>⟨rfl,?_⟩)<;>try intro))|apply R.nil|(apply T.is;first|apply T.rounds 9|(apply T.drawC (id:=13) [0] (by decide);((apply A.tk 0;exact rfl;kernel_rfl;first|(apply Ok1.move;exact rfl))<;>(apply A.tk 1;exact rfl;kernel_rfl;first|(apply Ok1.move;exact rfl))<;>(apply A.tk 2;exact rfl;kernel_rfl;first|(apply Ok1.nilCheck;exact rfl)|(apply Ok1.nilCheckF;exact rfl))<;>(apply A.tk 3;exact rfl;kernel_rfl;first|(apply Ok1.fieldAddr;(iterate 5 exact rfl)))<;>(apply A.tk 4;exact rfl;kernel_rfl;first|(apply Ok1.indexAddr;(iterate 5 exact rfl);omega;omega)|(apply Ok1.indexAddrA;(iterate 5 exact rfl);omega;omega))<;>(apply A.tk 6;exact rfl;kernel_rfl;first|(apply Ok1.move;exact rfl))<;>(apply A.tk 7;exact rfl;kernel_rfl;first|(apply Ok1.indexAddr;(iterate 5 exact rfl);omega;omega)|(apply Ok1.indexAddrA;(iterate 5 exact rfl);omega;omega))<;>(apply A.tk 8;exact rfl;kernel_rfl;first|(apply Ok1.load;exact rfl;first|(apply Ld.own1;exact rfl;exact rfl;(focus (repeat' first|exact At.head|apply At.tail|apply At.right);done);exact rfl)|(apply Ld.ownk;exact rfl;exact rfl;(focus (repeat' first|exact At.head|apply At.tail|apply At.right);done);exact rfl)|(apply Ld.old1;exact rfl;exact rfl;assumption;(first|exact List.not_mem_nil|assumption))|(apply Ld.blk1;exact rfl;exact rfl;assumption;(first|exact List.not_mem_nil|assumption);exact rfl)|(apply Ld.blkk;exact rfl;exact rfl;assumption;(first|exact List.not_mem_nil|assumption);exact rfl)))<;>(apply A.tk 10;exact rfl;kernel_rfl;first|(apply Ok1.nilCheck;exact rfl)|(apply Ok1.nilCheckF;exact rfl))<;>(apply A.tk 11;exact rfl;kernel_rfl;first|(apply Ok1.fieldAddr;(iterate 5 exact rfl)))<;>(apply A.one 5;kernel_rfl;exact rfl;((first|(apply R.pure;exact rfl;first|(apply Ok1.load;exact rfl;first|(apply Ld.own1;exact rfl;exact rfl;(focus (repeat' first|exact At.head|apply At.tail|apply At.right);done);exact rfl)|(apply Ld.ownk;exact rfl;exact rfl;(focus (repeat' first|exact At.head|apply At.tail|apply At.right);done);exact rfl)|(apply Ld.old1;exact rfl;exact rfl;assumption;(first|exact List.not_mem_nil|assumption))|(apply Ld.blk1;exact rfl;exact rfl;assumption;(first|exact List.not_mem_nil|assumption);exact rfl)|(apply Ld.blkk;exact rfl;exact rfl;assumption;(first|exact List.not_mem_nil|assumption);exact rfl)))|fail));apply R.nil;refine ⟨?_,?_⟩;(focus (repeat' first|exact trivial|exact At.head|apply At.tail|apply At.right|refine ⟨?_,?_⟩)))<;>(apply A.tk 9;exact rfl;kernel_rfl;first|(apply Ok1.add32;exact rfl;exact rfl)|(apply Ok1.add64;exact rfl;exact rfl;omega;omega))<;>(apply A.tk 12;exact rfl;kernel_rfl;first|(apply Ok1.indexAddr;(iterate 5 exact rfl);omega;omega)|(apply Ok1.indexAddrA;(iterate 5 exact rfl);omega;omega))<;>(apply A.one 13;kernel_rfl;exact rfl;((first|(apply R.store;(iterate 6 exact rfl);(focus (repeat' first|exact Upd.head|apply Upd.tail|apply Upd.right);done);exact rfl)|(apply R.store;(iterate 6 exact rfl);(focus (repeat' first|exact Upd.head|apply Upd.tail|apply Upd.right);done);exact setE_one (by simp only [List.length_cons];omega))|(apply R.store;(iterate 6 exact rfl);(focus (repeat' first|exact Upd.head|apply Upd.tail|apply Upd.right);done);exact rfl)|fail));apply R.nil;refine ⟨?_,?_⟩;(focus (repeat' first|exact trivial|exact At.head|apply At.tail|apply At.right|refine ⟨?_,?_⟩)))<;>(apply A.done;kernel_rfl)))|apply T.seq|apply T.region|apply T.block|apply T.scope|apply T.label|apply T.skip|apply T.exit|apply T.ret|(apply T.cond_t;exact rfl)|(apply T.cond_f;exact rfl)|(apply T.cond_h;exact rfl;assumption)|(apply T.cond_n;exact rfl;assumption)|(apply T.cond rfl<;>intro))|apply Rnd.step)
      all_goals (apply RetOk.n)
      all_goals refine ⟨_,?_,rfl,rfl⟩
      all_goals (focus (repeat' first|exact Keep.nil _|exact Ext.one _ _|exact Ext.here _ _|exact Ext.all _|apply Keep.cons|apply Keep.app|apply Keep.last|apply Ext.cons|apply Ext.app);done)
theorem u8s_app (a b:List Int):u8s (a++b)=u8s a++u8s b:=by simp [u8s]
theorem u8s_len (a:List Int):(u8s a).length=a.length:=by simp [u8s]
theorem u8s_one (a:List Int):(u8s a).all Value.oneCell'=true:=by rw [List.all_eq_true];intro x hx;obtain ⟨y,_,rfl⟩:=List.mem_map.1 hx;rfl
theorem Byt.app {a b:List Int} (h1:Byt a) (h2:Byt b):Byt (a++b):=fun x hx=>by rcases List.mem_append.1 hx with h|h;exact h1 x h;exact h2 x h
theorem Byt.drop {a:List Int} (h:Byt a) (i:Nat):Byt (a.drop i):=fun x hx=>h x (List.mem_of_mem_drop hx)
theorem Byt.take {a:List Int} (h:Byt a) (i:Nat):Byt (a.take i):=fun x hx=>h x (List.mem_of_mem_take hx)
/-- p' reads as p does,from k on. -/
structure Sfx (p p':Option Addr) (n k:Nat):Prop where
  rd:∀ (W:World) (xs:List Int),xs.length=n→RdSl W p u8V xs→RdSl W p' u8V (xs.drop k)
  off:∀ S,Off p S→Off p' S
theorem Sfx.refl (p:Option Addr) (n:Nat):Sfx p p n 0:=⟨fun W xs _ h=>h,fun _ h=>h⟩
theorem Sfx.suf {p p':Option Addr} {n k c i:Nat} (h:Sfx p p' n k) (h1:k+i≤n) (h2:n - k≤c):Sfx p (sufP p' c i 1) n (k+i) :=
  ⟨fun W xs hl hp=>by
    have:=(h.rd W xs hl hp).suf u8V_len (cap:=c) (i:=i) (by rw [List.length_drop];omega) (by rw [List.length_drop];omega)
    rwa [List.drop_drop] at this,fun S ho=>(h.off S ho).suf _ _ _⟩
theorem allI_step (b:List Int) (s:H8) {i:Nat} (h:64 * i+64≤b.length):allI kI (i+1) b s=mixI kI ((b.drop (64 * i)).take 64) (allI kI i b s):=by
  induction i generalizing b s with
  | zero=>rfl
  | succ i ih =>
    rw [allI,ih (b.drop 64) (mixI kI (b.take 64) s) (by rw [List.length_drop];omega),List.drop_drop,show 64+64 * i=64 * (i+1) by omega]
    rfl
theorem all_ok (r:Nat) (s:H8) (rest:List Value) (e:TypeId) (p:Option Addr) (n cap:Nat) (b:List Int) (hn:n=b.length) (hcap:n≤cap) (hbig:n≤1073741824) (hb:Byt b) (w:World) (hp:RdSl w p u8V b) (hoff:Off p [r]) :
    CallM Tryz.prog 94 [.pointer (some ⟨r,0,none⟩),.slice p n cap] [(r,.cells ⟨s.v++rest⟩ e (0,0))] w fun v L=>∃ p' cap',v = .slice p' (n - 64 * (n / 64)) cap' ∧ n - 64 * (n / 64)≤cap' ∧ Sfx p p' n (64 * (n / 64))∧L=[(r,.cells ⟨(allI kI (n / 64) b s).v++rest⟩ e (0,0))]:=by
  refine enterK (tb:=tb) Tryz.func94 rfl Tryz.ntmps94 rfl ?_
  repeat' (first|(apply R.is1;first|(apply R.isBin;first|(apply R.pure;exact rfl;first|(apply Ok1.geq_t;exact rfl;exact rfl;omega)|(apply Ok1.geq_f;exact rfl;exact rfl;omega))|(apply R.geq rfl rfl rfl<;>intro))|(apply R.isCall;first|(apply R.pure;exact rfl;first|(apply Ok1.lenS;(iterate 3 exact rfl))|(apply Ok1.lenStr;(iterate 3 exact rfl))|(apply Ok1.lenMm;(iterate 3 exact rfl);(focus (repeat' first|exact At.head|apply At.tail|apply At.right);done))|(apply Ok1.lenM_nil;(iterate 3 exact rfl))))|(apply R.pure;exact rfl;first|(apply Ok1.move;exact rfl)|(apply Ok1.assign;exact rfl)|(apply Ok1.slice0;(iterate 7 exact rfl);(refine ⟨?_,?_,?_⟩<;>omega);(first|exact Or.inl rfl|exact Or.inr (fun e=>by cases e)))|(apply Ok1.sliceTo;(iterate 6 exact rfl);omega;omega;omega;(first|exact Or.inl rfl|exact Or.inr (fun e=>by cases e)))|(apply Ok1.sliceFrom;(iterate 7 exact rfl);omega;omega;omega;omega;omega;(first|exact Or.inl rfl|exact Or.inr (fun e=>by cases e)))))|(apply R.is0;first|fail)|(apply R.isG;first|(apply R.guard_run;exact rfl;exact rfl)|(apply R.guard_not;(iterate 3 exact rfl))|(apply R.guard_not0;exact rfl;exact rfl)|(apply R.guard_un;(iterate 3 exact rfl))|(apply R.guard_un0;exact rfl;exact rfl)|(apply R.guard rfl rfl ?_ (fun h=>⟨rfl,?_⟩)<;>try intro))|apply R.nil|(apply T.is;first|apply T.seq|apply T.region|apply T.block|apply T.scope|apply T.label|apply T.skip|apply T.exit|apply T.ret|(apply T.cond_t;exact rfl)|(apply T.cond_f;exact rfl)|(apply T.cond_h;exact rfl;assumption)|(apply T.cond_n;exact rfl;assumption)|(apply T.cond rfl<;>intro))|apply Rnd.step)
  apply T.loopK (α:=Nat × Option Addr × Nat) (I:=fun x=>64 * x.1≤n∧n - 64 * x.1≤x.2.2∧Sfx p x.2.1 n (64 * x.1)) (σi:=fun x=>[(0,.pointer (some ⟨r,0,none⟩)),(1,.slice x.2.1 (n - 64 * x.1) x.2.2)]) (Li:=fun x=>[(r,.cells ⟨(allI kI x.1 b s).v++rest⟩ e (0,0))]) (μ:=fun x=>n - 64 * x.1) (i0:=(0,p,cap))
  · exact ⟨by omega,by simpa using hcap,Sfx.refl p n⟩
  · exact ⟨rfl,rfl,trivial⟩
  · (focus (repeat' first|exact Keep.nil _|exact Ext.one _ _|exact Ext.here _ _|exact Ext.all _|apply Keep.cons|apply Keep.app|apply Keep.last|apply Ext.cons|apply Ext.app);done)
  · rintro ⟨i,p1,c1⟩ ⟨hi,hc,hs⟩
    simp only at hi hc hs ⊢
    by_cases hlt:64 * i+64≤n
    · have hst:=allI_step b s (i:=i) (by omega)
      have hmix:∀ w1,Chg [r] w w1→CallM Tryz.prog 106 [.pointer (some ⟨r,0,none⟩),.slice p1 64 c1] [(r,.cells ⟨(allI kI i b s).v++rest⟩ e (0,0))] w1 fun v L=>v = .tuple #[]∧L=[(r,.cells ⟨(allI kI (i+1) b s).v++rest⟩ e (0,0))]:=by
        intro w1 hch
        rw [hst]
        have hrd:=(hs.rd w1 b hn.symm (hp.chg hch hoff)).pre u8V_len 64
        exact mix_ok r _ rest e p1 64 c1 ((b.drop (64 * i)).take 64) (by rw [List.length_take,List.length_drop];omega) (by rw [List.length_take,List.length_drop];omega) (by omega) ((hb.drop _).take _) w1 hrd (hs.off _ hoff)
      have hnew:Sfx p (sufP p1 c1 64 1) n (64 * i+64):=hs.suf (by omega) (by omega)
      repeat' (first|(apply R.is1;first|(apply R.isBin;first|(apply R.pure;exact rfl;first|(apply Ok1.geq_t;exact rfl;exact rfl;omega)|(apply Ok1.geq_f;exact rfl;exact rfl;omega))|(apply R.geq rfl rfl rfl<;>intro))|(apply R.isCall;first|(apply R.callE;(iterate 3 exact rfl);exact Ext.all _;intro w1 hw1;exact hmix w1 hw1.chg;rintro v Lo ⟨rfl,rfl⟩)|(apply R.pure;exact rfl;first|(apply Ok1.lenS;(iterate 3 exact rfl))|(apply Ok1.lenStr;(iterate 3 exact rfl))|(apply Ok1.lenMm;(iterate 3 exact rfl);(focus (repeat' first|exact At.head|apply At.tail|apply At.right);done))|(apply Ok1.lenM_nil;(iterate 3 exact rfl))))|(apply R.pure;exact rfl;first|(apply Ok1.preR (i:=64);(iterate 5 exact rfl);omega)|(apply Ok1.sufR (i:=64) (sz:=1);(iterate 6 exact rfl);omega;omega)|(apply Ok1.move;exact rfl)|(apply Ok1.assign;exact rfl)|(apply Ok1.slice0;(iterate 7 exact rfl);(refine ⟨?_,?_,?_⟩<;>omega);(first|exact Or.inl rfl|exact Or.inr (fun e=>by cases e)))|(apply Ok1.sliceTo;(iterate 6 exact rfl);omega;omega;omega;(first|exact Or.inl rfl|exact Or.inr (fun e=>by cases e)))|(apply Ok1.sliceFrom;(iterate 7 exact rfl);omega;omega;omega;omega;omega;(first|exact Or.inl rfl|exact Or.inr (fun e=>by cases e)))))|(apply R.is0;first|fail)|(apply R.isG;first|(apply R.guard_run;exact rfl;exact rfl)|(apply R.guard_not;(iterate 3 exact rfl))|(apply R.guard_not0;exact rfl;exact rfl)|(apply R.guard_un;(iterate 3 exact rfl))|(apply R.guard_un0;exact rfl;exact rfl)|(apply R.guard rfl rfl ?_ (fun h=>⟨rfl,?_⟩)<;>try intro))|apply R.nil|(apply T.is;first|apply T.seq|apply T.region|apply T.block|apply T.scope|apply T.label|apply T.skip|apply T.exit|apply T.ret|(apply T.cond_t;exact rfl)|(apply T.cond_f;exact rfl)|(apply T.cond_h;exact rfl;assumption)|(apply T.cond_n;exact rfl;assumption)|(apply T.cond rfl<;>intro))|apply Rnd.step)
      refine ⟨(i+1,sufP p1 c1 64 1,c1 - 64),⟨by simp only;omega,by simp only;omega,hnew⟩,by simp only;omega,⟨rfl,?_,trivial⟩,by (focus (repeat' first|exact Keep.nil _|exact Ext.one _ _|exact Ext.here _ _|exact Ext.all _|apply Keep.cons|apply Keep.app|apply Keep.last|apply Ext.cons|apply Ext.app);done)⟩
      rw [show n - 64 * (i+1)=n - 64 * i - 64 by omega]
      rfl
    · have hdiv:n / 64=i:=by omega
      repeat' (first|(apply R.is1;first|(apply R.isBin;first|(apply R.pure;exact rfl;first|(apply Ok1.geq_t;exact rfl;exact rfl;omega)|(apply Ok1.geq_f;exact rfl;exact rfl;omega))|(apply R.geq rfl rfl rfl<;>intro))|(apply R.isCall;first|(apply R.pure;exact rfl;first|(apply Ok1.lenS;(iterate 3 exact rfl))|(apply Ok1.lenStr;(iterate 3 exact rfl))|(apply Ok1.lenMm;(iterate 3 exact rfl);(focus (repeat' first|exact At.head|apply At.tail|apply At.right);done))|(apply Ok1.lenM_nil;(iterate 3 exact rfl))))|(apply R.pure;exact rfl;first|(apply Ok1.move;exact rfl)|(apply Ok1.assign;exact rfl)|(apply Ok1.slice0;(iterate 7 exact rfl);(refine ⟨?_,?_,?_⟩<;>omega);(first|exact Or.inl rfl|exact Or.inr (fun e=>by cases e)))|(apply Ok1.sliceTo;(iterate 6 exact rfl);omega;omega;omega;(first|exact Or.inl rfl|exact Or.inr (fun e=>by cases e)))|(apply Ok1.sliceFrom;(iterate 7 exact rfl);omega;omega;omega;omega;omega;(first|exact Or.inl rfl|exact Or.inr (fun e=>by cases e)))))|(apply R.is0;first|fail)|(apply R.isG;first|(apply R.guard_run;exact rfl;exact rfl)|(apply R.guard_not;(iterate 3 exact rfl))|(apply R.guard_not0;exact rfl;exact rfl)|(apply R.guard_un;(iterate 3 exact rfl))|(apply R.guard_un0;exact rfl;exact rfl)|(apply R.guard rfl rfl ?_ (fun h=>⟨rfl,?_⟩)<;>try intro))|apply R.nil|(apply T.is;first|apply T.seq|apply T.region|apply T.block|apply T.scope|apply T.label|apply T.skip|apply T.exit|apply T.ret|(apply T.cond_t;exact rfl)|(apply T.cond_f;exact rfl)|(apply T.cond_h;exact rfl;assumption)|(apply T.cond_n;exact rfl;assumption)|(apply T.cond rfl<;>intro))|apply Rnd.step)
      (apply RetOk.t;exact rfl)
      refine ⟨_,?_,p1,c1,by rw [hdiv],by rw [hdiv];exact hc,by rw [hdiv];exact hs,rfl⟩
      rw [hdiv]
      (focus (repeat' first|exact Keep.nil _|exact Ext.one _ _|exact Ext.here _ _|exact Ext.all _|apply Keep.cons|apply Keep.app|apply Keep.last|apply Ext.cons|apply Ext.app);done)
theorem u8_mod (i:Int):IntKind.u8.wrap i=i % 256:=by simp [IntKind.wrap,IntKind.bits,IntKind.signed]
theorem out_ok (r:Nat) (s:H8) (rest:List Value) (e:TypeId) (fz:Nat × Nat) (w:World) (hb:w.heap[r]? = some (.cells ⟨s.v++rest⟩ e fz)):CallW Tryz.prog 97 [.pointer (some ⟨r,0,none⟩)] w fun v _=>v = .agg ⟨u8s (outI s)⟩:=by
  have hsv:subE (s.v++rest) 0 8=some s.v:=subE_app _ _ rfl
  refine enterW (tb:=tb) Tryz.func97 rfl Tryz.ntmps97 rfl ?_
  repeat' (first|(apply R.is1;first|(apply R.isBin;first|(apply R.pure;exact rfl;first|(apply Ok1.add64;exact rfl;exact rfl;omega;omega)|(apply Ok1.lss_t;exact rfl;exact rfl;omega)|(apply Ok1.lss_f;exact rfl;exact rfl;omega)|(apply Ok1.mul64;exact rfl;exact rfl;omega;omega)|(apply Ok1.shr;exact rfl;exact rfl;omega;exact Nat.le_of_ble_eq_true rfl;(first|exact pwE1|exact pwE2|exact pwE3|exact pwE4|exact pwE5|exact pwE6|exact pwE7|exact pwE8|exact pwE16|exact pwE24|exact pwE32|exact rfl)))|(apply R.lss rfl rfl rfl<;>intro))|(apply R.pure;exact rfl;first|(apply Ok1.load;exact rfl;apply Ld.blkk;exact rfl;exact rfl;exact hb;exact List.not_mem_nil;exact hsv)|(apply Ok1.move;exact rfl)|(apply Ok1.fieldAddr;(iterate 5 exact rfl))|(apply Ok1.load;exact rfl;first|(apply Ld.own1;exact rfl;exact rfl;(focus (repeat' first|exact At.head|apply At.tail|apply At.right);done);exact rfl)|(apply Ld.ownk;exact rfl;exact rfl;(focus (repeat' first|exact At.head|apply At.tail|apply At.right);done);exact rfl)|(apply Ld.old1;exact rfl;exact rfl;assumption;(first|exact List.not_mem_nil|assumption))|(apply Ld.blk1;exact rfl;exact rfl;assumption;(first|exact List.not_mem_nil|assumption);exact rfl)|(apply Ld.blkk;exact rfl;exact rfl;assumption;(first|exact List.not_mem_nil|assumption);exact rfl))|(apply Ok1.assign;exact rfl)|(apply Ok1.indexAddr;(iterate 5 exact rfl);omega;omega)|(apply Ok1.indexAddrA;(iterate 5 exact rfl);omega;omega)|(apply Ok1.nilCheck;exact rfl)|(apply Ok1.nilCheckF;exact rfl)|(apply Ok1.index1;(iterate 6 exact rfl);omega;omega;exact rfl)|(apply Ok1.indexk;(iterate 6 exact rfl);omega;omega;exact rfl)|(apply Ok1.convI64;(iterate 5 exact rfl);omega;omega)|(apply Ok1.convU64;(iterate 5 exact rfl);omega;omega)|(apply Ok1.convU32;(iterate 5 exact rfl);omega;omega)|(apply Ok1.convU8;(iterate 5 exact rfl);omega;omega)|(apply Ok1.conv;(iterate 5 exact rfl)))|(apply R.alloc;(iterate 3 exact rfl);intro))|(apply R.is0;first|(apply R.store;(iterate 6 exact rfl);(focus (repeat' first|exact Upd.head|apply Upd.tail|apply Upd.right);done);exact rfl)|fail)|(apply R.isG;first|(apply R.guard_run;exact rfl;exact rfl)|(apply R.guard_not;(iterate 3 exact rfl))|(apply R.guard_not0;exact rfl;exact rfl)|(apply R.guard_un;(iterate 3 exact rfl))|(apply R.guard_un0;exact rfl;exact rfl)|(apply R.guard rfl rfl ?_ (fun h=>⟨rfl,?_⟩)<;>try intro))|apply R.nil|(apply T.is;first|apply T.seq|apply T.region|apply T.block|apply T.scope|apply T.label|apply T.skip|apply T.exit|apply T.ret|(apply T.cond_t;exact rfl)|(apply T.cond_f;exact rfl)|(apply T.cond_h;exact rfl;assumption)|(apply T.cond_n;exact rfl;assumption)|(apply T.cond rfl<;>intro))|apply Rnd.step)
  simp only [H8.v,H8.l,u32s,List.map_cons,List.map_nil]
  repeat' (first|(apply R.is1;first|(apply R.isBin;first|(apply R.pure;exact rfl;first|(apply Ok1.add64;exact rfl;exact rfl;omega;omega)|(apply Ok1.lss_t;exact rfl;exact rfl;omega)|(apply Ok1.lss_f;exact rfl;exact rfl;omega)|(apply Ok1.mul64;exact rfl;exact rfl;omega;omega)|(apply Ok1.shr;exact rfl;exact rfl;omega;exact Nat.le_of_ble_eq_true rfl;(first|exact pwE1|exact pwE2|exact pwE3|exact pwE4|exact pwE5|exact pwE6|exact pwE7|exact pwE8|exact pwE16|exact pwE24|exact pwE32|exact rfl)))|(apply R.lss rfl rfl rfl<;>intro))|(apply R.pure;exact rfl;first|(apply Ok1.move;exact rfl)|(apply Ok1.fieldAddr;(iterate 5 exact rfl))|(apply Ok1.load;exact rfl;first|(apply Ld.own1;exact rfl;exact rfl;(focus (repeat' first|exact At.head|apply At.tail|apply At.right);done);exact rfl)|(apply Ld.ownk;exact rfl;exact rfl;(focus (repeat' first|exact At.head|apply At.tail|apply At.right);done);exact rfl)|(apply Ld.old1;exact rfl;exact rfl;assumption;(first|exact List.not_mem_nil|assumption))|(apply Ld.blk1;exact rfl;exact rfl;assumption;(first|exact List.not_mem_nil|assumption);exact rfl)|(apply Ld.blkk;exact rfl;exact rfl;assumption;(first|exact List.not_mem_nil|assumption);exact rfl))|(apply Ok1.assign;exact rfl)|(apply Ok1.indexAddr;(iterate 5 exact rfl);omega;omega)|(apply Ok1.indexAddrA;(iterate 5 exact rfl);omega;omega)|(apply Ok1.nilCheck;exact rfl)|(apply Ok1.nilCheckF;exact rfl)|(apply Ok1.index1;(iterate 6 exact rfl);omega;omega;exact rfl)|(apply Ok1.indexk;(iterate 6 exact rfl);omega;omega;exact rfl)|(apply Ok1.convI64;(iterate 5 exact rfl);omega;omega)|(apply Ok1.convU64;(iterate 5 exact rfl);omega;omega)|(apply Ok1.convU32;(iterate 5 exact rfl);omega;omega)|(apply Ok1.convU8;(iterate 5 exact rfl);omega;omega)|(apply Ok1.conv;(iterate 5 exact rfl)))|(apply R.alloc;(iterate 3 exact rfl);intro))|(apply R.is0;first|(apply R.store;(iterate 6 exact rfl);(focus (repeat' first|exact Upd.head|apply Upd.tail|apply Upd.right);done);exact rfl)|fail)|(apply R.isG;first|(apply R.guard_run;exact rfl;exact rfl)|(apply R.guard_not;(iterate 3 exact rfl))|(apply R.guard_not0;exact rfl;exact rfl)|(apply R.guard_un;(iterate 3 exact rfl))|(apply R.guard_un0;exact rfl;exact rfl)|(apply R.guard rfl rfl ?_ (fun h=>⟨rfl,?_⟩)<;>try intro))|apply R.nil|(apply T.is;first|apply T.rounds 9|apply T.seq|apply T.region|apply T.block|apply T.scope|apply T.label|apply T.skip|apply T.exit|apply T.ret|(apply T.cond_t;exact rfl)|(apply T.cond_f;exact rfl)|(apply T.cond_h;exact rfl;assumption)|(apply T.cond_n;exact rfl;assumption)|(apply T.cond rfl<;>intro))|apply Rnd.step)
  (apply RetOk.c;exact rfl;(first|(apply Ld.ownk;exact rfl;exact rfl;(focus (repeat' first|exact At.head|apply At.tail|apply At.right);done);exact rfl)|(apply Ld.own1;exact rfl;exact rfl;(focus (repeat' first|exact At.head|apply At.tail|apply At.right);done);exact rfl)))
  simp only [u8_mod]
  rfl
theorem rdnone {n:Nat} {xs:List Int} {w:World} (hn:n=xs.length) (h:RdSl w none u8V xs):n=0:=by
  rcases h with h|⟨b,o,h,_⟩
  · rw [hn,h];rfl
  · cases h
theorem clone_ok (p:Option Addr) (n cap:Nat) (xs:List Int) (hn:n=xs.length) (hbig:n≤1000000000) (w:World) (hp:RdSl w p u8V xs):CallM Tryz.prog 35 [.slice p n cap] [] w fun v L=>∃ ov,OvOk 1 ov n (u8s xs)∧ov.isSome=p.isSome∧v=slV ov n∧L=blkL 5 ov (u8s xs):=by
  refine enterK (tb:=tb) Tryz.func35 rfl Tryz.ntmps35 rfl ?_
  cases p with
  | none =>
    have h0:=rdnone hn hp
    have hx:xs=[]:=List.eq_nil_of_length_eq_zero (by omega)
    subst hx
    repeat' (first|(apply R.is1;first|(apply R.isBin;first|(apply R.pure;exact rfl;first|(apply Ok1.eqlS;(iterate 5 exact rfl))|(apply Ok1.eql_t;exact rfl;exact rfl;omega)|(apply Ok1.eql_f;exact rfl;exact rfl;omega)|(apply Ok1.eqlP;(iterate 5 exact rfl))|(apply Ok1.eqlM;(iterate 5 exact rfl))|(apply Ok1.eqlS;(iterate 5 exact rfl)))|(apply R.eql rfl rfl rfl<;>intro)|(apply R.eqlF;(iterate 8 exact rfl);all_goals intro))|(apply R.pure;exact rfl;first|(apply Ok1.move;exact rfl)|(apply Ok1.assign;exact rfl))|(apply R.buildSlice;(iterate 12 exact rfl);intro))|(apply R.is0;first|fail)|(apply R.isG;first|(apply R.guard_run;exact rfl;exact rfl)|(apply R.guard_not;(iterate 3 exact rfl))|(apply R.guard_not0;exact rfl;exact rfl)|(apply R.guard_un;(iterate 3 exact rfl))|(apply R.guard_un0;exact rfl;exact rfl)|(apply R.guard rfl rfl ?_ (fun h=>⟨rfl,?_⟩)<;>try intro))|apply R.nil|(apply T.is;first|apply T.seq|apply T.region|apply T.block|apply T.scope|apply T.label|apply T.skip|apply T.exit|apply T.ret|(apply T.cond_t;exact rfl)|(apply T.cond_f;exact rfl)|(apply T.cond_h;exact rfl;assumption)|(apply T.cond_n;exact rfl;assumption)|(apply T.cond rfl<;>intro))|apply Rnd.step)
    (apply RetOk.t;exact rfl)
    exact ⟨_,by (focus (repeat' first|exact Keep.nil _|exact Ext.one _ _|exact Ext.here _ _|exact Ext.all _|apply Keep.cons|apply Keep.app|apply Keep.last|apply Ext.cons|apply Ext.app);done),none,by rw [h0];exact OvOk.start 1,rfl,rfl,rfl⟩
  | some a =>
    repeat' (first|(apply R.is1;first|(apply R.buildSlice0;(iterate 4 exact rfl);intro b0)|(apply R.isBin;first|(apply R.pure;exact rfl;first|(apply Ok1.eqlS;(iterate 5 exact rfl))|(apply Ok1.eql_t;exact rfl;exact rfl;omega)|(apply Ok1.eql_f;exact rfl;exact rfl;omega)|(apply Ok1.eqlP;(iterate 5 exact rfl))|(apply Ok1.eqlM;(iterate 5 exact rfl))|(apply Ok1.eqlS;(iterate 5 exact rfl)))|(apply R.eql rfl rfl rfl<;>intro)|(apply R.eqlF;(iterate 8 exact rfl);all_goals intro))|(apply R.isCall;first|(apply R.appendRd (xs:=xs) (v:=u8V) (sz:=1) (ov:=some (b0,0,[])) (n:=0) (old:=[]);(iterate 12 exact rfl);exact ⟨rfl,rfl⟩;(focus (repeat' first|exact Ext.none _|exact Ext.one _ _|exact Ext.here _ _|exact Ext.all _|apply Ext.cons|apply Ext.app|apply Ext.two);done);exact hn;exact u8V_len;exact rfl;(intro w1 hw1;exact hp.chg hw1.chg (Off.nil _));(focus (rw [fl_u8];exact u8s_one xs));omega;intro ov1 hov1 hsome))|(apply R.pure;exact rfl;first|(apply Ok1.move;exact rfl)|(apply Ok1.assign;exact rfl))|(apply R.buildSlice;(iterate 12 exact rfl);intro))|(apply R.is0;first|fail)|(apply R.isG;first|(apply R.guard_run;exact rfl;exact rfl)|(apply R.guard_not;(iterate 3 exact rfl))|(apply R.guard_not0;exact rfl;exact rfl)|(apply R.guard_un;(iterate 3 exact rfl))|(apply R.guard_un0;exact rfl;exact rfl)|(apply R.guard rfl rfl ?_ (fun h=>⟨rfl,?_⟩)<;>try intro))|apply R.nil|(apply T.is;first|apply T.seq|apply T.region|apply T.block|apply T.scope|apply T.label|apply T.skip|apply T.exit|apply T.ret|(apply T.cond_t;exact rfl)|(apply T.cond_f;exact rfl)|(apply T.cond_h;exact rfl;assumption)|(apply T.cond_n;exact rfl;assumption)|(apply T.cond rfl<;>intro))|apply Rnd.step)
    rw [Nat.zero_add,List.nil_append,fl_u8] at hov1
    rw [Nat.zero_add,List.nil_append,fl_u8]
    repeat' (first|(apply R.is1;first|(apply R.isBin;first|(apply R.pure;exact rfl;first|(apply Ok1.eql_t;exact rfl;exact rfl;omega)|(apply Ok1.eql_f;exact rfl;exact rfl;omega)|(apply Ok1.eqlP;(iterate 5 exact rfl))|(apply Ok1.eqlM;(iterate 5 exact rfl))|(apply Ok1.eqlS;(iterate 5 exact rfl)))|(apply R.eql rfl rfl rfl<;>intro)|(apply R.eqlF;(iterate 8 exact rfl);all_goals intro))|(apply R.pure;exact rfl;first|(apply Ok1.move;exact rfl)|(apply Ok1.assign;exact rfl))|(apply R.buildSlice;(iterate 12 exact rfl);intro))|(apply R.is0;first|fail)|(apply R.isG;first|(apply R.guard_run;exact rfl;exact rfl)|(apply R.guard_not;(iterate 3 exact rfl))|(apply R.guard_not0;exact rfl;exact rfl)|(apply R.guard_un;(iterate 3 exact rfl))|(apply R.guard_un0;exact rfl;exact rfl)|(apply R.guard rfl rfl ?_ (fun h=>⟨rfl,?_⟩)<;>try intro))|apply R.nil|(apply T.is;first|apply T.seq|apply T.region|apply T.block|apply T.scope|apply T.label|apply T.skip|apply T.exit|apply T.ret|(apply T.cond_t;exact rfl)|(apply T.cond_f;exact rfl)|(apply T.cond_h;exact rfl;assumption)|(apply T.cond_n;exact rfl;assumption)|(apply T.cond rfl<;>intro))|apply Rnd.step)
    (apply RetOk.t;exact rfl)
    refine ⟨_,?_,ov1,hov1,by rw [hsome rfl];rfl,rfl,rfl⟩
    (focus (repeat' first|exact Keep.nil _|exact Ext.one _ _|exact Ext.here _ _|exact Ext.all _|apply Keep.cons|apply Keep.app|apply Keep.last|apply Ext.cons|apply Ext.app);done)
theorem grow_ok (n:Nat) (hbig:n≤1000000000) (w:World):CallM Tryz.prog 107 [.slice none 0 0,.int .i64 n] [] w fun v L=>∃ ov,OvOk 1 ov 0 []∧v=slV ov 0∧L=blkL 5 ov []:=by
  refine enterK (tb:=tb) Tryz.func107 rfl Tryz.ntmps107 rfl ?_
  rcases Nat.eq_zero_or_pos n with h0|h0
  · subst h0
    repeat' (first|(apply R.is1;first|(apply R.isBin;first|(apply R.pure;exact rfl;first|(apply Ok1.sub64;exact rfl;exact rfl;omega;omega)|(apply Ok1.lss_t;exact rfl;exact rfl;omega)|(apply Ok1.lss_f;exact rfl;exact rfl;omega)|(apply Ok1.gtr_t;exact rfl;exact rfl;omega)|(apply Ok1.gtr_f;exact rfl;exact rfl;omega))|(apply R.lss rfl rfl rfl<;>intro)|(apply R.gtr rfl rfl rfl<;>intro))|(apply R.isCall;first|(apply R.pure;exact rfl;first|(apply Ok1.lenS;(iterate 3 exact rfl))|(apply Ok1.lenStr;(iterate 3 exact rfl))|(apply Ok1.lenMm;(iterate 3 exact rfl);(focus (repeat' first|exact At.head|apply At.tail|apply At.right);done))|(apply Ok1.lenM_nil;(iterate 3 exact rfl))))|(apply R.pure;exact rfl;first|(apply Ok1.capS;(iterate 3 exact rfl))|(apply Ok1.move;exact rfl)|(apply Ok1.assign;exact rfl)|(apply Ok1.slice0;(iterate 7 exact rfl);(refine ⟨?_,?_,?_⟩<;>omega);(first|exact Or.inl rfl|exact Or.inr (fun e=>by cases e)))|(apply Ok1.sliceTo;(iterate 6 exact rfl);omega;omega;omega;(first|exact Or.inl rfl|exact Or.inr (fun e=>by cases e)))|(apply Ok1.sliceFrom;(iterate 7 exact rfl);omega;omega;omega;omega;omega;(first|exact Or.inl rfl|exact Or.inr (fun e=>by cases e)))))|(apply R.is0;first|fail)|(apply R.isG;first|(apply R.guard_run;exact rfl;exact rfl)|(apply R.guard_not;(iterate 3 exact rfl))|(apply R.guard_not0;exact rfl;exact rfl)|(apply R.guard_un;(iterate 3 exact rfl))|(apply R.guard_un0;exact rfl;exact rfl)|(apply R.guard rfl rfl ?_ (fun h=>⟨rfl,?_⟩)<;>try intro))|apply R.nil|(apply T.is;first|apply T.seq|apply T.region|apply T.block|apply T.scope|apply T.label|apply T.skip|apply T.exit|apply T.ret|(apply T.cond_t;exact rfl)|(apply T.cond_f;exact rfl)|(apply T.cond_h;exact rfl;assumption)|(apply T.cond_n;exact rfl;assumption)|(apply T.cond rfl<;>intro))|apply Rnd.step)
    (apply RetOk.t;exact rfl)
    exact ⟨_,by (focus (repeat' first|exact Keep.nil _|exact Ext.one _ _|exact Ext.here _ _|exact Ext.all _|apply Keep.cons|apply Keep.app|apply Keep.last|apply Ext.cons|apply Ext.app);done),none,OvOk.start 1,rfl,rfl⟩
  · repeat' (first|(apply R.is1;first|(apply R.isBin;first|(apply R.pure;exact rfl;first|(apply Ok1.sub64;exact rfl;exact rfl;omega;omega)|(apply Ok1.lss_t;exact rfl;exact rfl;omega)|(apply Ok1.lss_f;exact rfl;exact rfl;omega)|(apply Ok1.gtr_t;exact rfl;exact rfl;omega)|(apply Ok1.gtr_f;exact rfl;exact rfl;omega))|(apply R.lss rfl rfl rfl<;>intro)|(apply R.gtr rfl rfl rfl<;>intro))|(apply R.isCall;first|(apply R.growMk (n:=n);(iterate 12 exact rfl);omega;omega;intro b0 j0)|(apply R.pure;exact rfl;first|(apply Ok1.lenS;(iterate 3 exact rfl))|(apply Ok1.lenStr;(iterate 3 exact rfl))|(apply Ok1.lenMm;(iterate 3 exact rfl);(focus (repeat' first|exact At.head|apply At.tail|apply At.right);done))|(apply Ok1.lenM_nil;(iterate 3 exact rfl))))|(apply R.pure;exact rfl;first|(apply Ok1.capS;(iterate 3 exact rfl))|(apply Ok1.move;exact rfl)|(apply Ok1.assign;exact rfl)|(apply Ok1.slice0;(iterate 7 exact rfl);(refine ⟨?_,?_,?_⟩<;>omega);(first|exact Or.inl rfl|exact Or.inr (fun e=>by cases e)))|(apply Ok1.sliceTo;(iterate 6 exact rfl);omega;omega;omega;(first|exact Or.inl rfl|exact Or.inr (fun e=>by cases e)))|(apply Ok1.sliceFrom;(iterate 7 exact rfl);omega;omega;omega;omega;omega;(first|exact Or.inl rfl|exact Or.inr (fun e=>by cases e)))))|(apply R.is0;first|fail)|(apply R.isG;first|(apply R.guard_run;exact rfl;exact rfl)|(apply R.guard_not;(iterate 3 exact rfl))|(apply R.guard_not0;exact rfl;exact rfl)|(apply R.guard_un;(iterate 3 exact rfl))|(apply R.guard_un0;exact rfl;exact rfl)|(apply R.guard rfl rfl ?_ (fun h=>⟨rfl,?_⟩)<;>try intro))|apply R.nil|(apply T.is;first|apply T.seq|apply T.region|apply T.block|apply T.scope|apply T.label|apply T.skip|apply T.exit|apply T.ret|(apply T.cond_t;exact rfl)|(apply T.cond_f;exact rfl)|(apply T.cond_h;exact rfl;assumption)|(apply T.cond_n;exact rfl;assumption)|(apply T.cond rfl<;>intro))|apply Rnd.step)
    (apply RetOk.t;exact rfl)
    refine ⟨_,?_,some (b0,n+j0,List.replicate (n+j0) (.int .u8 0)),⟨rfl,by simp⟩,by simp [slV];omega,rfl⟩
    simp only [blkL,List.nil_append]
    (focus (repeat' first|exact Keep.nil _|exact Ext.one _ _|exact Ext.here _ _|exact Ext.all _|apply Keep.cons|apply Keep.app|apply Keep.last|apply Ext.cons|apply Ext.app);done)
/-- A part: a slice of bytes. -/
structure Pt where
  p:Option Addr
  cap:Nat
  xs:List Int
deriving Inhabited
def Pt.v (x:Pt):List Value:=[.slice x.p x.xs.length x.cap]
theorem Pt.v_len (x:Pt):x.v.length=1:=rfl
def cat (ps:List Pt):List Int:=ps.flatMap (·.xs)
theorem cat_nil:cat []=[]:=rfl
theorem cat_snoc {ps:List Pt} {i:Nat} {x:Pt} (h:ps[i]? = some x):cat (ps.take (i+1))=cat (ps.take i)++x.xs:=by
  unfold cat
  rw [List.take_add_one,h,List.flatMap_append]
  simp
theorem cat_le (ps:List Pt) (i:Nat):(cat (ps.take i)).length≤(cat ps).length:=by
  conv=>rhs;rw [← List.take_append_drop i ps]
  unfold cat
  rw [List.flatMap_append,List.length_append]
  omega
theorem concat_ok (p:Option Addr) (n cap:Nat) (ps:List Pt) (hn:n=ps.length) (hbig:(cat ps).length≤1000000000) (hbig2:n≤1000000000) (w:World) (hp:RdSl w p Pt.v ps) (hall:∀ x∈ps,RdSl w x.p u8V x.xs) :
    CallM Tryz.prog 95 [.slice p n cap] [] w fun v L=>∃ ov,OvOk 1 ov (cat ps).length (u8s (cat ps))∧v=slV ov (cat ps).length∧L=blkL 5 ov (u8s (cat ps)):=by
  subst hn
  refine enterK (tb:=tb) Tryz.func95 rfl Tryz.ntmps95 rfl ?_
  repeat' (first|(apply R.is1;first|(apply R.isBin;first|(apply R.pure;exact rfl;first|(apply Ok1.add64;exact rfl;exact rfl;omega;omega)|(apply Ok1.lss_t;exact rfl;exact rfl;omega)|(apply Ok1.lss_f;exact rfl;exact rfl;omega))|(apply R.lss rfl rfl rfl<;>intro))|(apply R.isCall;first|(apply R.pure;exact rfl;first|(apply Ok1.lenS;(iterate 3 exact rfl))|(apply Ok1.lenStr;(iterate 3 exact rfl))|(apply Ok1.lenMm;(iterate 3 exact rfl);(focus (repeat' first|exact At.head|apply At.tail|apply At.right);done))|(apply Ok1.lenM_nil;(iterate 3 exact rfl))))|(apply R.pure;exact rfl;first|(apply Ok1.move;exact rfl)|(apply Ok1.load;exact rfl;first|(apply Ld.own1;exact rfl;exact rfl;(focus (repeat' first|exact At.head|apply At.tail|apply At.right);done);exact rfl)|(apply Ld.ownk;exact rfl;exact rfl;(focus (repeat' first|exact At.head|apply At.tail|apply At.right);done);exact rfl)|(apply Ld.old1;exact rfl;exact rfl;assumption;(first|exact List.not_mem_nil|assumption))|(apply Ld.blk1;exact rfl;exact rfl;assumption;(first|exact List.not_mem_nil|assumption);exact rfl)|(apply Ld.blkk;exact rfl;exact rfl;assumption;(first|exact List.not_mem_nil|assumption);exact rfl))|(apply Ok1.assign;exact rfl)|(apply Ok1.indexAddr;(iterate 5 exact rfl);omega;omega)|(apply Ok1.indexAddrA;(iterate 5 exact rfl);omega;omega)))|(apply R.is0;first|fail)|(apply R.isG;first|(apply R.guard_run;exact rfl;exact rfl)|(apply R.guard_not;(iterate 3 exact rfl))|(apply R.guard_not0;exact rfl;exact rfl)|(apply R.guard_un;(iterate 3 exact rfl))|(apply R.guard_un0;exact rfl;exact rfl)|(apply R.guard rfl rfl ?_ (fun h=>⟨rfl,?_⟩)<;>try intro))|apply R.nil|(apply T.is;first|apply T.seq|apply T.region|apply T.block|apply T.scope|apply T.label|apply T.skip|apply T.exit|apply T.ret|(apply T.cond_t;exact rfl)|(apply T.cond_f;exact rfl)|(apply T.cond_h;exact rfl;assumption)|(apply T.cond_n;exact rfl;assumption)|(apply T.cond rfl<;>intro))|apply Rnd.step)
  apply T.loopK (α:=Nat) (I:=fun i=>i≤ps.length) (σi:=fun i=>[(0,.slice p ps.length cap),(3,.int .i64 (cat (ps.take i)).length),(9,.slice p ps.length cap),(10,.int .i64 ps.length),(11,.int .i64 i)]) (Li:=fun _=>[]) (μ:=fun i=>ps.length - i) (i0:=0)
  · exact Nat.zero_le _
  · exact ⟨rfl,rfl,rfl,rfl,rfl,trivial⟩
  · (focus (repeat' first|exact Keep.nil _|exact Ext.one _ _|exact Ext.here _ _|exact Ext.all _|apply Keep.cons|apply Keep.app|apply Keep.last|apply Ext.cons|apply Ext.app);done)
  · intro i hi
    have hle:=cat_le ps i
    rcases Nat.lt_or_ge i ps.length with hlt|hge
    · obtain ⟨x,hx⟩:∃ x,ps[i]? = some x:=⟨_,List.getElem?_eq_getElem (by omega)⟩
      obtain ⟨b,o,hpe,H⟩:=hp.at hx
      replace H:=H 1 Pt.v_len
      have hs:=cat_snoc hx
      have hl:=congrArg List.length hs
      rw [List.length_append] at hl
      have hle2:=cat_le ps (i+1)
      repeat' (first|(apply R.is1;first|(apply R.isBin;first|(apply R.pure;exact rfl;first|(apply Ok1.add64;exact rfl;exact rfl;omega;omega)|(apply Ok1.lss_t;exact rfl;exact rfl;omega)|(apply Ok1.lss_f;exact rfl;exact rfl;omega))|(apply R.lss rfl rfl rfl<;>intro))|(apply R.isCall;first|(apply R.pure;exact rfl;first|(apply Ok1.lenS;(iterate 3 exact rfl))|(apply Ok1.lenStr;(iterate 3 exact rfl))|(apply Ok1.lenMm;(iterate 3 exact rfl);(focus (repeat' first|exact At.head|apply At.tail|apply At.right);done))|(apply Ok1.lenM_nil;(iterate 3 exact rfl))))|(apply R.pure;exact rfl;first|(apply Ok1.indexAddrP;(iterate 4 exact rfl);exact hpe;exact rfl;omega;omega)|(apply Ok1.load;exact rfl;apply Ld.row0 H;exact rfl;exact List.not_mem_nil;(iterate 3 exact rfl))|(apply Ok1.move;exact rfl)|(apply Ok1.load;exact rfl;first|(apply Ld.own1;exact rfl;exact rfl;(focus (repeat' first|exact At.head|apply At.tail|apply At.right);done);exact rfl)|(apply Ld.ownk;exact rfl;exact rfl;(focus (repeat' first|exact At.head|apply At.tail|apply At.right);done);exact rfl)|(apply Ld.old1;exact rfl;exact rfl;assumption;(first|exact List.not_mem_nil|assumption))|(apply Ld.blk1;exact rfl;exact rfl;assumption;(first|exact List.not_mem_nil|assumption);exact rfl)|(apply Ld.blkk;exact rfl;exact rfl;assumption;(first|exact List.not_mem_nil|assumption);exact rfl))|(apply Ok1.assign;exact rfl)|(apply Ok1.indexAddr;(iterate 5 exact rfl);omega;omega)|(apply Ok1.indexAddrA;(iterate 5 exact rfl);omega;omega)))|(apply R.is0;first|fail)|(apply R.isG;first|(apply R.guard_run;exact rfl;exact rfl)|(apply R.guard_not;(iterate 3 exact rfl))|(apply R.guard_not0;exact rfl;exact rfl)|(apply R.guard_un;(iterate 3 exact rfl))|(apply R.guard_un0;exact rfl;exact rfl)|(apply R.guard rfl rfl ?_ (fun h=>⟨rfl,?_⟩)<;>try intro))|apply R.nil|(apply T.is;first|apply T.seq|apply T.region|apply T.block|apply T.scope|apply T.label|apply T.skip|apply T.exit|apply T.ret|(apply T.cond_t;exact rfl)|(apply T.cond_f;exact rfl)|(apply T.cond_h;exact rfl;assumption)|(apply T.cond_n;exact rfl;assumption)|(apply T.cond rfl<;>intro))|apply Rnd.step)
      refine ⟨i+1,by omega,by omega,⟨rfl,?_,rfl,rfl,rfl,trivial⟩,by (focus (repeat' first|exact Keep.nil _|exact Ext.one _ _|exact Ext.here _ _|exact Ext.all _|apply Keep.cons|apply Keep.app|apply Keep.last|apply Ext.cons|apply Ext.app);done)⟩
      rw [hl]
      rfl
    · have him:i=ps.length:=by omega
      subst him
      rw [List.take_length]
      have hgr:=fun w1=>grow_ok (cat ps).length hbig w1
      repeat' (first|(apply R.is1;first|(apply R.isBin;first|(apply R.pure;exact rfl;first|(apply Ok1.add64;exact rfl;exact rfl;omega;omega)|(apply Ok1.lss_t;exact rfl;exact rfl;omega)|(apply Ok1.lss_f;exact rfl;exact rfl;omega))|(apply R.lss rfl rfl rfl<;>intro))|(apply R.isCall;first|(apply R.callE;(iterate 3 exact rfl);exact Ext.none _;intro w1 hw1;exact hgr w1;rintro v Lo ⟨ov0,hov0,rfl,rfl⟩)|(apply R.pure;exact rfl;first|(apply Ok1.lenS;(iterate 3 exact rfl))|(apply Ok1.lenStr;(iterate 3 exact rfl))|(apply Ok1.lenMm;(iterate 3 exact rfl);(focus (repeat' first|exact At.head|apply At.tail|apply At.right);done))|(apply Ok1.lenM_nil;(iterate 3 exact rfl))))|(apply R.pure;exact rfl;first|(apply Ok1.move;exact rfl)|(apply Ok1.load;exact rfl;first|(apply Ld.own1;exact rfl;exact rfl;(focus (repeat' first|exact At.head|apply At.tail|apply At.right);done);exact rfl)|(apply Ld.ownk;exact rfl;exact rfl;(focus (repeat' first|exact At.head|apply At.tail|apply At.right);done);exact rfl)|(apply Ld.old1;exact rfl;exact rfl;assumption;(first|exact List.not_mem_nil|assumption))|(apply Ld.blk1;exact rfl;exact rfl;assumption;(first|exact List.not_mem_nil|assumption);exact rfl)|(apply Ld.blkk;exact rfl;exact rfl;assumption;(first|exact List.not_mem_nil|assumption);exact rfl))|(apply Ok1.assign;exact rfl)|(apply Ok1.indexAddr;(iterate 5 exact rfl);omega;omega)|(apply Ok1.indexAddrA;(iterate 5 exact rfl);omega;omega)))|(apply R.is0;first|fail)|(apply R.isG;first|(apply R.guard_run;exact rfl;exact rfl)|(apply R.guard_not;(iterate 3 exact rfl))|(apply R.guard_not0;exact rfl;exact rfl)|(apply R.guard_un;(iterate 3 exact rfl))|(apply R.guard_un0;exact rfl;exact rfl)|(apply R.guard rfl rfl ?_ (fun h=>⟨rfl,?_⟩)<;>try intro))|apply R.nil|(apply T.is;first|apply T.seq|apply T.region|apply T.block|apply T.scope|apply T.label|apply T.skip|apply T.exit|apply T.ret|(apply T.cond_t;exact rfl)|(apply T.cond_f;exact rfl)|(apply T.cond_h;exact rfl;assumption)|(apply T.cond_n;exact rfl;assumption)|(apply T.cond rfl<;>intro))|apply Rnd.step)
      apply T.loopK (α:=Nat × Ov) (I:=fun y=>y.1≤ps.length∧OvOk 1 y.2 (cat (ps.take y.1)).length (u8s (cat (ps.take y.1)))) (σi:=fun y=>[(6,slV y.2 (cat (ps.take y.1)).length),(25,.slice p ps.length cap),(26,.int .i64 ps.length),(27,.int .i64 y.1)]) (Li:=fun y=>blkL 5 y.2 (u8s (cat (ps.take y.1)))) (μ:=fun y=>ps.length - y.1) (i0:=(0,ov0))
      · exact ⟨Nat.zero_le _,hov0⟩
      · exact ⟨rfl,rfl,rfl,rfl,trivial⟩
      · simp only [List.take_zero,cat_nil]
        change Keep _ (blkL 5 ov0 [])
        (focus (repeat' first|exact Keep.nil _|exact Ext.one _ _|exact Ext.here _ _|exact Ext.all _|apply Keep.cons|apply Keep.app|apply Keep.last|apply Ext.cons|apply Ext.app);done)
      · rintro ⟨i,ov⟩ ⟨hi,hov⟩
        simp only at hi hov ⊢
        rcases Nat.lt_or_ge i ps.length with hlt|hge
        · obtain ⟨x,hx⟩:∃ x,ps[i]? = some x:=⟨_,List.getElem?_eq_getElem (by omega)⟩
          obtain ⟨b,o,hpe,H⟩:=hp.at hx
          replace H:=H 1 Pt.v_len
          have hs:=cat_snoc hx
          have hl:=congrArg List.length hs
          rw [List.length_append] at hl
          have hle2:=cat_le ps (i+1)
          have hrd:=hall x (List.mem_of_getElem? hx)
          repeat' (first|(apply R.is1;first|(apply R.isBin;first|(apply R.pure;exact rfl;first|(apply Ok1.add64;exact rfl;exact rfl;omega;omega)|(apply Ok1.lss_t;exact rfl;exact rfl;omega)|(apply Ok1.lss_f;exact rfl;exact rfl;omega))|(apply R.lss rfl rfl rfl<;>intro))|(apply R.isCall;first|(apply R.appendRd (xs:=x.xs) (v:=u8V) (sz:=1) (ov:=ov) (n:=(cat (ps.take i)).length) (old:=u8s (cat (ps.take i)));(iterate 12 exact rfl);exact hov;(focus (repeat' first|exact Ext.none _|exact Ext.one _ _|exact Ext.here _ _|exact Ext.all _|apply Ext.cons|apply Ext.app|apply Ext.two);done);exact rfl;exact u8V_len;exact rfl;(intro w1 hw1;exact hrd.chg hw1.chg (Off.nil _));(focus (rw [fl_u8];exact u8s_one x.xs));omega;intro ov1 hov1 hsome)|(apply R.pure;exact rfl;first|(apply Ok1.lenS;(iterate 3 exact rfl))|(apply Ok1.lenStr;(iterate 3 exact rfl))|(apply Ok1.lenMm;(iterate 3 exact rfl);(focus (repeat' first|exact At.head|apply At.tail|apply At.right);done))|(apply Ok1.lenM_nil;(iterate 3 exact rfl))))|(apply R.pure;exact rfl;first|(apply Ok1.indexAddrP;(iterate 4 exact rfl);exact hpe;exact rfl;omega;omega)|(apply Ok1.load;exact rfl;apply Ld.row0 H;exact rfl;exact List.not_mem_nil;(iterate 3 exact rfl))|(apply Ok1.move;exact rfl)|(apply Ok1.load;exact rfl;first|(apply Ld.own1;exact rfl;exact rfl;(focus (repeat' first|exact At.head|apply At.tail|apply At.right);done);exact rfl)|(apply Ld.ownk;exact rfl;exact rfl;(focus (repeat' first|exact At.head|apply At.tail|apply At.right);done);exact rfl)|(apply Ld.old1;exact rfl;exact rfl;assumption;(first|exact List.not_mem_nil|assumption))|(apply Ld.blk1;exact rfl;exact rfl;assumption;(first|exact List.not_mem_nil|assumption);exact rfl)|(apply Ld.blkk;exact rfl;exact rfl;assumption;(first|exact List.not_mem_nil|assumption);exact rfl))|(apply Ok1.assign;exact rfl)|(apply Ok1.indexAddr;(iterate 5 exact rfl);omega;omega)|(apply Ok1.indexAddrA;(iterate 5 exact rfl);omega;omega)))|(apply R.is0;first|fail)|(apply R.isG;first|(apply R.guard_run;exact rfl;exact rfl)|(apply R.guard_not;(iterate 3 exact rfl))|(apply R.guard_not0;exact rfl;exact rfl)|(apply R.guard_un;(iterate 3 exact rfl))|(apply R.guard_un0;exact rfl;exact rfl)|(apply R.guard rfl rfl ?_ (fun h=>⟨rfl,?_⟩)<;>try intro))|apply R.nil|(apply T.is;first|apply T.seq|apply T.region|apply T.block|apply T.scope|apply T.label|apply T.skip|apply T.exit|apply T.ret|(apply T.cond_t;exact rfl)|(apply T.cond_f;exact rfl)|(apply T.cond_h;exact rfl;assumption)|(apply T.cond_n;exact rfl;assumption)|(apply T.cond rfl<;>intro))|apply Rnd.step)
          rw [fl_u8,← u8s_app,← hs,← hl] at hov1
          rw [fl_u8,← u8s_app,← hs,← hl]
          repeat' (first|(apply R.is1;first|(apply R.isBin;first|(apply R.pure;exact rfl;first|(apply Ok1.add64;exact rfl;exact rfl;omega;omega)|(apply Ok1.lss_t;exact rfl;exact rfl;omega)|(apply Ok1.lss_f;exact rfl;exact rfl;omega))|(apply R.lss rfl rfl rfl<;>intro))|(apply R.isCall;first|(apply R.pure;exact rfl;first|(apply Ok1.lenS;(iterate 3 exact rfl))|(apply Ok1.lenStr;(iterate 3 exact rfl))|(apply Ok1.lenMm;(iterate 3 exact rfl);(focus (repeat' first|exact At.head|apply At.tail|apply At.right);done))|(apply Ok1.lenM_nil;(iterate 3 exact rfl))))|(apply R.pure;exact rfl;first|(apply Ok1.move;exact rfl)|(apply Ok1.load;exact rfl;first|(apply Ld.own1;exact rfl;exact rfl;(focus (repeat' first|exact At.head|apply At.tail|apply At.right);done);exact rfl)|(apply Ld.ownk;exact rfl;exact rfl;(focus (repeat' first|exact At.head|apply At.tail|apply At.right);done);exact rfl)|(apply Ld.old1;exact rfl;exact rfl;assumption;(first|exact List.not_mem_nil|assumption))|(apply Ld.blk1;exact rfl;exact rfl;assumption;(first|exact List.not_mem_nil|assumption);exact rfl)|(apply Ld.blkk;exact rfl;exact rfl;assumption;(first|exact List.not_mem_nil|assumption);exact rfl))|(apply Ok1.assign;exact rfl)|(apply Ok1.indexAddr;(iterate 5 exact rfl);omega;omega)|(apply Ok1.indexAddrA;(iterate 5 exact rfl);omega;omega)))|(apply R.is0;first|fail)|(apply R.isG;first|(apply R.guard_run;exact rfl;exact rfl)|(apply R.guard_not;(iterate 3 exact rfl))|(apply R.guard_not0;exact rfl;exact rfl)|(apply R.guard_un;(iterate 3 exact rfl))|(apply R.guard_un0;exact rfl;exact rfl)|(apply R.guard rfl rfl ?_ (fun h=>⟨rfl,?_⟩)<;>try intro))|apply R.nil|(apply T.is;first|apply T.seq|apply T.region|apply T.block|apply T.scope|apply T.label|apply T.skip|apply T.exit|apply T.ret|(apply T.cond_t;exact rfl)|(apply T.cond_f;exact rfl)|(apply T.cond_h;exact rfl;assumption)|(apply T.cond_n;exact rfl;assumption)|(apply T.cond rfl<;>intro))|apply Rnd.step)
          exact ⟨(i+1,ov1),⟨by simp only;omega,hov1⟩,by simp only;omega,⟨rfl,rfl,rfl,rfl,trivial⟩,by (focus (repeat' first|exact Keep.nil _|exact Ext.one _ _|exact Ext.here _ _|exact Ext.all _|apply Keep.cons|apply Keep.app|apply Keep.last|apply Ext.cons|apply Ext.app);done)⟩
        · have him:i=ps.length:=by omega
          subst him
          rw [List.take_length] at hov ⊢
          repeat' (first|(apply R.is1;first|(apply R.isBin;first|(apply R.pure;exact rfl;first|(apply Ok1.add64;exact rfl;exact rfl;omega;omega)|(apply Ok1.lss_t;exact rfl;exact rfl;omega)|(apply Ok1.lss_f;exact rfl;exact rfl;omega))|(apply R.lss rfl rfl rfl<;>intro))|(apply R.isCall;first|(apply R.pure;exact rfl;first|(apply Ok1.lenS;(iterate 3 exact rfl))|(apply Ok1.lenStr;(iterate 3 exact rfl))|(apply Ok1.lenMm;(iterate 3 exact rfl);(focus (repeat' first|exact At.head|apply At.tail|apply At.right);done))|(apply Ok1.lenM_nil;(iterate 3 exact rfl))))|(apply R.pure;exact rfl;first|(apply Ok1.move;exact rfl)|(apply Ok1.load;exact rfl;first|(apply Ld.own1;exact rfl;exact rfl;(focus (repeat' first|exact At.head|apply At.tail|apply At.right);done);exact rfl)|(apply Ld.ownk;exact rfl;exact rfl;(focus (repeat' first|exact At.head|apply At.tail|apply At.right);done);exact rfl)|(apply Ld.old1;exact rfl;exact rfl;assumption;(first|exact List.not_mem_nil|assumption))|(apply Ld.blk1;exact rfl;exact rfl;assumption;(first|exact List.not_mem_nil|assumption);exact rfl)|(apply Ld.blkk;exact rfl;exact rfl;assumption;(first|exact List.not_mem_nil|assumption);exact rfl))|(apply Ok1.assign;exact rfl)|(apply Ok1.indexAddr;(iterate 5 exact rfl);omega;omega)|(apply Ok1.indexAddrA;(iterate 5 exact rfl);omega;omega)))|(apply R.is0;first|fail)|(apply R.isG;first|(apply R.guard_run;exact rfl;exact rfl)|(apply R.guard_not;(iterate 3 exact rfl))|(apply R.guard_not0;exact rfl;exact rfl)|(apply R.guard_un;(iterate 3 exact rfl))|(apply R.guard_un0;exact rfl;exact rfl)|(apply R.guard rfl rfl ?_ (fun h=>⟨rfl,?_⟩)<;>try intro))|apply R.nil|(apply T.is;first|apply T.seq|apply T.region|apply T.block|apply T.scope|apply T.label|apply T.skip|apply T.exit|apply T.ret|(apply T.cond_t;exact rfl)|(apply T.cond_f;exact rfl)|(apply T.cond_h;exact rfl;assumption)|(apply T.cond_n;exact rfl;assumption)|(apply T.cond rfl<;>intro))|apply Rnd.step)
          (apply RetOk.t;exact rfl)
          exact ⟨_,by (focus (repeat' first|exact Keep.nil _|exact Ext.one _ _|exact Ext.here _ _|exact Ext.all _|apply Keep.cons|apply Keep.app|apply Keep.last|apply Ext.cons|apply Ext.app);done),ov,hov,rfl,rfl⟩
end Go.Proofs.YtijbmkjebidanaaGreatDoor
