/- Texts of the proof: Eng1, Eng2, Eng8, Eng14, Eng33, Eng19, Eng21, Eng24. -/
import Derived.WalkKit
import Derived.Scope
import Derived.Orders
import Derived.Shelf.Abstract
import Derived.Sort.Grow
import Derived.Deep.Draws
import Derived.LoopN
import Derived.OrdersHeld
import Derived.Laws.StructEq
set_option linter.unusedSimpArgs false
set_option linter.unusedVariables false
namespace Go.Proofs.YtcfdgnajepilbaaGreat
open Go.RowKit Go.Shelf
/-- What may have changed: the blocks of S,and nothing else that was there. -/
structure Chg (S:List Nat) (w w':World):Prop where
  os:w'.os=w.os
  tape:w'.tape=w.tape
  output:w'.output=w.output
  size:w.heap.size≤w'.heap.size
  drawn:w.drawn≤w'.drawn
  block:∀ k,k < w.heap.size→k ∉ S→w'.heap[k]? = w.heap[k]?

theorem Chg.refl (S:List Nat) (w:World):Chg S w w:=⟨rfl,rfl,rfl,Nat.le_refl _,Nat.le_refl _,fun _ _ _=>rfl⟩
theorem Chg.trans {S:List Nat} {a b c:World} (h:Chg S a b) (k:Chg S b c):Chg S a c :=
  ⟨k.os.trans h.os,k.tape.trans h.tape,k.output.trans h.output,Nat.le_trans h.size k.size,Nat.le_trans h.drawn k.drawn,
   fun i hi hs=>(k.block i (Nat.lt_of_lt_of_le hi h.size) hs).trans (h.block i hi hs)⟩
theorem Chg.mono {S S':List Nat} {w w':World} (h:Chg S w w') (hs:∀ b∈S,b∈S'):Chg S' w w' :=
  ⟨h.os,h.tape,h.output,h.size,h.drawn,fun k hk hk'=>h.block k hk fun hm=>hk' (hs k hm)⟩
theorem Chg.below {w w':World} (h:Chg [] w w'):Below w.heap.size w w' :=
  ⟨h.os,h.tape,h.output,h.size,fun k hk=>h.block k hk (by simp)⟩
theorem Chg.alloc (S:List Nat) (w:World) (o:Obj):Chg S w (w.alloc o) :=
  ⟨rfl,rfl,rfl,by simp,Nat.le_refl _,fun k hk _=>Below.heap_alloc w o k hk⟩
theorem Chg.drew (S:List Nat) (w:World):Chg S w w.drew:=⟨rfl,rfl,rfl,Nat.le_refl _,by simp,fun _ _ _=>rfl⟩
theorem Chg.setCell {S:List Nat} (w:World) {a:Addr} (v:Value) (h:a.block∈S):Chg S w (w.setCell a v) :=
  ⟨rfl,rfl,rfl,by simp,Nat.le_refl _,fun k _ hk'=>Below.heap_setCell w a v k fun e=>hk' (e ▸ h)⟩
theorem Chg.setObj {S:List Nat} (w:World) {r:Nat} (o:Obj) (h:r∈S):Chg S w { w with heap:=w.heap.setIfInBounds r o } :=
  ⟨rfl,rfl,rfl,by simp,Nat.le_refl _,fun k _ hk'=>by
    have:r≠k:=fun e=>hk' (e ▸ h)
    simp [this]⟩
theorem Chg.cell {S:List Nat} {w w':World} (h:Chg S w w') {a:Addr} {v:Value} (hc:w.cell? a=some v) (hs:a.block ∉ S):w'.cell? a=some v:=by
  rw [← hc];exact World.cell?_of_block (w:=w) (h.block _ (World.block_lt_of_cell? w a hc) hs)
theorem Chg.heap {S:List Nat} {w w':World} (h:Chg S w w') {b:Nat} {o:Obj} (hc:w.heap[b]? = some o) (hs:b ∉ S):w'.heap[b]? = some o:=by
  rw [← hc];exact h.block _ (Array.getElem?_eq_some_iff.1 hc).1 hs
theorem Chg.grow {w w':World} (h:Chg [] w w'):∃ q os,w'=Sort.grow (w.drewN q) os:=by
  refine ⟨w'.drawn - w.drawn,w'.heap.extract w.heap.size w'.heap.size,?_⟩
  obtain ⟨h1,h2,h3,h4,h5,h6⟩:=h
  cases w with|mk heap tape drawn os output =>
  cases w' with|mk heap' tape' drawn' os' output' =>
  simp only [Sort.grow,World.drewN] at *
  subst h1;subst h2;subst h3
  congr 1
  · apply Array.ext_getElem?
    intro i
    by_cases hi:i < heap.size
    · rw [h6 i hi (by simp)];simp [Array.getElem?_append,hi]
    · have hi':heap.size≤i:=by omega
      simp only [Array.getElem?_append,hi,if_false]
      by_cases hj:i < heap'.size
      · simp only [Array.getElem?_extract,Nat.min_self]
        rw [if_pos (by omega),Nat.add_sub_cancel' hi']
      · simp [Array.getElem?_eq_none (show heap'.size≤i by omega),Array.getElem?_eq_none];omega
  · omega

abbrev Lst:=List (Nat × Obj)

/-- Of the world w: since w0 only the blocks of S (or new ones) have changed;the blocks of L hold what L says;they are apart,and each is new or one of S. -/
structure Hp (w0:World) (S:List Nat) (L:Lst) (w:World):Prop where
  chg:Chg S w0 w
  get:∀ b o,(b,o)∈L→w.heap[b]? = some o
  nod:(L.map (·.1)).Nodup
  own:∀ b o,(b,o)∈L→w0.heap.size≤b ∨ b∈S

theorem Hp.start (w:World) (S:List Nat):Hp w S [] w:=⟨.refl _ _,by simp,by simp,by simp⟩

theorem Hp.lt {w0 w:World} {S:List Nat} {L:Lst} (h:Hp w0 S L w) {b:Nat} {o:Obj} (hm:(b,o)∈L):b < w.heap.size :=
  (Array.getElem?_eq_some_iff.1 (h.get b o hm)).1

/-- A step that changes nothing of what is known. -/
theorem Hp.step {w0 w w':World} {S:List Nat} {L:Lst} (h:Hp w0 S L w) (hc:Chg [] w w'):Hp w0 S L w' :=
  ⟨h.chg.trans (hc.mono (by simp)),fun b o hm=>hc.heap (h.get b o hm) (by simp),h.nod,h.own⟩

theorem Hp.alloc {w0 w:World} {S:List Nat} {L:Lst} (h:Hp w0 S L w) (o:Obj):Hp w0 S ((w.heap.size,o)::L) (w.alloc o):=by
  have h1:=h.step (Chg.alloc [] w o)
  refine ⟨h1.chg,?_,?_,?_⟩
  · intro b o' hm
    rcases List.mem_cons.1 hm with e|hm
    · cases e;show (w.heap.push o)[w.heap.size]? = _;simp
    · exact h1.get b o' hm
  · simp only [List.map_cons,List.nodup_cons]
    refine ⟨fun hm=>?_,h.nod⟩
    obtain ⟨⟨b,o'⟩,hm,e⟩:=List.mem_map.1 hm
    have:=h.lt hm
    simp at e;omega
  · intro b o' hm
    rcases List.mem_cons.1 hm with e|hm
    · cases e;exact .inl h.chg.size
    · exact h.own b o' hm

/-- L' is L with block b's object turned to o'. -/
inductive Upd:Lst→Nat→Obj→Obj→Lst→Prop where
  | head {b o o' r}:Upd ((b,o)::r) b o o' ((b,o')::r)
  | tail {x r b o o' r'}:Upd r b o o' r' → Upd (x::r) b o o' (x::r')
/-- L holds (b,o). -/
inductive At:Lst→Nat→Obj→Prop where
  | head {b o r}:At ((b,o)::r) b o
  | tail {x r b o}:At r b o→At (x::r) b o

theorem At.mem {L:Lst} {b:Nat} {o:Obj} (h:At L b o):(b,o)∈L:=by
  induction h with
  | head=>exact List.mem_cons_self
  | tail _ ih=>exact List.mem_cons_of_mem _ ih
theorem Upd.mem {L L':Lst} {b:Nat} {o o':Obj} (h:Upd L b o o' L'):(b,o)∈L:=by
  induction h with
  | head=>exact List.mem_cons_self
  | tail _ ih=>exact List.mem_cons_of_mem _ ih
theorem Upd.map {L L':Lst} {b:Nat} {o o':Obj} (h:Upd L b o o' L'):L'.map (·.1)=L.map (·.1):=by
  induction h with
  | head=>rfl
  | tail _ ih=>simp [ih]
theorem Upd.mem' {L L':Lst} {b:Nat} {o o':Obj} (h:Upd L b o o' L') (hn:(L.map (·.1)).Nodup) :
    ∀ c p,(c,p)∈L' → (c=b∧p=o') ∨ (c≠b∧(c,p)∈L):=by
  induction h with
  | head =>
    intro c p hm
    simp only [List.map_cons,List.nodup_cons] at hn
    rcases List.mem_cons.1 hm with e|hm
    · cases e;exact .inl ⟨rfl,rfl⟩
    · refine .inr ⟨fun e=>?_,List.mem_cons_of_mem _ hm⟩
      exact hn.1 (List.mem_map.2 ⟨(c,p),hm,e⟩)
  | @tail x r b o o' r' h ih =>
    intro c p hm
    simp only [List.map_cons,List.nodup_cons] at hn
    rcases List.mem_cons.1 hm with e|hm
    · subst e
      refine .inr ⟨?_,List.mem_cons_self⟩
      rintro rfl
      exact hn.1 (List.mem_map.2 ⟨(c,o),h.mem,rfl⟩)
    · rcases ih hn.2 c p hm with h1|⟨h1,h2⟩
      · exact .inl h1
      · exact .inr ⟨h1,List.mem_cons_of_mem _ h2⟩

/-- A step that has changed block b alone,which now holds o'. -/
theorem Hp.upd {w0 w w':World} {S:List Nat} {L L':Lst} {b:Nat} {o o':Obj} (h:Hp w0 S L w) (hu:Upd L b o o' L') (hc:Chg [b] w w') (hb:w'.heap[b]? = some o'):Hp w0 S L' w':=by
  have hown:=h.own b o hu.mem
  refine ⟨?_,?_,?_,?_⟩
  · refine ⟨hc.os.trans h.chg.os,hc.tape.trans h.chg.tape,hc.output.trans h.chg.output,Nat.le_trans h.chg.size hc.size,Nat.le_trans h.chg.drawn hc.drawn,fun k hk hks=>?_⟩
    have hk':k≠b:=by
      rintro rfl
      rcases hown with h1|h1
      · omega
      · exact hks h1
    exact (hc.block k (Nat.lt_of_lt_of_le hk h.chg.size) (by simpa using hk')).trans (h.chg.block k hk hks)
  · intro c p hm
    rcases hu.mem' h.nod c p hm with ⟨rfl,rfl⟩|⟨hne,hm⟩
    · exact hb
    · exact hc.heap (h.get c p hm) (by simpa using hne)
  · rw [hu.map];exact h.nod
  · intro c p hm
    rcases hu.mem' h.nod c p hm with ⟨rfl,rfl⟩|⟨_,hm⟩
    · exact hown
    · exact h.own c p hm

theorem Hp.sub {w0 w:World} {S:List Nat} {L L':Lst} (h:Hp w0 S L w) (hs:List.Sublist L' L):Hp w0 S L' w :=
  ⟨h.chg,fun b o hm=>h.get b o (hs.subset hm),List.Sublist.nodup (hs.map _) h.nod,fun b o hm=>h.own b o (hs.subset hm)⟩
theorem Hp.perm {w0 w:World} {S:List Nat} {L L':Lst} (h:Hp w0 S L w) (hs:List.Perm L' L):Hp w0 S L' w :=
  ⟨h.chg,fun b o hm=>h.get b o (hs.subset hm),((hs.map _).nodup_iff).2 h.nod,fun b o hm=>h.own b o (hs.subset hm)⟩

abbrev Env:=List (Nat × Value)
def look:Env→Nat→Option Value
  | [],_=>none
  | (k,v)::r,t=>match Nat.beq k t with|true=>some v|false=>look r t
def ev (σ:Env):Operand→Option Value
  | .tmp t=>look σ t
  | .const v=>some v
  | .global g=>some (.pointer (some ⟨g,0,none⟩))
  | .func f=>some (.func (.func f) #[] #[])
def evs (σ:Env):List Operand→Option (List Value)
  | []=>some []
  | x :: xs=>match ev σ x with
    | none=>none
    | some v=>match evs σ xs with
      | none=>none
      | some vs=>some (v::vs)

structure Mod (n:Nat) (a:Act) (σ:Env):Prop where
  size:a.tmps.size=n
  defers:a.defers=[]
  ok:∀ t v,look σ t=some v→a.tmps.getD t undef=v

theorem Mod.ev {n:Nat} {a:Act} {σ:Env} (h:Mod n a σ) {x:Operand} {v:Value} (hx:ev σ x=some v):a.eval x=v:=by
  cases x<;>simp only [Act.eval,YtcfdgnajepilbaaGreat.ev] at *<;>first|exact h.ok _ _ hx|exact Option.some.inj hx

theorem Mod.put {n:Nat} {a:Act} {σ:Env} (h:Mod n a σ) {d:Nat} (hd:d < n) (v:Value):Mod n (a.put (some d) v) ((d,v)::σ):=by
  refine ⟨by simp [Act.put,h.size],h.defers,fun t u hu=>?_⟩
  simp only [look] at hu
  simp only [Act.put]
  by_cases e:d=t
  · subst e
    simp [Nat.beq_refl] at hu
    subst hu
    simp [Array.getD,h.size,hd]
  · have e':Nat.beq d t=false:=by
      cases hb:Nat.beq d t with
      | false=>rfl
      | true=>exact (e (Nat.eq_of_beq_eq_true hb)).elim
    rw [e'] at hu
    rw [← h.ok t u hu]
    simp only [Array.getD,Array.size_setIfInBounds]
    split
    · rename_i ht
      show (a.tmps.setIfInBounds d v)[t]'_=a.tmps[t]
      rw [Array.getElem_setIfInBounds ht,if_neg e]
    · rfl
inductive TK where
  | int (k:IntKind)
  | bool
  | string
  | ptr (e:Nat)
  | slice (e:Nat)
  | arr (n e:Nat)
  | map (k e:Nat)
  | strct (fs:List (Nat × Nat × Nat))
  | fn
  | other
structure TRow where
  k:TK
  size:Nat
  bytes:Nat
  zero:Value
def Flds (P:Program):List Field→List (Nat × Nat × Nat)→Prop
  | [],[]=>True
  | f::r,(t,off,sz)::s=>f.type=t∧f.offset=off∧(∀ w,(Go.sizeOf t).run P w = .ok sz w)∧(f.name == "_")=false∧Flds P r s
  | _,_=>False
def TK.is (P:Program) (t:Nat):TK→Prop
  | .int k=>P.underlying t=some (.int k)
  | .bool=>P.underlying t=some .bool
  | .string=>P.underlying t=some .string
  | .ptr e=>P.underlying t=some (.pointer e)
  | .slice e=>P.underlying t=some (.slice e)
  | .arr n e=>P.underlying t=some (.array n e)
  | .map k e=>P.underlying t=some (.map k e)
  | .strct fs=>∃ fields:Array Field,P.underlying t=some (.struct fields)∧Flds P fields.toList fs
  | .fn=>∃ (ps rs:Array TypeId) (v:Bool),P.underlying t=some (.func ps rs v)
  | .other=>True
def TK.agg:TK→Option Bool
  | .strct _=>some true
  | .arr ..=>some true
  | .other=>none
  | _=>some false
structure TGood (P:Program) (t:Nat) (r:TRow):Prop where
  is:r.k.is P t
  size:∀ w,(Go.sizeOf t).run P w = .ok r.size w
  zero:∀ w,(zeroValue t).run P w = .ok r.zero w
  plain:match r.k with | .strct _=>P.stoodInHeld t=false|_=>True
  bytes:(P.info? t).map (·.bytes)=some r.bytes
def TGoods (P:Program):Nat→List (Option TRow)→Prop
  | _,[]=>True
  | k,some r::rs=>TGood P k r∧TGoods P (k+1) rs
  | k,none::rs=>TGoods P (k+1) rs
def FGoods (P:Program):List Nat→Prop
  | []=>True
  | f::r=>Enters P f∧FGoods P r
/-- The program's tables: types (by number),functions that have a body. -/
structure Tb (P:Program) where
  rows:List (Option TRow)
  good:TGoods P 0 rows
  fns:List Nat
  fgood:FGoods P fns
  mix:P.follows .mixedOrders=true
  deep:8≤P.depth
def Tb.row {P:Program} (tb:Tb P) (t:Nat):Option TRow:=match tb.rows[t]? with|some r=>r|none=>none
theorem TGoods.get {P:Program}:∀ {rs:List (Option TRow)} {k i:Nat} {r:TRow},TGoods P k rs→rs[i]? = some (some r)→TGood P (k+i) r
  | [],_,_,_,_,h=>by cases h
  | some r::rs,k,0,r',h,e=>by cases e;exact h.1
  | none::rs,k,0,r',h,e=>by cases e
  | some r::rs,k,i+1,r',h,e=>by have:=TGoods.get h.2 (i:=i) e;rwa [Nat.add_right_comm,Nat.add_assoc] at this
  | none::rs,k,i+1,r',h,e=>by have:=TGoods.get (rs:=rs) h (i:=i) e;rwa [Nat.add_right_comm,Nat.add_assoc] at this
theorem Tb.get {P:Program} (tb:Tb P) {t:Nat} {r:TRow} (h:tb.row t=some r):TGood P t r:=by
  unfold Tb.row at h
  cases e:tb.rows[t]? with
  | none=>rw [e] at h;cases h
  | some x=>rw [e] at h;cases h;have:=TGoods.get tb.good e;rwa [Nat.zero_add] at this
theorem FGoods.get {P:Program}:∀ {l:List Nat} {f:Nat},FGoods P l→f∈l→Enters P f
  | [],_,_,h=>by cases h
  | g::r,f,h,hm=>by
    rcases List.mem_cons.1 hm with e|hm
    · subst e;exact h.1
    · exact FGoods.get h.2 hm
theorem Tb.ent {P:Program} (tb:Tb P) {f:Nat} (h:tb.fns.contains f=true):Enters P f:=FGoods.get tb.fgood (by simpa using h)
theorem TGood.agg {P:Program} {t:Nat} {r:TRow} {b:Bool} (h:TGood P t r) (hb:r.k.agg=some b) (w:World):(isAgg t).run P w = .ok b w:=by
  have h1:=h.is
  cases hk:r.k<;>rw [hk] at h1 hb<;>simp only [TK.agg,Option.some.injEq] at hb<;>first|cases hb|skip
  all_goals (try subst hb)
  all_goals simp only [TK.is] at h1
  all_goals first
    | exact run_isAgg_plain h1 rfl w
    | (obtain ⟨ps,rs,vv,h2⟩:=h1;exact run_isAgg_plain h2 rfl w)
    | (obtain ⟨fs,h2,_⟩:=h1;simp [isAgg,run_underlying h2])
    | simp [isAgg,run_underlying h1]

/-- What a walk is over: the program,how many slots the frame has,the world at the call's start,which old blocks may be written. -/
structure Cx where
  P:Program
  tb:Tb P
  n:Nat
  w0:World
  S:List Nat

abbrev Post:=Exit→Env→Lst→Prop
def Cx.lift (X:Cx) (Q:Post):Exit→Act→World→Prop:=fun e a w=>∃ σ L,Mod X.n a σ∧Hp X.w0 X.S L w∧Q e σ L

structure T (X:Cx) (c:Code) (Q:Post) (σ:Env) (L:Lst):Prop where
  run:∀ a w,Mod X.n a σ→Hp X.w0 X.S L w→c.wp X.P (X.lift Q) a w

def thenQ (K:Env→Lst→Prop) (Q:Post):Post:=fun e σ L=>match e with
  | .normal=>K σ L
  | .exit id=>Q (.exit id) σ L
  | .goto l=>Q (.goto l) σ L
  | .ret=>Q .ret σ L
  | .panic c=>Q (.panic c) σ L
  | .outgrown=>Q .outgrown σ L
def blockQ (id:Nat) (Q:Post):Post:=fun e σ L=>match e with
  | .exit id'=>match Nat.beq id' id with|true=>Q .normal σ L|false=>Q (.exit id') σ L
  | .normal=>Q .normal σ L
  | .goto l=>Q (.goto l) σ L
  | .ret=>Q .ret σ L
  | .panic c=>Q (.panic c) σ L
  | .outgrown=>Q .outgrown σ L
def scopeQ (Q:Post):Post:=fun e σ L=>match e with
  | .goto _=>False
  | .normal=>Q .normal σ L
  | .exit id=>Q (.exit id) σ L
  | .ret=>Q .ret σ L
  | .panic c=>Q (.panic c) σ L
  | .outgrown=>Q .outgrown σ L

section
variable {X:Cx} {Q:Post} {σ:Env} {L:Lst} {x y c:Code} {K:Env→Lst→Prop}
theorem T.skip (h:Q .normal σ L):T X .skip Q σ L:=⟨fun a w ha hw=>wp_skip ⟨σ,L,ha,hw,h⟩⟩
theorem T.label {l:Nat} (h:Q .normal σ L):T X (.label l) Q σ L:=⟨fun a w ha hw=>wp_label ⟨σ,L,ha,hw,h⟩⟩
theorem T.exit {id:Nat} (h:Q (.exit id) σ L):T X (.exit id) Q σ L:=⟨fun a w ha hw=>wp_exit ⟨σ,L,ha,hw,h⟩⟩
theorem T.ret (h:Q .ret σ L):T X .ret Q σ L:=⟨fun a w ha hw=>wp_ret ⟨σ,L,ha,hw,h⟩⟩
theorem T.mono {Q':Post} (h:T X c Q σ L) (hq:∀ e σ L,Q e σ L→Q' e σ L):T X c Q' σ L :=
  ⟨fun a w ha hw=>wp_mono (h.run a w ha hw) fun e a w ⟨σ,L,h1,h2,h3⟩=>⟨σ,L,h1,h2,hq e σ L h3⟩⟩
theorem T.seq (h:T X x (thenQ (T X y Q) Q) σ L):T X (.seq x y) Q σ L :=
  ⟨fun a w ha hw=>wp_seq (wp_mono (h.run a w ha hw) fun e a w ⟨σ,L,h1,h2,h3⟩=>by
    cases e<;>first|exact h3.run a w h1 h2|exact ⟨σ,L,h1,h2,h3⟩)⟩
theorem T.block {id:Nat} (h:T X c (blockQ id Q) σ L):T X (.block id c) Q σ L :=
  ⟨fun a w ha hw=>wp_block (wp_mono (h.run a w ha hw) fun e a w ⟨σ,L,h1,h2,h3⟩=>by
    cases e with
    | exit id' =>
      simp only [blockQ] at h3
      simp only [Exit.inBlock]
      by_cases e:id'=id
      · subst e;rw [Nat.beq_refl] at h3;rw [if_pos rfl];exact ⟨σ,L,h1,h2,h3⟩
      · have e':Nat.beq id' id=false:=by
          cases hb:Nat.beq id' id with
          | false=>rfl
          | true=>exact (e (Nat.eq_of_beq_eq_true hb)).elim
        rw [e'] at h3;rw [if_neg e];exact ⟨σ,L,h1,h2,h3⟩
    | _=>exact ⟨σ,L,h1,h2,h3⟩)⟩
theorem T.scope (h:T X c (scopeQ Q) σ L):T X (.scope c) Q σ L :=
  ⟨fun a w ha hw=>wp_scope_straight (wp_mono (h.run a w ha hw) fun e a w ⟨σ,L,h1,h2,h3⟩=>by
    cases e<;>first|exact h3.elim|exact ⟨σ,L,h1,h2,h3⟩)⟩
theorem T.cond {z:Operand} {b:Bool} (hc:ev σ z=some (.bool b)) (h1:b=true→T X x Q σ L) (h2:b=false→T X y Q σ L):T X (.cond z x y) Q σ L :=
  ⟨fun a w ha hw=>wp_cond_split (ha.ev hc) (fun e=>(h1 e).run a w ha hw) (fun e=>(h2 e).run a w ha hw)⟩
theorem T.cond_t {z:Operand} (hc:ev σ z=some (.bool true)) (h:T X x Q σ L):T X (.cond z x y) Q σ L:=.cond hc (fun _=>h) (fun e=>by cases e)
theorem T.cond_f {z:Operand} (hc:ev σ z=some (.bool false)) (h:T X y Q σ L):T X (.cond z x y) Q σ L:=.cond hc (fun e=>by cases e) (fun _=>h)

/-- A frame that knows less. -/
def Sub:Env→Env→Prop
  | [],_=>True
  | (t,v)::r,σ=>look σ t=some v∧Sub r σ
theorem Sub.ok {σ' σ:Env} (h:Sub σ' σ):∀ t v,look σ' t=some v→look σ t=some v:=by
  induction σ' with
  | nil=>intro t v e;cases e
  | cons p r ih =>
    obtain ⟨k,u⟩:=p
    intro t v e
    simp only [look] at e
    cases hb:Nat.beq k t with
    | true=>rw [hb] at e;cases e;rw [← Nat.eq_of_beq_eq_true hb];exact h.1
    | false=>rw [hb] at e;exact ih h.2 t v e
theorem Mod.sub {n:Nat} {a:Act} {σ σ':Env} (h:Mod n a σ) (hs:Sub σ' σ):Mod n a σ':=⟨h.size,h.defers,fun t v e=>h.ok t v (hs.ok t v e)⟩
/-- A list of blocks that knows less (each named block once). -/
def SubL:Lst→Lst→Prop
  | [],_=>True
  | (b,o)::r,L=>At L b o∧SubL r L
theorem SubL.mem {L' L:Lst} (h:SubL L' L):∀ b o,(b,o)∈L' → (b,o)∈L:=by
  induction L' with
  | nil=>intro b o hm;cases hm
  | cons p r ih =>
    obtain ⟨k,u⟩:=p
    intro b o hm
    rcases List.mem_cons.1 hm with e|hm
    · cases e;exact h.1.mem
    · exact ih h.2 b o hm

/-- What is known of the heap is kept,of a part of the blocks,in whatever order (that they are apart comes from the whole). -/
theorem Hp.part {w0 w:World} {S:List Nat} {L L':Lst} (h:Hp w0 S L w) (hs:SubL L' L) (hn:(L'.map (·.1)).Nodup):Hp w0 S L' w :=
  ⟨h.chg,fun b o hm=>h.get b o (hs.mem b o hm),hn,fun b o hm=>h.own b o (hs.mem b o hm)⟩

/-- The blocks of L' are,at these places (ascending or not,no place twice),blocks of L. -/
def pick (L:Lst):List Nat→Lst
  | []=>[]
  | i::r=>match L[i]? with|some x=>x::pick L r|none=>pick L r
theorem pick_mem {L:Lst} {is:List Nat} {x:Nat × Obj} (h:x∈pick L is):∃ i,i∈is∧L[i]? = some x:=by
  induction is with
  | nil=>cases h
  | cons i r ih =>
    simp only [pick] at h
    cases hi:L[i]? with
    | none=>rw [hi] at h;obtain ⟨j,h1,h2⟩:=ih h;exact ⟨j,List.mem_cons_of_mem _ h1,h2⟩
    | some y =>
      rw [hi] at h
      rcases List.mem_cons.1 h with e|h
      · subst e;exact ⟨i,List.mem_cons_self,hi⟩
      · obtain ⟨j,h1,h2⟩:=ih h;exact ⟨j,List.mem_cons_of_mem _ h1,h2⟩
theorem pick_nodup {L:Lst} (hn:(L.map (·.1)).Nodup) {is:List Nat} (hi:is.Nodup):((pick L is).map (·.1)).Nodup:=by
  induction is with
  | nil=>simp [pick]
  | cons i r ih =>
    simp only [List.nodup_cons] at hi
    simp only [pick]
    cases h:L[i]? with
    | none=>exact ih hi.2
    | some x =>
      simp only [List.map_cons,List.nodup_cons]
      refine ⟨fun hm=>?_,ih hi.2⟩
      obtain ⟨y,hy,e⟩:=List.mem_map.1 hm
      obtain ⟨j,hj,hj2⟩:=pick_mem hy
      obtain ⟨hil,hie⟩:=List.getElem?_eq_some_iff.1 h
      obtain ⟨hjl,hje⟩:=List.getElem?_eq_some_iff.1 hj2
      have hne:∀ i j (hi:i < L.length) (hj:j < L.length),i < j→L[i].1≠L[j].1:=by
        intro i j hi hj hij
        have:=(List.pairwise_iff_getElem.1 hn) i j (by simpa using hi) (by simpa using hj) hij
        simpa using this
      have hxy:L[i].1=L[j].1:=by rw [hie,hje,e]
      have:i=j:=by
        rcases Nat.lt_trichotomy i j with h1|h1|h1
        · exact (hne i j hil hjl h1 hxy).elim
        · exact h1
        · exact (hne j i hjl hil h1 hxy.symm).elim
      exact hi.1 (this ▸ hj)
theorem Hp.pick {w0 w:World} {S:List Nat} {L:Lst} (h:Hp w0 S L w) {is:List Nat} (hi:is.Nodup):Hp w0 S (pick L is) w :=
  ⟨h.chg,fun b o hm=>by obtain ⟨i,_,e⟩:=pick_mem hm;exact h.get b o (List.mem_of_getElem? e),pick_nodup h.nod hi,fun b o hm=>by obtain ⟨i,_,e⟩:=pick_mem hm;exact h.own b o (List.mem_of_getElem? e)⟩

/-- Rounds of a loop,one at a time. -/
def Rnd (X:Cx) (c:Code) (Q:Post):Nat→Env→Lst→Prop
  | 0=>fun _ _=>False
  | k+1=>T X c (thenQ (Rnd X c Q k) Q)
theorem Rnd.run:∀ {k:Nat} {σ:Env} {L:Lst},Rnd X c Q k σ L→∀ a w,Mod X.n a σ→Hp X.w0 X.S L w→Code.rounds X.P c (X.lift Q) k a w
  | 0,_,_,h,_,_,_,_=>h.elim
  | k + 1,σ,L,h,a,w,ha,hw=>by
    rw [rounds_succ]
    exact wp_mono (T.run h a w ha hw) fun e a w ⟨σ,L,h1,h2,h3⟩=>by
      cases e<;>first|exact Rnd.run h3 a w h1 h2|exact ⟨σ,L,h1,h2,h3⟩
theorem T.rounds (k:Nat) (h:Rnd X c Q k σ L):T X (.loop c) Q σ L :=
  ⟨fun a w ha hw=>wp_loop_rounds k (h.run a w ha hw)⟩
theorem Rnd.step {k:Nat} (h:T X c (thenQ (Rnd X c Q k) Q) σ L):Rnd X c Q (k+1) σ L:=h

def Cx.liftK (X:Cx) (K:Env→Lst→Prop):Exit→Act→World→Prop:=fun e a w=>e = .normal∧∃ σ L,Mod X.n a σ∧Hp X.w0 X.S L w∧K σ L
structure R (X:Cx) (all:Array Oper) (l:List Oper) (K:Env→Lst→Prop) (σ:Env) (L:Lst):Prop where
  run:∀ a w,Mod X.n a σ→Hp X.w0 X.S L w→wpList X.P all (X.liftK K) l a w

theorem wpList_mono {P:Program} {ops:Array Oper} {Q Q':Exit→Act→World→Prop} (hq:∀ e a w,Q e a w→Q' e a w):∀ (l:List Oper) (a:Act) (w:World),wpList P ops Q l a w→wpList P ops Q' l a w
  | [],a,w,h=>hq _ _ _ h
  | o :: r, a,w,h=>by
    unfold wpList at h ⊢
    by_cases hw:Region.wanted o (yielded ops a.tmps)=true
    · rw [if_pos hw] at h ⊢
      refine h.imp (fun h=>?_) (fun h=>⟨h.1,h.2.choose,h.2.choose_spec.choose,hq _ _ _ h.2.choose_spec.choose_spec⟩)
      unfold Oper.wp at *
      generalize (execOp a.eval o).run P w=r at *
      cases r with
      | ok x w' =>
        cases x<;>simp only [Oper.upon] at h ⊢ <;>
          first
            | exact wpList_mono hq _ _ _ h
            | exact Calls.mono h (fun e w'' he=>by cases e<;>first|exact wpList_mono hq _ _ _ he|exact hq _ _ _ he|(obtain ⟨a,w,h2⟩:=he;exact ⟨a,w,hq _ _ _ h2⟩))
            | exact Rows.mono h (fun _ _ he=>wpList_mono hq _ _ _ he)
      | halt x w'=>cases x<;>simp only [Oper.upon] at h ⊢<;>first|exact hq _ _ _ h|exact h
    · rw [if_neg hw] at h ⊢;exact wpList_mono hq _ _ _ h

theorem T.region {id:Nat} {ops:Array Oper} (h:R X ops ops.toList (Q .normal) σ L):T X (.region id ops false) Q σ L :=
  ⟨fun a w ha hw=>wp_region_list (wpList_mono (fun e a w ⟨he,σ,L,h1,h2,h3⟩=>⟨σ,L,h1,h2,he ▸ h3⟩) _ _ _ (h.run a w ha hw))⟩

variable {all:Array Oper} {rest:List Oper} {o:Oper}
theorem R.nil (h:K σ L):R X all [] K σ L:=⟨fun a w ha hw=>⟨rfl,σ,L,ha,hw,h⟩⟩

theorem blt_lt {a b:Nat} (h:Nat.blt a b=true):a < b:=by simpa [Nat.blt_eq] using h
/-- An operation that leaves the world alone and yields v. -/
structure Ok1 (X:Cx) (o:Oper) (σ:Env) (L:Lst) (v:Value):Prop where
  run:∀ a w,Mod X.n a σ→Hp X.w0 X.S L w→(execOp a.eval o).run X.P w = .ok (.value v) w

theorem R.pure {d:Nat} {op:Op} {type:TypeId} {pos:String} {after:Array Edge} {v:Value} (hn:Nat.blt d X.n=true) (ho:Ok1 X ⟨some d,op,type,pos,after,none⟩ σ L v) (h:R X all rest K ((d,v)::σ) L):R X all (⟨some d,op,type,pos,after,none⟩::rest) K σ L :=
  ⟨fun a w ha hw=>wpList_plain rfl fun K' hK'=>by
    unfold Oper.wp
    rw [ho.run a w ha hw,Oper.upon_value]
    exact hK' _ _ (h.run _ _ (ha.put (blt_lt hn) v) hw)⟩
/-- Sieves: they say of what form the goal is,and nothing more. -/
theorem R.is1 {d:Nat} {op:Op} {type:TypeId} {pos:String} {after:Array Edge} (h:R X all (⟨some d,op,type,pos,after,none⟩::rest) K σ L):R X all (⟨some d,op,type,pos,after,none⟩::rest) K σ L:=h
theorem R.is0 {op:Op} {type:TypeId} {pos:String} {after:Array Edge} (h:R X all (⟨none,op,type,pos,after,none⟩::rest) K σ L):R X all (⟨none,op,type,pos,after,none⟩::rest) K σ L:=h
theorem R.isG {dst:Option Nat} {op:Op} {type:TypeId} {pos:String} {after:Array Edge} {j:Nat} {b:Bool} (h:R X all (⟨dst,op,type,pos,after,some (j,b)⟩::rest) K σ L):R X all (⟨dst,op,type,pos,after,some (j,b)⟩::rest) K σ L:=h
theorem R.isBin {d:Nat} {op:BinOp} {t t2:TypeId} {x y:Operand} {type:TypeId} {pos:String} {after:Array Edge} {g:Option (Nat × Bool)} (h:R X all (⟨some d,.binOp op t x y t2,type,pos,after,g⟩::rest) K σ L):R X all (⟨some d,.binOp op t x y t2,type,pos,after,g⟩::rest) K σ L:=h
theorem R.isCall {d:Nat} {c:Call} {type:TypeId} {pos:String} {after:Array Edge} {g:Option (Nat × Bool)} (h:R X all (⟨some d,.call c,type,pos,after,g⟩::rest) K σ L):R X all (⟨some d,.call c,type,pos,after,g⟩::rest) K σ L:=h
theorem T.is (h:T X c Q σ L):T X c Q σ L:=h
/-- A value,in a new world. -/
theorem R.value {d:Nat} (hg:o.guard=none) (hd:o.dst=some d) (hn:Nat.blt d X.n=true)
    (ho:∀ a w,Mod X.n a σ→Hp X.w0 X.S L w→∃ v w' L',(execOp a.eval o).run X.P w = .ok (.value v) w' ∧ Hp X.w0 X.S L' w' ∧ R X all rest K ((d,v)::σ) L'):R X all (o::rest) K σ L :=
  ⟨fun a w ha hw=>wpList_plain hg fun K' hK'=>by
    obtain ⟨v,w',L',h1,h2,h3⟩:=ho a w ha hw
    unfold Oper.wp
    rw [h1,Oper.upon_value,hd]
    exact hK' _ _ (h3.run _ _ (ha.put (blt_lt hn) v) h2)⟩
/-- A value that nobody keeps,in a new world (a builtin called for its effect). -/
theorem R.value0 (hg:o.guard=none) (hd:o.dst=none)
    (ho:∀ a w,Mod X.n a σ→Hp X.w0 X.S L w→∃ v w' L',(execOp a.eval o).run X.P w = .ok (.value v) w' ∧ Hp X.w0 X.S L' w' ∧ R X all rest K σ L'):R X all (o::rest) K σ L :=
  ⟨fun a w ha hw=>wpList_plain hg fun K' hK'=>by
    obtain ⟨v,w',L',h1,h2,h3⟩:=ho a w ha hw
    unfold Oper.wp
    rw [h1,Oper.upon_value,hd]
    exact hK' _ _ (h3.run _ _ ha h2)⟩
/-- A step without a value (a store). -/
theorem R.skip (hg:o.guard=none) (hd:o.dst=none)
    (ho:∀ a w,Mod X.n a σ→Hp X.w0 X.S L w→∃ w' L',(execOp a.eval o).run X.P w = .ok .skip w' ∧ Hp X.w0 X.S L' w' ∧ R X all rest K σ L'):R X all (o::rest) K σ L :=
  ⟨fun a w ha hw=>wpList_plain hg fun K' hK'=>by
    obtain ⟨w',L',h1,h2,h3⟩:=ho a w ha hw
    unfold Oper.wp
    rw [h1,Oper.upon_skip,hd]
    exact hK' _ _ (h3.run _ _ ha h2)⟩

/-- A guarded operation: if the guard's value is as wanted it is carried out as if unguarded,else its slot is 'undef'. -/
theorem R.guard {dst:Option Nat} {op:Op} {type:TypeId} {pos:String} {after:Array Edge} {j dj:Nat} {want b:Bool}
    (hj:(all[j]?).bind (·.dst)=some dj) (hb:look σ dj=some (.bool b))
    (h1:b=want→R X all ({ dst:=dst,op:=op,type:=type,pos:=pos,after:=after,guard:=none }::rest) K σ L)
    (h2:b=(!want)→match dst with|some d=>Nat.blt d X.n=true∧R X all rest K ((d,undef)::σ) L|none=>R X all rest K σ L) :
    R X all ({ dst:=dst,op:=op,type:=type,pos:=pos,after:=after,guard:=some (j,want) }::rest) K σ L:=by
  refine ⟨fun a w ha hw=>?_⟩
  have hy:yielded all a.tmps j=some b:=by
    have:=ha.ok dj (.bool b) hb
    simp only [Array.getD] at this
    have hlt:dj < a.tmps.size:=by
      rcases Nat.lt_or_ge dj a.tmps.size with h|h
      · exact h
      · rw [dif_neg (by omega)] at this;cases this
    rw [dif_pos hlt] at this
    have h2:a.tmps[dj]? = some (.bool b):=by rw [Array.getElem?_eq_getElem hlt];exact congrArg some this
    simp [yielded,hj,h2]
  by_cases e:b=want
  · have hr:=(h1 e).run a w ha hw
    unfold wpList at hr ⊢
    simp only [Region.wanted,hy,e,if_true,beq_self_eq_true] at hr ⊢
    exact hr
  · have e':b=(!want):=by cases b<;>cases want<;>first|rfl|exact (e rfl).elim
    have hr:=h2 e'
    unfold wpList
    have hw':Region.wanted { dst:=dst,op:=op,type:=type,pos:=pos,after:=after,guard:=some (j,want) } (yielded all a.tmps)=false:=by
      simp only [Region.wanted,hy]
      cases b<;>cases want<;>first|rfl|exact (e rfl).elim
    rw [hw']
    cases dst with
    | none=>exact hr.run a w ha hw
    | some d=>exact hr.2.run _ _ (ha.put (blt_lt hr.1) undef) hw

theorem R.guard_run {dst:Option Nat} {op:Op} {type:TypeId} {pos:String} {after:Array Edge} {j dj:Nat} {want:Bool}
    (hj:(all[j]?).bind (·.dst)=some dj) (hb:look σ dj=some (.bool want))
    (h1:R X all ({ dst:=dst,op:=op,type:=type,pos:=pos,after:=after,guard:=none }::rest) K σ L) :
    R X all ({ dst:=dst,op:=op,type:=type,pos:=pos,after:=after,guard:=some (j,want) }::rest) K σ L :=
  R.guard hj hb (fun _=>h1) (fun e=>by cases want<;>cases e)
theorem R.guard_not {dst:Nat} {op:Op} {type:TypeId} {pos:String} {after:Array Edge} {j dj:Nat} {want:Bool}
    (hj:(all[j]?).bind (·.dst)=some dj) (hb:look σ dj=some (.bool (!want))) (hn:Nat.blt dst X.n=true)
    (h1:R X all rest K ((dst,undef)::σ) L) :
    R X all ({ dst:=some dst,op:=op,type:=type,pos:=pos,after:=after,guard:=some (j,want) }::rest) K σ L :=
  R.guard hj hb (fun e=>by cases want<;>cases e) (fun _=>⟨hn,h1⟩)
/-- A call by contract: the value is 'v x',the known blocks 'L' x',for some x of which 'I x' holds. -/
theorem R.call {d:Nat} {f:FuncId} {xs:List Operand} {vs:List Value} {ats:Array TypeId} {type:TypeId} {pos:String} {after:Array Edge} {α:Type} {v:α→Value} {L':α→Lst} {I:α→Prop}
    (he:X.tb.fns.contains f=true) (hx:evs σ xs=some vs) (hn:Nat.blt d X.n=true)
    (hc:∀ w,Hp X.w0 X.S L w→Calls X.P f vs.toArray w fun e w'=>∃ x,e = .returned (v x)∧Hp X.w0 X.S (L' x) w' ∧ I x)
    (h:∀ x,I x→R X all rest K ((d,v x)::σ) (L' x)) :
    R X all ({ dst:=some d,op:=.call { callee:=.value (.func f),args:=xs.toArray,argTypes:=ats },type:=type,pos:=pos,after:=after,guard:=none }::rest) K σ L:=by
  refine ⟨fun a w ha hw=>wpList_plain rfl fun K' hK'=>?_⟩
  have hargs:xs.toArray.map a.eval=vs.toArray:=by
    have:∀ (xs:List Operand) (vs:List Value),evs σ xs=some vs→xs.map a.eval=vs:=by
      intro xs
      induction xs with
      | nil=>intro vs h;simp [evs] at h;simp [← h]
      | cons x xs ih =>
        intro vs h
        simp only [evs] at h
        cases h1:ev σ x with
        | none=>simp [h1] at h
        | some u =>
          cases h2:evs σ xs with
          | none=>simp [h1,h2] at h
          | some us =>
            simp [h1,h2] at h
            subst h
            simp [ha.ev h1,ih us h2]
    rw [List.map_toArray,this xs vs hx]
  unfold Oper.wp
  have hr:(execOp a.eval { dst:=some d,op:=.call { callee:=.value (.func f),args:=xs.toArray,argTypes:=ats },type:=type,pos:=pos,after:=after,guard:=none }).run X.P w = .ok (.enter f vs.toArray) w:=by
    have:=X.tb.ent he vs.toArray w
    simp only [execOp,resolve,Act.eval,hargs,Deferred.ofValue,Sem.run_bind,Sem.run_pure,Result.andThen_ok,invoke]
    simpa using this
  rw [hr,Oper.upon_enter]
  refine (hc w hw).mono fun e w' ⟨x,he,hw',hx⟩=>?_
  subst he
  exact hK' _ _ ((h x hx).run _ _ (ha.put (blt_lt hn) _) hw')
end
section
variable {X:Cx} {σ:Env} {L L':Lst} {d:Option Nat} {ty:TypeId} {pos:String} {af:Array Edge} {g:Option (Nat × Bool)} {x y c:Operand} {v vx vy:Value} {t:TypeId}
variable {all:Array Oper} {rest:List Oper} {K:Env→Lst→Prop} {r:TRow}
theorem Ok1.move (h:ev σ x=some v):Ok1 X ⟨d,.move x,ty,pos,af,g⟩ σ L v:=.mk fun a w ha hw=>by simp [execOp,ha.ev h]
theorem Ok1.assign (h:ev σ x=some v):Ok1 X ⟨d,.assign x,ty,pos,af,g⟩ σ L v:=.mk fun a w ha hw=>by simp [execOp,ha.ev h]
theorem Ok1.pick_t (hc:ev σ c=some (.bool true)) (h:ev σ x=some v):Ok1 X ⟨d,.pick c x y,ty,pos,af,g⟩ σ L v:=.mk fun a w ha hw=>by
  simp [execOp,ha.ev h,ha.ev hc,asBool]
theorem Ok1.pick_f (hc:ev σ c=some (.bool false)) (h:ev σ y=some v):Ok1 X ⟨d,.pick c x y,ty,pos,af,g⟩ σ L v:=.mk fun a w ha hw=>by
  simp [execOp,ha.ev h,ha.ev hc,asBool]

def copyE:List Value→Option (List Value)
  | []=>some []
  | v::r=>match copyE r with|some s=>some (v::s)|none=>none
theorem copyE_eq {l r:List Value} (h:copyE l=some r):r=l:=by
  induction l generalizing r with
  | nil=>simp [copyE] at h;exact h
  | cons v l ih =>
    simp only [copyE] at h
    cases e:copyE l with
    | none=>rw [e] at h;cases h
    | some s=>rw [e] at h;cases h;rw [ih e]
/-- The k cells from o on. -/
def subE:List Value→Nat→Nat→Option (List Value)
  | _,_,0=>some []
  | [],_,_+1=>none
  | c::cs,0,k+1=>match subE cs 0 k with|some r=>some (c::r)|none=>none
  | _::cs,o+1,k+1=>subE cs o (k+1)
theorem subE_spec:∀ {cs:List Value} {o k:Nat} {vs:List Value},subE cs o k=some vs→vs.length=k∧∀ i,i < k→cs[o+i]? = vs[i]?
  | _,_,0,vs,h=>by simp [subE] at h;subst h;simp
  | [],_,k+1,vs,h=>by simp [subE] at h
  | c :: cs,0,k+1,vs,h=>by
    simp only [subE] at h
    cases e:subE cs 0 k with
    | none=>rw [e] at h;cases h
    | some r =>
      rw [e] at h;cases h
      obtain ⟨h1,h2⟩:=subE_spec e
      refine ⟨by simp [h1],fun i hi=>?_⟩
      cases i with
      | zero=>rfl
      | succ i=>have:=h2 i (by omega);simp at this ⊢;exact this
  | c::cs,o+1,k+1,vs,h=>by
    simp only [subE] at h
    obtain ⟨h1,h2⟩:=subE_spec h
    refine ⟨h1,fun i hi=>?_⟩
    rw [Nat.add_right_comm];simpa using h2 i hi
/-- cs with vs laid over the cells from o on. -/
def setE:List Value→Nat→List Value→Option (List Value)
  | cs,_,[]=>some cs
  | [],_,_::_=>none
  | _::cs,0,v::vs=>match setE cs 0 vs with|some r=>some (v::r)|none=>none
  | c::cs,o+1,v::vs=>match setE cs o (v::vs) with|some r=>some (c::r)|none=>none
theorem setE_spec:∀ {cs:List Value} {o:Nat} {vs r:List Value},setE cs o vs=some r→r.length=cs.length∧(vs=[] ∨ o+vs.length≤cs.length)∧∀ j,r[j]? = if o≤j∧j < o+vs.length then vs[j - o]? else cs[j]?
  | cs,o,[],r,h=>by
    simp [setE] at h;subst h
    refine ⟨rfl,.inl rfl,fun j=>?_⟩
    rw [if_neg (by rintro ⟨h1,h2⟩;simp at h2;omega)]
  | [],_,_::_,r,h=>by simp [setE] at h
  | c :: cs,0,v::vs,r,h=>by
    simp only [setE] at h
    cases e:setE cs 0 vs with
    | none=>rw [e] at h;cases h
    | some r' =>
      rw [e] at h;cases h
      obtain ⟨h1,h2,h3⟩:=setE_spec e
      refine ⟨by simp [h1],.inr ?_,fun j=>?_⟩
      · rcases h2 with h2|h2
        · subst h2;simp
        · simp at h2 ⊢;omega
      · cases j with
        | zero=>simp
        | succ j=>have:=h3 j;simp at this ⊢;exact this
  | c :: cs,o+1,v::vs,r,h=>by
    simp only [setE] at h
    cases e:setE cs o (v::vs) with
    | none=>rw [e] at h;cases h
    | some r' =>
      rw [e] at h;cases h
      obtain ⟨h1,h2,h3⟩:=setE_spec e
      refine ⟨by simp [h1],.inr ?_,fun j=>?_⟩
      · rcases h2 with h2|h2
        · cases h2
        · simp at h2 ⊢;omega
      · cases j with
        | zero=>rw [if_neg (by omega)];simp
        | succ j =>
          have:=h3 j
          simp only [List.getElem?_cons_succ,this]
          by_cases hc:o≤j∧j < o+(v::vs).length
          · rw [if_pos hc,if_pos (by omega),Nat.add_sub_add_right]
          · rw [if_neg hc,if_neg (by omega)]

def cellsE:Value→Option (List Value)
  | .agg ⟨l⟩=>some l
  | v=>some [v]
theorem cellsE_eq {v:Value} {l:List Value} (h:cellsE v=some l):v.cells=⟨l⟩:=by
  cases v<;>simp [cellsE,Value.cells] at h ⊢<;>first|(subst h;rfl)|skip

structure Ld (X:Cx) (L:Lst) (t:TypeId) (p:Addr) (v:Value):Prop where
  run:∀ w,Hp X.w0 X.S L w→(loadVar t p).run X.P w = .ok v w

theorem At.cell {w:World} {S:List Nat} {w0:World} {b:Nat} {cs:List Value} {te:TypeId} {fz:Nat × Nat} (h:At L b (.cells ⟨cs⟩ te fz)) (hw:Hp w0 S L w) (o:Nat):w.cell? ⟨b,o,none⟩=cs[o]?:=by
  have:=hw.get _ _ h.mem
  simp [World.cell?,this]

theorem run_cells (P:Program) (w:World) (p:Addr) (hp:p.spot=none) (vs:List Value):∀ (k i:Nat) (acc:Array Value),(∀ j,j < k→w.cell? ⟨p.block,p.off+(i+j),none⟩=vs[i+j]?)→i+k=vs.length →
    (loadCellsFrom p i k acc).run P w = .ok (acc++⟨vs.drop i⟩) w
  | 0,i,acc,h,hl=>by
    have h0:vs.drop i=[]:=List.drop_eq_nil_of_le (by omega)
    rw [loadCellsFrom,h0,Sem.run_pure]
    have e:acc++(⟨[]⟩:Array Value)=acc:=Array.append_empty
    rw [e]
  | k + 1,i,acc,h,hl=>by
    have hi:i < vs.length:=by omega
    have h0:=h 0 (by omega)
    simp only [Nat.add_zero] at h0
    have ha:p.add i=⟨p.block,p.off+i,none⟩:=by
      cases p;simp at hp;subst hp
      simp only [Addr.add];split
      · rename_i e;subst e;rfl
      · rfl
    rw [loadCellsFrom,Sem.run_bind,run_load,ha,h0,List.getElem?_eq_getElem hi]
    simp only [Result.andThen_ok]
    rw [run_cells P w p hp vs k (i+1) _ (fun j hj=>by have:=h (j+1) (by omega);rwa [show i+(j+1)=i+1+j by omega] at this) (by omega)]
    have e:acc.push vs[i]++(⟨vs.drop (i+1)⟩:Array Value)=acc++⟨vs.drop i⟩:=by
      apply Array.toList_inj.1
      simp only [Array.toList_append,Array.toList_push]
      rw [List.drop_eq_getElem_cons hi,List.append_assoc]
      rfl
    rw [e]

theorem Ld.of1 {p:Addr} (ht:X.tb.row t=some r) (hk:r.k.agg=some false) (h:∀ w,Hp X.w0 X.S L w→w.cell? p=some v):Ld X L t p v:=.mk fun w hw=>by
  simp [loadVar,(X.tb.get ht).agg hk,run_load,h w hw]
theorem Ld.ofk {b o:Nat} {vs:List Value} (ht:X.tb.row t=some r) (hk:r.k.agg=some true) (hl:vs.length=r.size) (h:∀ w,Hp X.w0 X.S L w→∀ i,i < r.size→w.cell? ⟨b,o+i,none⟩=vs[i]?):Ld X L t ⟨b,o,none⟩ (.agg ⟨vs⟩):=.mk fun w hw=>by
  have h2:=run_cells X.P w ⟨b,o,none⟩ rfl vs r.size 0 #[] (fun j hj=>by rw [Nat.zero_add];exact h w hw j hj) (by omega)
  have e:(#[]:Array Value)++(⟨vs.drop 0⟩:Array Value)=⟨vs⟩:=by apply Array.toList_inj.1;simp
  rw [e] at h2
  rw [loadVar,Sem.run_bind,(X.tb.get ht).agg hk]
  simp only [Result.andThen_ok,if_true,Sem.run_bind,(X.tb.get ht).size,loadCells,h2,Sem.run_pure]

theorem Ld.own1 {b o:Nat} {cs:List Value} {te:TypeId} {fz:Nat × Nat} (ht:X.tb.row t=some r) (hk:r.k.agg=some false) (hat:At L b (.cells ⟨cs⟩ te fz)) (hc:cs[o]? = some v):Ld X L t ⟨b,o,none⟩ v :=
  .of1 ht hk fun w hw=>(hat.cell hw o).trans hc
theorem Ld.ownk {b o:Nat} {cs vs:List Value} {te:TypeId} {fz:Nat × Nat} (ht:X.tb.row t=some r) (hk:r.k.agg=some true) (hat:At L b (.cells ⟨cs⟩ te fz)) (hc:subE cs o r.size=some vs):Ld X L t ⟨b,o,none⟩ (.agg ⟨vs⟩) :=
  .ofk ht hk (subE_spec hc).1 fun w hw i hi=>(hat.cell hw _).trans ((subE_spec hc).2 i hi)
theorem Hp.old {w0 w:World} {S:List Nat} {p:Addr} (hw:Hp w0 S L w) (hc:w0.cell? p=some v) (hs:p.block ∉ S):w.cell? p=some v:=hw.chg.cell hc hs
theorem Ld.old1 {p:Addr} (ht:X.tb.row t=some r) (hk:r.k.agg=some false) (hc:X.w0.cell? p=some v) (hs:p.block ∉ X.S):Ld X L t p v :=
  .of1 ht hk fun w hw=>hw.old hc hs
theorem Ld.oldk {b o:Nat} {vs:List Value} (ht:X.tb.row t=some r) (hk:r.k.agg=some true) (hl:vs.length=r.size) (hc:∀ i,i < r.size→X.w0.cell? ⟨b,o+i,none⟩=vs[i]?) (hs:b ∉ X.S):Ld X L t ⟨b,o,none⟩ (.agg ⟨vs⟩) :=
  .ofk ht hk hl fun w hw i hi=>by
    have h1:=hc i hi
    rw [List.getElem?_eq_getElem (by omega)] at h1 ⊢
    exact hw.old h1 hs

theorem Ok1.load {p:Addr} (hx:ev σ x=some (.pointer (some p))) (h:Ld X L t p v):Ok1 X ⟨d,.load t x,ty,pos,af,g⟩ σ L v:=.mk fun a w ha hw=>by
  simp [execOp,ha.ev hx,Instr.loadAt,Instr.sureAddr,h.run w hw]

theorem run_stores (P:Program) (p:Addr) (hp:p.spot=none) (te:TypeId):∀ (vs:List Value) (i:Nat) (w:World) (cs cs':List Value),vs.all Value.oneCell'=true→w.heap[p.block]? = some (.cells ⟨cs⟩ te (0,0))→setE cs (p.off+i) vs=some cs' →
    ∃ w',(storeCells p vs i).run P w = .ok () w' ∧ w'.heap[p.block]? = some (.cells ⟨cs'⟩ te (0,0))∧Chg [p.block] w w'
  | [],i,w,cs,cs',h1,hb,hc=>by
    simp only [setE,Option.some.injEq] at hc
    subst hc
    exact ⟨w,by simp [storeCells],hb,.refl _ _⟩
  | v :: vs,i,w,cs,cs',h1,hb,hc=>by
    have ha:p.add i=⟨p.block,p.off+i,none⟩:=by
      cases p;simp at hp;subst hp
      simp only [Addr.add];split
      · rename_i e;subst e;rfl
      · rfl
    simp only [List.all_cons,Bool.and_eq_true] at h1
    -- one store,then the rest
    have key:∀ (cs:List Value) (o:Nat) (cs':List Value),setE cs o (v::vs)=some cs' → o < cs.length∧setE (cs.set o v) (o+1) vs=some cs':=by
      intro cs
      induction cs with
      | nil=>intro o cs' h;simp [setE] at h
      | cons c cs ih =>
        intro o cs' h
        cases o with
        | zero =>
          simp only [setE] at h
          refine ⟨by simp,?_⟩
          simp only [List.set_cons_zero]
          cases vs with
          | nil=>simp [setE] at h ⊢;exact h
          | cons u us=>simpa [setE] using h
        | succ o =>
          simp only [setE] at h
          cases e:setE cs o (v::vs) with
          | none=>rw [e] at h;cases h
          | some r' =>
            rw [e] at h;cases h
            obtain ⟨h2,h3⟩:=ih o r' e
            refine ⟨by simp;omega,?_⟩
            simp only [List.set_cons_succ]
            cases vs with
            | nil=>simp [setE] at h3 ⊢;exact h3
            | cons u us=>simp [setE,h3]
    obtain ⟨h2,h3⟩:=key cs (p.off+i) cs' hc
    have hcell:w.cell? ⟨p.block,p.off+i,none⟩=some cs[p.off+i]:=by
      simp [World.cell?,hb,List.getElem?_eq_getElem h2]
    have hfz:w.frozen? ⟨p.block,p.off+i,none⟩=false:=by simp [World.frozen?,hb]
    have hst:(store (p.add i) v).run P w = .ok () (w.setCell ⟨p.block,p.off+i,none⟩ v):=by
      rw [ha,run_store P w _ v .plain h1.1,hcell];simp [hfz]
    have hb':(w.setCell ⟨p.block,p.off+i,none⟩ v).heap[p.block]? = some (.cells ⟨cs.set (p.off+i) v⟩ te (0,0)):=by
      simp [World.setCell,Array.getElem?_modify,hb]
    obtain ⟨w',h4,h5,h6⟩:=run_stores P p hp te vs (i+1) _ _ cs' h1.2 hb' (by rw [← Nat.add_assoc];exact h3)
    refine ⟨w',?_,h5,(Chg.setCell w v (by simp)).trans h6⟩
    rw [storeCells,Sem.run_bind,hst]
    simpa using h4

theorem R.store {b o:Nat} {cs cs' vs:List Value} {te:TypeId} (ht:X.tb.row t=some r) (hx:ev σ x=some (.pointer (some ⟨b,o,none⟩))) (hy:ev σ y=some v) (hv:cellsE v=some vs)
    (hl:vs.length=r.size) (h1:vs.all Value.oneCell'=true) (hu:Upd L b (.cells ⟨cs⟩ te (0,0)) (.cells ⟨cs'⟩ te (0,0)) L') (hc:setE cs o vs=some cs') (h:R X all rest K σ L') :
    R X all (⟨none,.store t x y,ty,pos,af,none⟩::rest) K σ L :=
  R.skip rfl rfl fun a w ha hw=>by
    obtain ⟨w',h2,h3,h4⟩:=run_stores X.P ⟨b,o,none⟩ rfl te vs 0 w cs cs' h1 (hw.get _ _ hu.mem) hc
    have hcs:=cellsE_eq hv
    refine ⟨w',L',?_,hw.upd hu h4 h3,h⟩
    simp [execOp,ha.ev hx,ha.ev hy,Instr.storeAt,Instr.sureAddr,storeVar,(X.tb.get ht).size,hcs,hl,h2]

theorem R.alloc {dd:Nat} {cs:List Value} (hn:Nat.blt dd X.n=true) (ht:X.tb.row t=some r) (hz:cellsE r.zero=some cs)
    (h:∀ b,R X all rest K ((dd,.pointer (some ⟨b,0,none⟩))::σ) ((b,.cells ⟨cs⟩ t (0,0))::L)):R X all (⟨some dd,.alloc t,ty,pos,af,none⟩::rest) K σ L :=
  R.value rfl rfl hn fun a w ha hw=>by
    refine ⟨.pointer (some ⟨w.heap.size,0,none⟩),w.alloc (.cells ⟨cs⟩ t (0,0)),_,?_,hw.alloc _,h _⟩
    have:=cellsE_eq hz
    simp [execOp,Instr.alloc,(X.tb.get ht).zero,newVar,newRow,this]
theorem R.box {dd:Nat} {cs:List Value} (hn:Nat.blt dd X.n=true) (hx:ev σ x=some v) (hz:cellsE v=some cs)
    (h:∀ b,R X all rest K ((dd,.pointer (some ⟨b,0,none⟩))::σ) ((b,.cells ⟨cs⟩ t (0,0))::L)):R X all (⟨some dd,.box t x,ty,pos,af,none⟩::rest) K σ L :=
  R.value rfl rfl hn fun a w ha hw=>by
    refine ⟨.pointer (some ⟨w.heap.size,0,none⟩),w.alloc (.cells ⟨cs⟩ t (0,0)),_,?_,hw.alloc _,h _⟩
    have:=cellsE_eq hz
    simp [execOp,Instr.box,ha.ev hx,newVar,newRow,this]

def fldE:List (Nat × Nat × Nat)→Nat→Option (Nat × Nat × Nat)
  | [],_=>none
  | f::_,0=>some f
  | _::r,i+1=>fldE r i
theorem Flds.get {P:Program}:∀ {fs:List Field} {s:List (Nat × Nat × Nat)} {i ft off sz:Nat},Flds P fs s→fldE s i=some (ft,off,sz) →
    ∃ f,fs[i]? = some f∧f.type=ft∧f.offset=off∧(∀ w,(Go.sizeOf ft).run P w = .ok sz w)∧(f.name == "_")=false
  | [],[],i,_,_,_,_,h=>by cases h
  | [],_::_,_,_,_,_,h,_=>h.elim
  | _::_,[],_,_,_,_,h,_=>h.elim
  | f::fs,(t',o',z')::s,0,ft,off,sz,h,e=>by cases e;exact ⟨f,rfl,h.1,h.2.1,h.2.2.1,h.2.2.2.1⟩
  | f::fs,(t',o',z')::s,i+1,ft,off,sz,h,e=>Flds.get (fs:=fs) (i:=i) h.2.2.2.2 e

theorem Addr.add_none (b o k:Nat):Addr.add ⟨b,o,none⟩ k=⟨b,o+k,none⟩:=by
  simp only [Addr.add];split
  · rename_i e;subst e;rfl
  · rfl

theorem Ok1.fieldAddr {f b o ft off sz:Nat} {fs:List (Nat × Nat × Nat)} (ht:X.tb.row t=some r) (hk:r.k = .strct fs) (hx:ev σ x=some (.pointer (some ⟨b,o,none⟩))) (hf:fldE fs f=some (ft,off,sz)) (hz:Nat.beq sz 0=false) :
    Ok1 X ⟨d,.fieldAddr t x f,ty,pos,af,g⟩ σ L (.pointer (some ⟨b,o+off,none⟩)):=.mk fun a w ha hw=>by
  have h1:=(X.tb.get ht).is
  rw [hk] at h1
  obtain ⟨fields,h2,h3⟩:=h1
  obtain ⟨fl,h4,h5,h6,h7,_⟩:=h3.get hf
  have h4':fields[f]? = some fl:=by simpa using h4
  have hz':sz≠0:=fun e=>by subst e;cases hz
  simp [execOp,ha.ev hx,Instr.fieldAt,run_underlying h2,h4',Instr.sureAddr,fieldPlace,h5,h6,h7,hz',Addr.add_none]

theorem Ok1.field1 {f ft off sz:Nat} {fs:List (Nat × Nat × Nat)} {cs:List Value} {r':TRow} (ht:X.tb.row t=some r) (hk:r.k = .strct fs) (hx:ev σ x=some (.agg ⟨cs⟩)) (hf:fldE fs f=some (ft,off,sz)) (hft:X.tb.row ft=some r') (hk':r'.k.agg=some false) (hc:cs[off]? = some v) :
    Ok1 X ⟨d,.field t x f,ty,pos,af,g⟩ σ L v:=.mk fun a w ha hw=>by
  have h1:=(X.tb.get ht).is
  rw [hk] at h1
  obtain ⟨fields,h2,h3⟩:=h1
  obtain ⟨fl,h4,h5,h6,h7,_⟩:=h3.get hf
  have h4':fields[f]? = some fl:=by simpa using h4
  simp [execOp,ha.ev hx,Instr.field,run_underlying h2,h4',asAgg,h5,h6,part,(X.tb.get hft).agg hk']
  rw [hc];rfl
theorem extract_of_subE {cs vs:List Value} {o k:Nat} (h:subE cs o k=some vs):(Array.mk cs).extract o (o+k)=⟨vs⟩:=by
  obtain ⟨h1,h2⟩:=subE_spec h
  apply Array.ext_getElem?
  intro i
  rw [Array.getElem?_extract]
  by_cases hi:i < k
  · have h3:=h2 i hi
    have hlt:o+i < cs.length:=by
      rcases Nat.lt_or_ge (o+i) cs.length with h|h
      · exact h
      · rw [List.getElem?_eq_none h,List.getElem?_eq_getElem (by omega)] at h3;cases h3
    rw [if_pos (by simp;omega)]
    simpa using h3
  · rw [if_neg (by simp;omega)]
    simp;omega
theorem subE_take {cs vs:List Value} {o k:Nat} (h:subE cs o k=some vs):(cs.drop o).take k=vs:=by
  have:=congrArg Array.toList (extract_of_subE h)
  simpa using this
theorem Ok1.fieldk {f ft off sz:Nat} {fs:List (Nat × Nat × Nat)} {cs vs:List Value} {r':TRow} (ht:X.tb.row t=some r) (hk:r.k = .strct fs) (hx:ev σ x=some (.agg ⟨cs⟩)) (hf:fldE fs f=some (ft,off,sz)) (hft:X.tb.row ft=some r') (hk':r'.k.agg=some true) (hc:subE cs off sz=some vs) :
    Ok1 X ⟨d,.field t x f,ty,pos,af,g⟩ σ L (.agg ⟨vs⟩):=.mk fun a w ha hw=>by
  have h1:=(X.tb.get ht).is
  rw [hk] at h1
  obtain ⟨fields,h2,h3⟩:=h1
  obtain ⟨fl,h4,h5,h6,h7,_⟩:=h3.get hf
  have h4':fields[f]? = some fl:=by simpa using h4
  simp [execOp,ha.ev hx,Instr.field,run_underlying h2,h4',asAgg,h5,h6,part,(X.tb.get hft).agg hk',h7,subE_take hc]

theorem Ok1.indexAddr {b o n cap e:Nat} {k:IntKind} {i:Int} {re:TRow} (ht:X.tb.row t=some r) (hk:r.k = .slice e) (he:X.tb.row e=some re) (hx:ev σ x=some (.slice (some ⟨b,o,none⟩) n cap)) (hy:ev σ y=some (.int k i)) (h0:0≤i) (h1:i < n) :
    Ok1 X ⟨d,.indexAddr t x y,ty,pos,af,g⟩ σ L (.pointer (some ⟨b,o+i.toNat * re.size,none⟩)):=.mk fun a w ha hw=>by
  have h2:=(X.tb.get ht).is
  rw [hk] at h2
  simp only [TK.is] at h2
  simp [execOp,ha.ev hx,ha.ev hy,Instr.indexAt,asIntOf,run_underlying h2,h0,h1,(X.tb.get he).size,Addr.add_none]
theorem Ok1.indexAddrA {b o n e:Nat} {k:IntKind} {i:Int} {re:TRow} (ht:X.tb.row t=some r) (hk:r.k = .arr n e) (he:X.tb.row e=some re) (hx:ev σ x=some (.pointer (some ⟨b,o,none⟩))) (hy:ev σ y=some (.int k i)) (h0:0≤i) (h1:i < n) :
    Ok1 X ⟨d,.indexAddr t x y,ty,pos,af,g⟩ σ L (.pointer (some ⟨b,o+i.toNat * re.size,none⟩)):=.mk fun a w ha hw=>by
  have h2:=(X.tb.get ht).is
  rw [hk] at h2
  simp only [TK.is] at h2
  simp [execOp,ha.ev hx,ha.ev hy,Instr.indexAt,Instr.sureAddr,asIntOf,run_underlying h2,h0,h1,(X.tb.get he).size,Addr.add_none]
theorem Ok1.index1 {n e:Nat} {k:IntKind} {i:Int} {re:TRow} {cs:List Value} (ht:X.tb.row t=some r) (hk:r.k = .arr n e) (he:X.tb.row e=some re) (hk':re.k.agg=some false) (hx:ev σ x=some (.agg ⟨cs⟩)) (hy:ev σ y=some (.int k i)) (h0:0≤i) (h1:i < n) (hc:cs[i.toNat * re.size]? = some v) :
    Ok1 X ⟨d,.index t x y,ty,pos,af,g⟩ σ L v:=.mk fun a w ha hw=>by
  have h2:=(X.tb.get ht).is
  rw [hk] at h2
  simp only [TK.is] at h2
  simp [execOp,ha.ev hx,ha.ev hy,Instr.index,asIntOf,run_underlying h2,h0,h1,(X.tb.get he).size,part,(X.tb.get he).agg hk']
  rw [hc];rfl
theorem Ok1.indexk {n e:Nat} {k:IntKind} {i:Int} {re:TRow} {cs vs:List Value} (ht:X.tb.row t=some r) (hk:r.k = .arr n e) (he:X.tb.row e=some re) (hk':re.k.agg=some true) (hx:ev σ x=some (.agg ⟨cs⟩)) (hy:ev σ y=some (.int k i)) (h0:0≤i) (h1:i < n) (hc:subE cs (i.toNat * re.size) re.size=some vs) :
    Ok1 X ⟨d,.index t x y,ty,pos,af,g⟩ σ L (.agg ⟨vs⟩):=.mk fun a w ha hw=>by
  have h2:=(X.tb.get ht).is
  rw [hk] at h2
  simp only [TK.is] at h2
  simp [execOp,ha.ev hx,ha.ev hy,Instr.index,asIntOf,run_underlying h2,h0,h1,(X.tb.get he).size,part,(X.tb.get he).agg hk',subE_take hc]
theorem Ok1.extract {i:Nat} {vs:List Value} (hx:ev σ x=some (.tuple ⟨vs⟩)) (hc:vs[i]? = some v):Ok1 X ⟨d,.extract x i,ty,pos,af,g⟩ σ L v:=.mk fun a w ha hw=>by
  have hc':(Array.mk vs)[i]? = some v:=by simpa using hc
  simp [execOp,ha.ev hx,Instr.extract,hc']
theorem Ok1.nilCheck {p:Addr} (hx:ev σ x=some (.pointer (some p))):Ok1 X ⟨d,.nilCheck x,ty,pos,af,g⟩ σ L (.pointer (some p)):=.mk fun a w ha hw=>by simp [execOp,ha.ev hx]
theorem Ok1.makeFunc {fn:Fn} {f1 f2:List Operand} {v1 v2:List Value} (h1:evs σ f1=some v1) (h2:evs σ f2=some v2):Ok1 X ⟨d,.makeFunc fn f1.toArray f2.toArray,ty,pos,af,g⟩ σ L (.func fn v1.toArray v2.toArray):=.mk fun a w ha hw=>by
  have key:∀ (xs:List Operand) (vs:List Value),evs σ xs=some vs→xs.map a.eval=vs:=by
    intro xs
    induction xs with
    | nil=>intro vs h;simp [evs] at h;simp [← h]
    | cons x xs ih =>
      intro vs h
      simp only [evs] at h
      cases h1:ev σ x with
      | none=>simp [h1] at h
      | some u =>
        cases h2:evs σ xs with
        | none=>simp [h1,h2] at h
        | some us=>simp [h1,h2] at h;subst h;simp [ha.ev h1,ih us h2]
  simp [execOp,Instr.makeFunc,key _ _ h1,key _ _ h2]

theorem Ok1.lenS {e:Nat} {p:Option Addr} {n cap:Nat} (ht:X.tb.row t=some r) (hk:r.k = .slice e) (hx:ev σ x=some (.slice p n cap)):Ok1 X ⟨d,.call { callee:=.builtin .len,args:=#[x],argTypes:=#[t] },ty,pos,af,g⟩ σ L (.int .i64 n):=.mk fun a w ha hw=>by
  have h2:=(X.tb.get ht).is
  rw [hk] at h2
  simp only [TK.is] at h2
  simp [execOp,resolve,ha.ev hx,invoke,builtin,Builtin.len_,run_underlying h2,goInt]
variable {ty2:TypeId} {k:IntKind} {i j:Int}
theorem Ok1.add (hx:ev σ x=some (.int k i)) (hy:ev σ y=some (.int k j)):Ok1 X ⟨d,.binOp .add t x y ty2,ty,pos,af,g⟩ σ L (.int k (k.wrap (i+j))):=.mk fun a w ha hw=>by
  simp [execOp,ha.ev hx,ha.ev hy,eqGuard,binOp,Op.intArith]
theorem Ok1.sub (hx:ev σ x=some (.int k i)) (hy:ev σ y=some (.int k j)):Ok1 X ⟨d,.binOp .sub t x y ty2,ty,pos,af,g⟩ σ L (.int k (k.wrap (i - j))):=.mk fun a w ha hw=>by
  simp [execOp,ha.ev hx,ha.ev hy,eqGuard,binOp,Op.intArith]
theorem Ok1.mul (hx:ev σ x=some (.int k i)) (hy:ev σ y=some (.int k j)):Ok1 X ⟨d,.binOp .mul t x y ty2,ty,pos,af,g⟩ σ L (.int k (k.wrap (i * j))):=.mk fun a w ha hw=>by
  simp [execOp,ha.ev hx,ha.ev hy,eqGuard,binOp,Op.intArith]
theorem Ok1.rem (hx:ev σ x=some (.int k i)) (hy:ev σ y=some (.int k j)) (h:j≠0):Ok1 X ⟨d,.binOp .rem t x y ty2,ty,pos,af,g⟩ σ L (.int k (i.tmod j)):=.mk fun a w ha hw=>by
  simp [execOp,ha.ev hx,ha.ev hy,eqGuard,binOp,Op.intDiv,h]
theorem wrap_in {i:Int} (h1 : -9223372036854775808≤i) (h2:i≤9223372036854775807):IntKind.i64.wrap i=i:=IntWalk.i64_in i (by omega)
theorem Ok1.add64 (hx:ev σ x=some (.int .i64 i)) (hy:ev σ y=some (.int .i64 j)) (h1 : -9223372036854775808≤i+j) (h2:i+j≤9223372036854775807):Ok1 X ⟨d,.binOp .add t x y ty2,ty,pos,af,g⟩ σ L (.int .i64 (i+j)):=by
  have:=Ok1.add (X:=X) (σ:=σ) (L:=L) (d:=d) (ty:=ty) (pos:=pos) (af:=af) (g:=g) (t:=t) (ty2:=ty2) hx hy
  rwa [wrap_in h1 h2] at this
theorem Ok1.sub64 (hx:ev σ x=some (.int .i64 i)) (hy:ev σ y=some (.int .i64 j)) (h1 : -9223372036854775808≤i - j) (h2:i - j≤9223372036854775807):Ok1 X ⟨d,.binOp .sub t x y ty2,ty,pos,af,g⟩ σ L (.int .i64 (i - j)):=by
  have:=Ok1.sub (X:=X) (σ:=σ) (L:=L) (d:=d) (ty:=ty) (pos:=pos) (af:=af) (g:=g) (t:=t) (ty2:=ty2) hx hy
  rwa [wrap_in h1 h2] at this
theorem Ok1.mul64 (hx:ev σ x=some (.int .i64 i)) (hy:ev σ y=some (.int .i64 j)) (h1 : -9223372036854775808≤i * j) (h2:i * j≤9223372036854775807):Ok1 X ⟨d,.binOp .mul t x y ty2,ty,pos,af,g⟩ σ L (.int .i64 (i * j)):=by
  have:=Ok1.mul (X:=X) (σ:=σ) (L:=L) (d:=d) (ty:=ty) (pos:=pos) (af:=af) (g:=g) (t:=t) (ty2:=ty2) hx hy
  rwa [wrap_in h1 h2] at this
theorem Ok1.conv {k':IntKind} {src dst:TypeId} {rs rd:TRow} (hd:X.tb.row dst=some rd) (hk:rd.k = .int k') (hs:X.tb.row src=some rs) (hk2:rs.k = .int k) (hx:ev σ x=some (.int k i)):Ok1 X ⟨d,.convert src dst x,ty,pos,af,g⟩ σ L (.int k' (k'.wrap i)):=.mk fun a w ha hw=>by
  have h2:=(X.tb.get hd).is
  have h3:=(X.tb.get hs).is
  rw [hk] at h2
  rw [hk2] at h3
  simp only [TK.is] at h2 h3
  simp [execOp,ha.ev hx,convert,run_underlying h2,run_underlying h3,Conv.intToInt]
theorem Ok1.not {b:Bool} (hx:ev σ x=some (.bool b)):Ok1 X ⟨d,.unOp .not t x,ty,pos,af,g⟩ σ L (.bool (!b)):=.mk fun a w ha hw=>by
  simp [execOp,ha.ev hx,Op.unary]
theorem Ok1.not_t (hx:ev σ x=some (.bool true)):Ok1 X ⟨d,.unOp .not t x,ty,pos,af,g⟩ σ L (.bool false):=Ok1.not hx
theorem Ok1.not_f (hx:ev σ x=some (.bool false)):Ok1 X ⟨d,.unOp .not t x,ty,pos,af,g⟩ σ L (.bool true):=Ok1.not hx
theorem Ok1.neg (hx:ev σ x=some (.int k i)):Ok1 X ⟨d,.unOp .neg t x,ty,pos,af,g⟩ σ L (.int k (k.wrap (0 - i))):=.mk fun a w ha hw=>by
  simp [execOp,ha.ev hx,Op.unary,Op.intArith]

theorem Ok1.lss_t (hx:ev σ x=some (.int k i)) (hy:ev σ y=some (.int k j)) (h:i < j):Ok1 X ⟨d,.binOp .lss t x y ty2,ty,pos,af,g⟩ σ L (.bool true):=.mk fun a w ha hw=>by
  simp [execOp,ha.ev hx,ha.ev hy,eqGuard,binOp,Op.intCmp,h]
theorem Ok1.lss_f (hx:ev σ x=some (.int k i)) (hy:ev σ y=some (.int k j)) (h:j≤i):Ok1 X ⟨d,.binOp .lss t x y ty2,ty,pos,af,g⟩ σ L (.bool false):=.mk fun a w ha hw=>by
  simp [execOp,ha.ev hx,ha.ev hy,eqGuard,binOp,Op.intCmp,h]
theorem Ok1.leq_t (hx:ev σ x=some (.int k i)) (hy:ev σ y=some (.int k j)) (h:i≤j):Ok1 X ⟨d,.binOp .leq t x y ty2,ty,pos,af,g⟩ σ L (.bool true):=.mk fun a w ha hw=>by
  simp [execOp,ha.ev hx,ha.ev hy,eqGuard,binOp,Op.intCmp,h]
theorem Ok1.leq_f (hx:ev σ x=some (.int k i)) (hy:ev σ y=some (.int k j)) (h:j < i):Ok1 X ⟨d,.binOp .leq t x y ty2,ty,pos,af,g⟩ σ L (.bool false):=.mk fun a w ha hw=>by
  simp [execOp,ha.ev hx,ha.ev hy,eqGuard,binOp,Op.intCmp,h]
theorem Ok1.gtr_t (hx:ev σ x=some (.int k i)) (hy:ev σ y=some (.int k j)) (h:j < i):Ok1 X ⟨d,.binOp .gtr t x y ty2,ty,pos,af,g⟩ σ L (.bool true):=.mk fun a w ha hw=>by
  simp [execOp,ha.ev hx,ha.ev hy,eqGuard,binOp,Op.intCmp,h]
theorem Ok1.gtr_f (hx:ev σ x=some (.int k i)) (hy:ev σ y=some (.int k j)) (h:i≤j):Ok1 X ⟨d,.binOp .gtr t x y ty2,ty,pos,af,g⟩ σ L (.bool false):=.mk fun a w ha hw=>by
  simp [execOp,ha.ev hx,ha.ev hy,eqGuard,binOp,Op.intCmp,h]
theorem Ok1.geq_t (hx:ev σ x=some (.int k i)) (hy:ev σ y=some (.int k j)) (h:j≤i):Ok1 X ⟨d,.binOp .geq t x y ty2,ty,pos,af,g⟩ σ L (.bool true):=.mk fun a w ha hw=>by
  simp [execOp,ha.ev hx,ha.ev hy,eqGuard,binOp,Op.intCmp,h]
theorem Ok1.geq_f (hx:ev σ x=some (.int k i)) (hy:ev σ y=some (.int k j)) (h:i < j):Ok1 X ⟨d,.binOp .geq t x y ty2,ty,pos,af,g⟩ σ L (.bool false):=.mk fun a w ha hw=>by
  simp [execOp,ha.ev hx,ha.ev hy,eqGuard,binOp,Op.intCmp,h]
theorem Ok1.eql_t (hx:ev σ x=some (.int k i)) (hy:ev σ y=some (.int k j)) (h:i=j):Ok1 X ⟨d,.binOp .eql t x y ty2,ty,pos,af,g⟩ σ L (.bool true):=.mk fun a w ha hw=>by
  simp [execOp,ha.ev hx,ha.ev hy,eqGuard,binOp,Op.intCmp,h]
theorem Ok1.eql_f (hx:ev σ x=some (.int k i)) (hy:ev σ y=some (.int k j)) (h:i≠j):Ok1 X ⟨d,.binOp .eql t x y ty2,ty,pos,af,g⟩ σ L (.bool false):=.mk fun a w ha hw=>by
  simp [execOp,ha.ev hx,ha.ev hy,eqGuard,binOp,Op.intCmp,h]
theorem Ok1.neq_t (hx:ev σ x=some (.int k i)) (hy:ev σ y=some (.int k j)) (h:i≠j):Ok1 X ⟨d,.binOp .neq t x y ty2,ty,pos,af,g⟩ σ L (.bool true):=.mk fun a w ha hw=>by
  simp [execOp,ha.ev hx,ha.ev hy,eqGuard,binOp,Op.intCmp,h]
theorem Ok1.neq_f (hx:ev σ x=some (.int k i)) (hy:ev σ y=some (.int k j)) (h:i=j):Ok1 X ⟨d,.binOp .neq t x y ty2,ty,pos,af,g⟩ σ L (.bool false):=.mk fun a w ha hw=>by
  simp [execOp,ha.ev hx,ha.ev hy,eqGuard,binOp,Op.intCmp,h]

variable {dd:Nat}
theorem R.lss (hn:Nat.blt dd X.n=true) (hx:ev σ x=some (.int k i)) (hy:ev σ y=some (.int k j)) (h1:i < j→R X all rest K ((dd,.bool true)::σ) L) (h2:j≤i→R X all rest K ((dd,.bool false)::σ) L):R X all (⟨some dd,.binOp .lss t x y ty2,ty,pos,af,none⟩::rest) K σ L:=by
  by_cases h:i < j
  · exact R.pure hn (Ok1.lss_t hx hy h) (h1 h)
  · exact R.pure hn (Ok1.lss_f hx hy (by omega)) (h2 (by omega))
theorem R.leq (hn:Nat.blt dd X.n=true) (hx:ev σ x=some (.int k i)) (hy:ev σ y=some (.int k j)) (h1:i≤j→R X all rest K ((dd,.bool true)::σ) L) (h2:j < i→R X all rest K ((dd,.bool false)::σ) L):R X all (⟨some dd,.binOp .leq t x y ty2,ty,pos,af,none⟩::rest) K σ L:=by
  by_cases h:i≤j
  · exact R.pure hn (Ok1.leq_t hx hy h) (h1 h)
  · exact R.pure hn (Ok1.leq_f hx hy (by omega)) (h2 (by omega))
theorem R.gtr (hn:Nat.blt dd X.n=true) (hx:ev σ x=some (.int k i)) (hy:ev σ y=some (.int k j)) (h1:j < i→R X all rest K ((dd,.bool true)::σ) L) (h2:i≤j→R X all rest K ((dd,.bool false)::σ) L):R X all (⟨some dd,.binOp .gtr t x y ty2,ty,pos,af,none⟩::rest) K σ L:=by
  by_cases h:j < i
  · exact R.pure hn (Ok1.gtr_t hx hy h) (h1 h)
  · exact R.pure hn (Ok1.gtr_f hx hy (by omega)) (h2 (by omega))
theorem R.geq (hn:Nat.blt dd X.n=true) (hx:ev σ x=some (.int k i)) (hy:ev σ y=some (.int k j)) (h1:j≤i→R X all rest K ((dd,.bool true)::σ) L) (h2:i < j→R X all rest K ((dd,.bool false)::σ) L):R X all (⟨some dd,.binOp .geq t x y ty2,ty,pos,af,none⟩::rest) K σ L:=by
  by_cases h:j≤i
  · exact R.pure hn (Ok1.geq_t hx hy h) (h1 h)
  · exact R.pure hn (Ok1.geq_f hx hy (by omega)) (h2 (by omega))
theorem R.eql (hn:Nat.blt dd X.n=true) (hx:ev σ x=some (.int k i)) (hy:ev σ y=some (.int k j)) (h1:i=j→R X all rest K ((dd,.bool true)::σ) L) (h2:i≠j→R X all rest K ((dd,.bool false)::σ) L):R X all (⟨some dd,.binOp .eql t x y ty2,ty,pos,af,none⟩::rest) K σ L:=by
  by_cases h:i=j
  · exact R.pure hn (Ok1.eql_t hx hy h) (h1 h)
  · exact R.pure hn (Ok1.eql_f hx hy h) (h2 h)
theorem R.neq (hn:Nat.blt dd X.n=true) (hx:ev σ x=some (.int k i)) (hy:ev σ y=some (.int k j)) (h1:i≠j→R X all rest K ((dd,.bool true)::σ) L) (h2:i=j→R X all rest K ((dd,.bool false)::σ) L):R X all (⟨some dd,.binOp .neq t x y ty2,ty,pos,af,none⟩::rest) K σ L:=by
  by_cases h:i=j
  · exact R.pure hn (Ok1.neq_f hx hy h) (h2 h)
  · exact R.pure hn (Ok1.neq_t hx hy h) (h1 h)
end
inductive ResIs (X:Cx) (σ:Env) (L:Lst):List ResultVar→List Value→Prop where
  | nil:ResIs X σ L [] []
  | tmp {t:Nat} {v:Value} {rs:List ResultVar} {vs:List Value}:look σ t=some v→ResIs X σ L rs vs→ResIs X σ L (.tmp t::rs) (v::vs)
  | cell {a t:Nat} {p:Addr} {v:Value} {rs:List ResultVar} {vs:List Value}:look σ a=some (.pointer (some p))→Ld X L t p v→ResIs X σ L rs vs→ResIs X σ L (.cell a t::rs) (v::vs)
def tup:List Value→Value
  | [v]=>v
  | vs=>.tuple vs.toArray
structure RetOk (X:Cx) (rs:List ResultVar) (Rp:Value→Lst→Prop) (σ:Env) (L:Lst):Prop where
  ex:∃ vs,ResIs X σ L rs vs∧Rp (tup vs) L
def retQ (X:Cx) (rs:List ResultVar) (Rp:Value→Lst→Prop):Post:=fun e σ L=>match e with
  | .normal=>RetOk X rs Rp σ L
  | .ret=>RetOk X rs Rp σ L
  | _=>False
section
variable {X:Cx} {Rp:Value→Lst→Prop} {σ:Env} {L:Lst} {a b c' ta tb tc:Nat} {u v z:Value} {p q:Addr}
theorem RetOk.n (h:Rp (.tuple #[]) L):RetOk X [] Rp σ L:=⟨[],.nil,h⟩
theorem RetOk.t (h1:look σ a=some u) (h:Rp u L):RetOk X [.tmp a] Rp σ L:=⟨[u],.tmp h1 .nil,h⟩
theorem RetOk.c (h1:look σ a=some (.pointer (some p))) (h2:Ld X L ta p u) (h:Rp u L):RetOk X [.cell a ta] Rp σ L:=⟨[u],.cell h1 h2 .nil,h⟩
theorem RetOk.tt (h1:look σ a=some u) (h2:look σ b=some v) (h:Rp (.tuple ⟨[u,v]⟩) L):RetOk X [.tmp a,.tmp b] Rp σ L:=⟨[u,v],.tmp h1 (.tmp h2 .nil),h⟩
theorem RetOk.ct (h1:look σ a=some (.pointer (some p))) (h2:Ld X L ta p u) (h3:look σ b=some v) (h:Rp (.tuple ⟨[u,v]⟩) L):RetOk X [.cell a ta,.tmp b] Rp σ L:=⟨[u,v],.cell h1 h2 (.tmp h3 .nil),h⟩
end
def number:Nat→List Value→Env
  | _,[]=>[]
  | k,v::r=>(k,v)::number (k+1) r
theorem number_look:∀ {vs:List Value} {k t:Nat} {v:Value},look (number k vs) t=some v→k≤t∧vs[t - k]? = some v
  | [],_,_,_,h=>by cases h
  | u :: r,k,t,v,h=>by
    simp only [number,look] at h
    cases hb:Nat.beq k t with
    | true=>rw [hb] at h;cases h;have:=Nat.eq_of_beq_eq_true hb;subst this;simp
    | false =>
      rw [hb] at h
      obtain ⟨h1,h2⟩:=number_look h
      refine ⟨by omega,?_⟩
      obtain ⟨m,rfl⟩:∃ m,t=k+1+m:=⟨t - (k+1),by omega⟩
      rw [show k+1+m - k=m+1 by omega]
      rw [show k+1+m - (k+1)=m by omega] at h2
      simpa using h2

theorem ResIs.run {X:Cx} {σ:Env} {L:Lst} {a:Act} {w:World} (ha:Mod X.n a σ) (hw:Hp X.w0 X.S L w):∀ {rs:List ResultVar} {vs:List Value},ResIs X σ L rs vs →
    (rs.mapM (m:=Sem) fun | .tmp t=>Pure.pure (a.tmps.getD t undef) | .cell b t=>do loadVar t (← asAddr (a.tmps.getD b undef))).run X.P w = .ok vs w
  | _,_,.nil=>by simp
  | _,_,.tmp h1 h2=>by
    have:=ResIs.run ha hw h2
    simp only [List.mapM_cons,Sem.run_bind,Sem.run_pure,Result.andThen_ok,this]
    rw [ha.ok _ _ h1]
  | _,_,.cell (a:=b) (t:=t) (v:=v) h1 h2 h3=>by
    have:=ResIs.run ha hw h3
    rw [List.mapM_cons,Sem.run_bind]
    have h4:(do let x ← asAddr (a.tmps.getD b undef);loadVar t x:Sem Value).run X.P w = .ok v w:=by
      rw [ha.ok _ _ h1,Sem.run_bind]
      exact h2.run w hw
    simp only [h4,Result.andThen_ok,Sem.run_bind,this,Sem.run_pure]

theorem enter {P:Program} {tb:Tb P} {f:FuncId} {fn:Func} {c:Code} {vs:List Value} {w:World} {S:List Nat} {L:Lst} {Rp:Value→Lst→Prop} {n:Nat}
    (hf:P.funcs[f]? = some fn) (hb:fn.body=some c) (hn:fn.ntmps=n) (hvn:vs.length≤n) (hw:Hp w S L w)
    (h:T ⟨P,tb,n,w,S⟩ c (retQ ⟨P,tb,n,w,S⟩ fn.results.toList Rp) (number 0 vs) L) :
    Calls P f vs.toArray w fun e w'=>∃ v L',e = .returned v∧Rp v L' ∧ Hp w S L' w':=by
  refine calls_of_wp hf hb ?_
  have ha:Mod n { tmps:=vs.toArray++Array.replicate (fn.ntmps - vs.toArray.size) undef,defers:=[] } (number 0 vs):=by
    refine ⟨by simp [hn];omega,rfl,fun t v hv=>?_⟩
    obtain ⟨_,h2⟩:=number_look hv
    rw [Nat.sub_zero] at h2
    obtain ⟨hl,he⟩:=List.getElem?_eq_some_iff.1 h2
    have h3:(vs.toArray++Array.replicate (fn.ntmps - vs.toArray.size) undef)[t]? = some v:=by
      rw [Array.getElem?_append,if_pos (by simpa using hl)];simpa using h2
    simp only [Array.getD]
    obtain ⟨h4,h5⟩:=Array.getElem?_eq_some_iff.1 h3
    rw [dif_pos h4];exact h5
  refine wp_mono (h.run _ w ha hw) fun e a w' ⟨σ,L',h1,h2,h3⟩=>?_
  have key:RetOk ⟨P,tb,n,w,S⟩ fn.results.toList Rp σ L' → a.defers=[]∧∃ v,(results fn a.tmps).run P w' = .ok v w' ∧ ∃ v' L',Ending.returned v = .returned v' ∧ Rp v' L' ∧ Hp w S L' w':=by
    rintro ⟨⟨vs,h4,h5⟩⟩
    refine ⟨h1.defers,tup vs,?_,tup vs,L',rfl,h5,h2⟩
    have:=ResIs.run h1 h2 h4
    have h6:(fn.results.mapM (m:=Sem) fun | .tmp t=>Pure.pure (a.tmps.getD t undef) | .cell b t=>do loadVar t (← asAddr (a.tmps.getD b undef))).run P w' = .ok vs.toArray w':=by
      rw [← Array.toArray_toList (xs:=fn.results),List.mapM_toArray]
      simp only [Sem.run_map]
      erw [this]
      rfl
    simp only [results,Sem.run_bind]
    erw [h6]
    simp only [Result.andThen_ok,Sem.run_pure]
    congr 1
    cases vs with
    | nil=>rfl
    | cons v vs=>cases vs<;>rfl
  cases e<;>first|exact h3.elim|exact key h3
theorem setE_cons {v:Value} {vs:List Value}:∀ {cs:List Value} {o:Nat} {cs':List Value},setE cs o (v::vs)=some cs' → o < cs.length∧setE (cs.set o v) (o+1) vs=some cs':=by
  intro cs
  induction cs with
  | nil=>intro o cs' h;simp [setE] at h
  | cons c cs ih =>
    intro o cs' h
    cases o with
    | zero =>
      simp only [setE] at h
      refine ⟨by simp,?_⟩
      simp only [List.set_cons_zero]
      cases vs with
      | nil=>simp [setE] at h ⊢;exact h
      | cons u us=>simpa [setE] using h
    | succ o =>
      simp only [setE] at h
      cases e:setE cs o (v::vs) with
      | none=>rw [e] at h;cases h
      | some r' =>
        rw [e] at h;cases h
        obtain ⟨h2,h3⟩:=ih e
        refine ⟨by simp;omega,?_⟩
        simp only [List.set_cons_succ]
        cases vs with
        | nil=>simp [setE] at h3 ⊢;exact h3
        | cons u us=>simp [setE,h3]
theorem setE_foldl (off:Nat):∀ {vs:List Value} {k:Nat} {z z':List Value},setE z (off+k) vs=some z' →
    (vs.zipIdx k).foldl (fun (cs:Array Value) (p:Value × Nat)=>cs.setIfInBounds (off+p.2) p.1) ⟨z⟩=⟨z'⟩
  | [],k,z,z',h=>by simp [setE] at h;subst h;rfl
  | v :: vs,k,z,z',h=>by
    obtain ⟨h1,h2⟩:=setE_cons h
    simp only [List.zipIdx_cons,List.foldl_cons]
    have:(⟨z⟩:Array Value).setIfInBounds (off+k) v=⟨z.set (off+k) v⟩:=by
      apply Array.toList_inj.1;simp
    rw [this]
    exact setE_foldl off (by rw [← Nat.add_assoc];exact h2)

def evp (σ:Env):List (Nat × Operand)→Option (List (Nat × Value))
  | []=>some []
  | (i,x)::r=>match ev σ x with
    | none=>none
    | some v=>match evp σ r with
      | none=>none
      | some vs=>some ((i,v)::vs)
theorem evp_eq {n:Nat} {a:Act} {σ:Env} (ha:Mod n a σ):∀ {ps:List (Nat × Operand)} {vs:List (Nat × Value)},evp σ ps=some vs→ps.map (fun (i,x)=>(i,a.eval x))=vs
  | [],vs,h=>by simp [evp] at h;simp [h]
  | (i,x)::r,vs,h=>by
    simp only [evp] at h
    cases h1:ev σ x with
    | none=>simp [h1] at h
    | some u =>
      cases h2:evp σ r with
      | none=>simp [h1,h2] at h
      | some us=>simp [h1,h2] at h;subst h;simp [ha.ev h1,evp_eq ha h2]
def fillE (pl:Nat→Option (Nat × Nat)):List Value→List (Nat × Value)→Option (List Value)
  | z,[]=>copyE z
  | z,(i,v)::ps=>match pl i with
    | none=>none
    | some (off,sz)=>match cellsE v with
      | none=>none
      | some vs=>match Nat.beq vs.length sz with
        | false=>none
        | true=>match Nat.beq sz 0 with
          | true=>none
          | false=>match setE z off vs with
            | none=>none
            | some z'=>fillE pl z' ps
theorem fillE_fill {pl:Nat→Option (Nat × Nat)}:∀ {ps:List (Nat × Value)} {z cs:List Value},fillE pl z ps=some cs→Instr.fill pl ⟨z⟩ ps=some ⟨cs⟩
  | [],z,cs,h=>by simp only [fillE] at h;rw [copyE_eq h];rfl
  | (i, v) :: ps,z,cs,h=>by
    simp only [fillE] at h
    split at h
    · cases h
    · rename_i off sz hpl
      split at h
      · cases h
      · rename_i vs hv
        split at h
        · cases h
        · rename_i hb
          split at h
          · cases h
          · rename_i hz
            split at h
            · cases h
            · rename_i z' hs
              have hb':=Nat.eq_of_beq_eq_true hb
              have hz':sz≠0:=fun e=>by subst e;cases hz
              have hc:=cellsE_eq hv
              obtain ⟨h1,h2,_⟩:=setE_spec hs
              have h2':off+vs.length≤z.length:=by
                rcases h2 with h2|h2
                · subst h2;simp at hb';omega
                · exact h2
              have hf:=setE_foldl off (k:=0) (by simpa using hs)
              rw [Instr.fill,hpl]
              simp only [hc]
              rw [if_neg (by simp;omega)]
              have:(Array.mk vs).zipIdx.foldl (fun (cs:Array Value) (x:Value × Nat)=>cs.setIfInBounds (off+x.2) x.1) (⟨z⟩:Array Value)=(⟨z'⟩:Array Value):=by
                rw [← hf,← Array.foldl_toList];simp
              rw [this]
              exact fillE_fill h

def fldPl (fs:List (Nat × Nat × Nat)) (i:Nat):Option (Nat × Nat):=match fldE fs i with|some (_,off,sz)=>some (off,sz)|none=>none
theorem Flds.places {P:Program}:∀ {fs:List Field} {s:List (Nat × Nat × Nat)},Flds P fs s→∀ w,(fs.mapM (m:=Sem) fun f=>do pure (f.offset,← Go.sizeOf f.type)).run P w = .ok (s.map fun x=>(x.2.1,x.2.2)) w
  | [],[],_,w=>by simp
  | [],_::_,h,_=>h.elim
  | _::_,[],h,_=>h.elim
  | f::fs,(t,o,z)::s,h,w=>by
    obtain ⟨h1,h2,h3,_,h5⟩:=h
    have ih:=Flds.places h5 w
    simp only [bind_pure_comp] at ih
    simp [h1,h2,h3,ih]
theorem fldPl_eq:∀ (fs:List (Nat × Nat × Nat)) (i:Nat),fldPl fs i=(fs.map fun x=>(x.2.1,x.2.2))[i]?
  | [],i=>by simp [fldPl,fldE]
  | (t,o,z)::r,0=>by simp [fldPl,fldE]
  | (t,o,z)::r,i+1=>by
    have:=fldPl_eq r i
    simp only [fldPl,fldE] at this ⊢
    simpa using this

section
variable {X:Cx} {σ:Env} {L L':Lst} {d:Option Nat} {ty:TypeId} {pos:String} {af:Array Edge} {g:Option (Nat × Bool)} {x y c:Operand} {v vx vy:Value} {t:TypeId}
variable {all:Array Oper} {rest:List Oper} {K:Env→Lst→Prop} {r:TRow} {dd:Nat}
theorem Ok1.build {fs:List (Nat × Nat × Nat)} {z cs:List Value} {ps:List (Nat × Operand)} {vs:List (Nat × Value)} (ht:X.tb.row t=some r) (hk:r.k = .strct fs) (hz:cellsE r.zero=some z) (hp:evp σ ps=some vs) (hf:fillE (fldPl fs) z vs=some cs) :
    Ok1 X ⟨d,.build t ps.toArray,ty,pos,af,g⟩ σ L (.agg ⟨cs⟩):=.mk fun a w ha hw=>by
  have h1:=(X.tb.get ht).is
  rw [hk] at h1
  obtain ⟨fields,h2,h3⟩:=h1
  have hz':=cellsE_eq hz
  have hfl:=fillE_fill hf
  have hpl:(fldPl fs)=fun i=>(fs.map fun x=>(x.2.1,x.2.2))[i]?:=funext (fldPl_eq fs)
  rw [hpl] at hfl
  have hm:(fields.mapM (m:=Sem) fun f=>do pure (f.offset,← Go.sizeOf f.type)).run X.P w = .ok (fs.map fun x=>(x.2.1,x.2.2)).toArray w:=by
    rw [← Array.toArray_toList (xs:=fields),List.mapM_toArray]
    simp only [Sem.run_map]
    erw [h3.places w]
    rfl
  have he:=evp_eq ha hp
  simp only [execOp,Instr.build,Sem.run_bind,(X.tb.get ht).zero,Result.andThen_ok,run_underlying h2,hz',List.map_toArray,he]
  erw [hm]
  simp only [Result.andThen_ok,List.getElem?_toArray]
  rw [hfl]
  rfl
theorem Ok1.buildA {n e:Nat} {z cs:List Value} {ps:List (Nat × Operand)} {vs:List (Nat × Value)} {re:TRow} (ht:X.tb.row t=some r) (hk:r.k = .arr n e) (he:X.tb.row e=some re) (hz:cellsE r.zero=some z) (hp:evp σ ps=some vs) (hf:fillE (fun i=>some (i * re.size,re.size)) z vs=some cs) :
    Ok1 X ⟨d,.build t ps.toArray,ty,pos,af,g⟩ σ L (.agg ⟨cs⟩):=.mk fun a w ha hw=>by
  have h2:=(X.tb.get ht).is
  rw [hk] at h2
  simp only [TK.is] at h2
  have hz':=cellsE_eq hz
  have hfl:=fillE_fill hf
  have hev:=evp_eq ha hp
  simp only [execOp,Instr.build,Sem.run_bind,(X.tb.get ht).zero,Result.andThen_ok,run_underlying h2,hz',List.map_toArray,hev,(X.tb.get he).size]
  rw [hfl]
  rfl

def repE (z:List Value):Nat→Option (List Value)
  | 0=>some []
  | n+1=>match repE z n with|some r=>copyE (z++r)|none=>none
theorem repE_spec {z:List Value}:∀ {n:Nat} {r:List Value},repE z n=some r→r.length=n * z.length∧∀ i,i < n * z.length→r[i]? = z[i % z.length]?
  | 0,r,h=>by simp [repE] at h;subst h;simp
  | n + 1,r,h=>by
    simp only [repE] at h
    cases e:repE z n with
    | none=>rw [e] at h;cases h
    | some s =>
      rw [e] at h
      obtain ⟨h1,h2⟩:=repE_spec e
      rw [copyE_eq h]
      refine ⟨by simp [h1,Nat.add_mul];omega,fun i hi=>?_⟩
      rw [List.getElem?_append]
      by_cases hl:i < z.length
      · rw [if_pos hl,Nat.mod_eq_of_lt hl]
      · rw [if_neg hl,h2 _ (by rw [Nat.add_mul] at hi;omega)]
        congr 1
        conv=>rhs;rw [show i=i - z.length+z.length by omega]
        rw [Nat.add_mod_right]
theorem repE_arr {z r:List Value} {n:Nat} (hz:z.length≠0) (h:repE z n=some r):(Array.range (n * z.length)).map (fun i=>(Array.mk z)[i % (Array.mk z).size]!)=⟨r⟩:=by
  obtain ⟨h1,h2⟩:=repE_spec h
  apply Array.ext_getElem?
  intro i
  by_cases hi:i < n * z.length
  · have hm:i % z.length < z.length:=Nat.mod_lt _ (by omega)
    have:=h2 i hi
    simp [Array.getElem?_map,Array.getElem?_range,hi,this]
    rw [List.getElem?_eq_getElem hm]
    simp [hm]
  · simp [Array.getElem?_map,Array.getElem?_range,hi]
    omega

theorem R.buildSlice {e n:Nat} {z z0 cs:List Value} {ps:List (Nat × Operand)} {vs:List (Nat × Value)} {re:TRow} (hn:Nat.blt dd X.n=true) (ht:X.tb.row t=some r) (hk:r.k = .slice e) (he:X.tb.row e=some re) (hz:cellsE re.zero=some z) (hzl:z.length=re.size) (hz0:Nat.blt 0 re.size=true) (hn0:Nat.blt 0 n=true) (hbig:Nat.ble (n * re.size) 1000=true)
    (hr:repE z n=some z0) (hp:evp σ ps=some vs) (hf:fillE (fun i=>some (i * re.size,re.size)) z0 vs=some cs)
    (h:∀ b,R X all rest K ((dd,.slice (some ⟨b,0,none⟩) n n)::σ) ((b,.cells ⟨cs⟩ e (0,0))::L)):R X all (⟨some dd,.buildSlice t n ps.toArray,ty,pos,af,none⟩::rest) K σ L :=
  R.value rfl rfl hn fun a w ha hw=>by
    refine ⟨.slice (some ⟨w.heap.size,0,none⟩) n n,w.alloc (.cells ⟨cs⟩ e (0,0)),_,?_,hw.alloc _,h _⟩
    have h2:=(X.tb.get ht).is
    rw [hk] at h2
    simp only [TK.is] at h2
    have hz':=cellsE_eq hz
    have hfl:=fillE_fill hf
    have hev:=evp_eq ha hp
    have h0:0 < re.size:=blt_lt hz0
    have h0':0 < n:=blt_lt hn0
    have hb:n * re.size≤1000:=Nat.le_of_ble_eq_true hbig
    have hne:n * re.size≠0:=Nat.mul_ne_zero (by omega) (by omega)
    have hrep:=repE_arr (n:=n) (by omega) hr
    rw [hzl] at hrep
    simp only [execOp,Instr.buildSlice,Sem.run_bind,run_underlying h2,Result.andThen_ok,(X.tb.get he).size,List.map_toArray,hev]
    rw [if_neg (by omega)]
    simp only [Sem.run_pure,Result.andThen_ok,if_neg hne,Sem.run_bind,(X.tb.get he).zero,hz',hrep,hfl,newRow,run_newObj]
    rfl
end
/-- Called with these values,in whatever world,it returns v;nothing that was there has changed. -/
structure CallP (P:Program) (f:FuncId) (vs:List Value) (v:Value):Prop where
  run:∀ w,Calls P f vs.toArray w fun e w'=>e = .returned v∧Chg [] w w'
/-- The same,in this world. -/
structure CallW (P:Program) (f:FuncId) (vs:List Value) (w:World) (R:Value→World→Prop):Prop where
  run:Calls P f vs.toArray w fun e w'=>∃ v,e = .returned v∧R v w' ∧ Chg [] w w'

section
variable {X:Cx} {σ:Env} {L L':Lst} {dd:Nat} {ty:TypeId} {pos:String} {af:Array Edge} {x y c:Operand} {v vx vy:Value} {t:TypeId} {f:FuncId} {ats:Array TypeId}
variable {all:Array Oper} {rest:List Oper} {K:Env→Lst→Prop} {r:TRow} {xs:List Operand} {vs:List Value}
theorem R.callP (he:X.tb.fns.contains f=true) (hx:evs σ xs=some vs) (hn:Nat.blt dd X.n=true) (hc:CallP X.P f vs v) (h:R X all rest K ((dd,v)::σ) L) :
    R X all (⟨some dd,.call { callee:=.value (.func f),args:=xs.toArray,argTypes:=ats },ty,pos,af,none⟩::rest) K σ L :=
  R.call (α:=Unit) (v:=fun _=>v) (L':=fun _=>L) (I:=fun _=>True) he hx hn (fun w hw=>(hc.run w).mono fun e w' ⟨h1,h2⟩=>⟨(),h1,hw.step h2,trivial⟩) (fun _ _=>h)
/-- The value is one of those of which R1 holds (in no world's terms). -/
theorem R.callW {R1:Value→Prop} (he:X.tb.fns.contains f=true) (hx:evs σ xs=some vs) (hn:Nat.blt dd X.n=true) (hc:∀ w,Hp X.w0 X.S L w→CallW X.P f vs w fun v _=>R1 v) (h:∀ v,R1 v→R X all rest K ((dd,v)::σ) L) :
    R X all (⟨some dd,.call { callee:=.value (.func f),args:=xs.toArray,argTypes:=ats },ty,pos,af,none⟩::rest) K σ L :=
  R.call (α:=Value) (v:=fun v=>v) (L':=fun _=>L) (I:=R1) he hx hn (fun w hw=>(hc w hw).run.mono fun e w' ⟨v,h1,h2,h3⟩=>⟨v,h1,hw.step h3,h2⟩) h
/-- A call in a world of which facts are known: one value. -/
theorem R.callV (he:X.tb.fns.contains f=true) (hx:evs σ xs=some vs) (hn:Nat.blt dd X.n=true) (hc:∀ w,Hp X.w0 X.S L w→CallW X.P f vs w fun u _=>u=v) (h:R X all rest K ((dd,v)::σ) L) :
    R X all (⟨some dd,.call { callee:=.value (.func f),args:=xs.toArray,argTypes:=ats },ty,pos,af,none⟩::rest) K σ L :=
  R.callW (R1:=fun u=>u=v) he hx hn hc fun u hu=>by subst hu;exact h

theorem enterP {P:Program} (tb:Tb P) {f:FuncId} {fn:Func} {c:Code} {vs:List Value} {n:Nat} {v:Value}
    (hf:P.funcs[f]? = some fn) (hb:fn.body=some c) (hn:fn.ntmps=n) (hvn:Nat.ble vs.length n=true)
    (h:∀ w,T ⟨P,tb,n,w,[]⟩ c (retQ ⟨P,tb,n,w,[]⟩ fn.results.toList fun u _=>u=v) (number 0 vs) []):CallP P f vs v :=
  ⟨fun w=>(enter hf hb hn (Nat.le_of_ble_eq_true hvn) (Hp.start w []) (h w)).mono fun e w' ⟨u,L',h1,h2,h3⟩=>⟨by rw [h1,h2],h3.chg⟩⟩
theorem enterW {P:Program} (tb:Tb P) {f:FuncId} {fn:Func} {c:Code} {vs:List Value} {n:Nat} {R1:Value→Prop} {w:World}
    (hf:P.funcs[f]? = some fn) (hb:fn.body=some c) (hn:fn.ntmps=n) (hvn:Nat.ble vs.length n=true)
    (h:T ⟨P,tb,n,w,[]⟩ c (retQ ⟨P,tb,n,w,[]⟩ fn.results.toList fun u _=>R1 u) (number 0 vs) []):CallW P f vs w fun u _=>R1 u :=
  ⟨(enter hf hb hn (Nat.le_of_ble_eq_true hvn) (Hp.start w []) h).mono fun e w' ⟨u,L',h1,h2,h3⟩=>⟨u,h1,h2,h3.chg⟩⟩

end
/-- Like wpAnyH;it holds in every later world too (one that has new blocks besides). -/
def wpAnyC (P:Program) (md:Region.Mode) (ops:Array Oper) (Q:Exit→Act→World→Prop) (S:World→Prop):Nat→Array Bool→Act→World→Prop
  | 0,listed,a,w=>Region.ready md ops listed=[]∧∀ w',Chg [] w w' → Q .normal a w'
  | fuel+1,listed,a,w=>∀ w',Chg [] w w' → (Region.ready md ops listed=[]→Q .normal a w') ∧
    ∀ i∈Region.ready md ops listed,wpOp P ops Q i (fun a' w''=>S w'' ∧ wpAnyC P md ops Q S fuel (listed.setIfInBounds i true) a' w'') a w'
section
variable {P:Program} {ops:Array Oper} {Q:Exit→Act→World→Prop} {md:Region.Mode} {S:World→Prop}
theorem wpAnyC_up:∀ {fuel:Nat} {listed:Array Bool} {a:Act} {w w':World},wpAnyC P md ops Q S fuel listed a w→Chg [] w w' → wpAnyC P md ops Q S fuel listed a w'
  | 0,_,_,_,_,h,hc=>⟨h.1,fun w2 h2=>h.2 w2 (hc.trans h2)⟩
  | _+1,_,_,_,_,h,hc=>fun w2 h2=>h w2 (hc.trans h2)
theorem wpAny_of_C:∀ (fuel:Nat) (listed:Array Bool) (a:Act) (w:World),wpAnyC P md ops Q S fuel listed a w→wpAny P md ops Q fuel listed a w
  | 0,_,_,w,h=>⟨h.1,h.2 w (Chg.refl [] w)⟩
  | fuel+1,_,_,w,h=>⟨(h w (Chg.refl [] w)).1,fun i hi=>wpOp_mono (fun a' w' h'=>wpAny_of_C fuel _ a' w' h'.2) ((h w (Chg.refl [] w)).2 i hi)⟩
/-- The value is there at once,or by a call that makes new blocks at most. -/
def Good (P:Program) (v:Value) (w:World) (r:Result Next):Prop:=r = .ok (.value v) w ∨ ∃ f args,r = .ok (.enter f args) w∧Calls P f args w fun e w'=>e = .returned v∧Chg [] w w'
/-- Operation o yields v in every world that meets S,and makes new blocks at most. -/
def CalmIf (P:Program) (ops:Array Oper) (S:World→Prop) (o:Oper) (v:Value) (a:Act):Prop :=
  (Region.wanted o (yielded ops a.tmps)=true∧∀ w,S w→Good P v w ((execOp a.eval o).run P w)) ∨ (Region.wanted o (yielded ops a.tmps)=false∧v=undef)
theorem YieldsIf.calm {o:Oper} {v:Value} {a:Act} (h:YieldsIf P ops S o v a):CalmIf P ops S o v a:=h.imp (fun ⟨h1,h2⟩=>⟨h1,fun w hw=>.inl (h2 w hw)⟩) id
theorem CalmIf.wpOp {i:Nat} {o:Oper} {v:Value} {a:Act} (hi:ops[i]? = some o) (hy:CalmIf P ops S o v a) {K:Act→World→Prop} {w:World} (hS:S w) (h:∀ w',Chg [] w w' → K (a.put o.dst v) w'):wpOp P ops Q i K a w:=by
  unfold Go.wpOp
  simp only [hi]
  rcases hy with ⟨hw,hv⟩|⟨hw,rfl⟩
  · simp only [hw,if_true]
    left
    unfold Oper.wp
    rcases hv w hS with h1|⟨f,args,h1,h2⟩
    · rw [h1];exact h w (Chg.refl [] w)
    · rw [h1]
      refine Calls.mono h2 ?_
      rintro e w' ⟨rfl,hc⟩
      exact h w' hc
  · simp only [hw,Bool.false_eq_true,if_false];exact h w (Chg.refl [] w)
theorem CalmIf.of_same {o:Oper} {v:Value} {a a':Act} (hy:CalmIf P ops S o v a) (he:execOp a'.eval o=execOp a.eval o) (hw:Region.wanted o (yielded ops a'.tmps)=Region.wanted o (yielded ops a.tmps)):CalmIf P ops S o v a':=by
  unfold CalmIf at *
  rw [he,hw]
  exact hy
theorem wpOp_putC {j:Nat} {oi oj:Oper} {v:Value} (hj:ops[j]? = some oj) (hap:oi.apart ops oj=true)
    (hsi:∀ cs b,oi.op ≠ .select cs b) (hsj:∀ cs b,oj.op ≠ .select cs b)
    (hQ:∀ c a w,Q (.panic c) (a.put oi.dst v) w→Q (.panic c) a w) {K:Act→World→Prop} {a:Act} {w:World}
    (hy:CalmIf P ops S oi v a) (h:wpOp P ops Q j K (a.put oi.dst v) w) :
    wpOp P ops Q j (fun a' w'=>CalmIf P ops S oi v a' ∧ K (a'.put oi.dst v) w') a w:=by
  obtain ⟨h1,h2,h3⟩:=Oper.apart_spec hap
  have keep:∀ (a:Act),CalmIf P ops S oi v a→∀ u,CalmIf P ops S oi v (a.put oj.dst u):=fun a hy u =>
    hy.of_same (execOp_put oi hsi a oj.dst u h3) (wanted_put oi a oj.dst u h3)
  have keepD:∀ d,CalmIf P ops S oi v { a with defers:=d::a.defers }:=fun d=>hy.of_same rfl rfl
  unfold wpOp at *
  simp only [hj] at *
  rw [wanted_put oj a oi.dst v h1] at h
  split
  · rename_i hw
    simp only [hw,if_true] at h
    rcases h with h|⟨hasks,hlets⟩
    case inr=>exact .inr ⟨by unfold Oper.asks at *;rw [execOp_put oj hsj a oi.dst v h1] at hasks;exact hasks,hlets⟩
    refine .inl ?_
    unfold Oper.wp at *
    rw [execOp_put oj hsj a oi.dst v h1] at h
    generalize (execOp a.eval oj).run P w=r at *
    cases r with
    | ok n w' =>
      cases n<;>simp only [Oper.upon] at h ⊢
      case value u=>exact ⟨keep a hy u,by rw [← Act.put_comm a v u h2];exact h⟩
      case skip=>exact ⟨keep a hy _,by rw [← Act.put_comm a v undef h2];exact h⟩
      case defer d =>
        refine ⟨keep _ (keepD d) _,?_⟩
        rw [← Act.put_comm _ v undef h2,← Act.put_defers]
        exact h
      case enter f args =>
        refine Calls.mono h fun e w'' he=>?_
        cases e with
        | returned u=>exact ⟨keep a hy u,by rw [← Act.put_comm a v u h2];exact he⟩
        | panicked c=>exact hQ _ _ _ he
        | outgrown=>exact he
      case row row args=>exact Rows.mono h fun u w'' he=>⟨keep a hy u,by rw [← Act.put_comm a v u h2];exact he⟩
    | halt x w' =>
      cases x<;>simp only [Oper.upon] at h ⊢
      case panic u=>exact hQ _ _ _ h
  · rename_i hw
    simp only [hw] at h
    exact ⟨keep a hy _,by rw [← Act.put_comm a v undef h2];exact h⟩
theorem wpAnyC_first {i:Nat} {oi:Oper} {v:Value} (hi:ops[i]? = some oi) (hsel:∀ (j:Nat) (o:Oper) cs b,ops[j]? = some o→o.op ≠ .select cs b)
    (hQ:∀ c a w,Q (.panic c) (a.put oi.dst v) w→Q (.panic c) a w) (hSt:∀ w w',S w→Chg [] w w' → S w') :
    ∀ (fuel:Nat) (listed:Array Bool) (a:Act) (w:World),
      (∀ j oj,ops[j]? = some oj→j≠i→listed.getD j true=false→(∀ e∈oj.after,Region.binds md e=true→e.on≠i)→oi.apart ops oj=true) →
      i∈Region.ready md ops listed→CalmIf P ops S oi v a→S w →
      wpAnyC P md ops Q S fuel (listed.setIfInBounds i true) (a.put oi.dst v) w→wpAnyC P md ops Q S (fuel+1) listed a w:=by
  intro fuel
  induction fuel with
  | zero =>
    intro listed a w _ hr hy hS H w' hw'
    refine ⟨fun h=>(by rw [h] at hr;cases hr),fun j hj=>?_⟩
    by_cases hji:j=i
    · subst hji;exact hy.wpOp hi (hSt _ _ hS hw') fun w2 h2=>⟨hSt _ _ hS (hw'.trans h2),wpAnyC_up H (hw'.trans h2)⟩
    · have:=ready_mono hj hji
      rw [H.1] at this
      cases this
  | succ fuel ih =>
    intro listed a w hfree hr hy hS H w' hw'
    refine ⟨fun h=>(by rw [h] at hr;cases hr),fun j hj=>?_⟩
    by_cases hji:j=i
    · subst hji;exact hy.wpOp hi (hSt _ _ hS hw') fun w2 h2=>⟨hSt _ _ hS (hw'.trans h2),wpAnyC_up H (hw'.trans h2)⟩
    · have h1:=(H w' hw').2 j (ready_mono hj hji)
      obtain ⟨hjun,oj,hoj,hall⟩:=mem_ready.1 hj
      have hnot:∀ e∈oj.after,Region.binds md e=true→e.on≠i:=fun e he hb heq=>by
        have h1:=hall e he hb
        have h0:=(mem_ready.1 hr).1
        rw [heq] at h1
        rcases Nat.lt_or_ge i listed.size with h'|h'
        · simp [h'] at h0 h1;rw [h0] at h1;cases h1
        · simp [Array.getElem?_eq_none h'] at h1
      have h2:=wpOp_putC hoj (hfree j oj hoj hji hjun hnot) (fun cs b=>hsel i oi cs b hi) (fun cs b=>hsel j oj cs b hoj) hQ hy h1
      have hfree':∀ k ok,ops[k]? = some ok→k≠i→(listed.setIfInBounds j true).getD k true=false →
          (∀ e∈ok.after,Region.binds md e=true→e.on≠i)→oi.apart ops ok=true:=fun k ok hk hki hun hno=>by
        refine hfree k ok hk hki ?_ hno
        by_cases hjk:j=k
        · subst hjk;exact hjun
        · rw [getD_set_ne true hjk] at hun;exact hun
      refine wpOp_mono (fun a' w' h3=>⟨h3.2.1,ih (listed.setIfInBounds j true) a' w' hfree' (ready_mono hr (Ne.symm hji)) h3.1 h3.2.1 ?_⟩) h2
      rw [Array.setIfInBounds_comm _ _ hji]
      exact h3.2.2
theorem wpAnyC_all {rs:List Nat} {fuel:Nat} {listed:Array Bool} {a:Act} {w:World} (hr:Region.ready md ops listed=rs) (hne:rs≠[])
    (h:∀ w',Chg [] w w' → ∀ i∈rs,wpOp P ops Q i (fun a' w'=>S w' ∧ wpAnyC P md ops Q S fuel (listed.setIfInBounds i true) a' w') a w'):wpAnyC P md ops Q S (fuel+1) listed a w :=
  fun w' hw'=>⟨fun h0=>absurd (hr ▸ h0) hne,hr ▸ h w' hw'⟩
theorem wpAnyC_done {listed:Array Bool} {a:Act} {w:World} (hr:Region.ready md ops listed=[]) (h:∀ w',Chg [] w w' → Q .normal a w'):∀ fuel,wpAnyC P md ops Q S fuel listed a w
  | 0=>⟨hr,h⟩
  | _+1=>fun w' hw'=>⟨fun _=>h w' hw',by rw [hr];simp⟩
theorem wp_region_calm {id:Nat} {a:Act} {w:World} (hm:P.follows .mixedOrders=true) (h:wpAnyC P .any ops Q S ops.size (Array.replicate ops.size false) a { w with drawn:=w.drawn+1 }):(Code.region id ops true).wp P Q a w :=
  wp_region_any hm (wpAny_of_C _ _ _ _ h)
end
theorem wpAnyC_take {P:Program} {ops:Array Oper} {Q:Exit→Act→World→Prop} {md:Region.Mode} {w0:World} {S:List Nat} {C:Lst} {i:Nat} {oi:Oper} {v:Value} {fuel:Nat} {listed:Array Bool} {a:Act} {w:World} (hi:ops[i]? = some oi)
    (hs:Region.noSelect ops=true) (hf:Region.free md ops listed i=true) (hr:(Region.ready md ops listed).contains i=true)
    (hQ:∀ c a w,Q (.panic c) (a.put oi.dst v) w→Q (.panic c) a w) (hy:YieldsIf P ops (Hp w0 S C) oi v a) (hS:Hp w0 S C w)
    (h:wpAnyC P md ops Q (Hp w0 S C) fuel (listed.setIfInBounds i true) (a.put oi.dst v) w):wpAnyC P md ops Q (Hp w0 S C) (fuel+1) listed a w :=
  wpAnyC_first hi (Region.noSelect_spec hs) hQ (fun _ _ h hc=>h.step hc) fuel listed a w (Region.free_spec hi hf) (by simpa using hr) (YieldsIf.calm hy) hS h
/-- Whatever order is picked from here on;C: blocks that nothing in the region touches. -/
structure A (X:Cx) (all:Array Oper) (C:Lst) (fuel:Nat) (listed:Array Bool) (K:Env→Lst→Prop) (σ:Env) (L:Lst):Prop where
  run:∀ a w,Mod X.n a σ→Hp X.w0 X.S L w→Hp X.w0 X.S C w→wpAnyC X.P .any all (X.liftK K) (Hp X.w0 X.S C) fuel listed a w

section
variable {X:Cx} {all:Array Oper} {C L:Lst} {fuel:Nat} {listed:Array Bool} {K:Env→Lst→Prop} {σ:Env} {v:Value} {d:Nat} {op:Op} {type:TypeId} {pos:String} {after:Array Edge}
theorem Cx.liftK_panic (c:List PanicEntry) (a a':Act) (w:World) (h:X.liftK K (.panic c) a w):X.liftK K (.panic c) a' w:=by cases h.1

theorem T.draw {id:Nat} {ops:Array Oper} {Q:Post} (h:A X ops L ops.size (Array.replicate ops.size false) (Q .normal) σ L):T X (.region id ops true) Q σ L :=
  ⟨fun a w ha hw=>by
    have hw':=hw.step (Chg.drew [] w)
    refine wp_mono (wp_region_calm X.tb.mix (h.run a _ ha hw' hw')) fun e a w ⟨he,σ,L,h1,h2,h3⟩=>⟨σ,L,h1,h2,he ▸ h3⟩⟩
/-- The class names the blocks at these places alone (the others are written in the region). -/
theorem T.drawC {id:Nat} {ops:Array Oper} {Q:Post} (is:List Nat) (hn:is.Nodup) (h:A X ops (pick L is) ops.size (Array.replicate ops.size false) (Q .normal) σ L):T X (.region id ops true) Q σ L :=
  ⟨fun a w ha hw=>by
    have hw':=hw.step (Chg.drew [] w)
    refine wp_mono (wp_region_calm X.tb.mix (h.run a _ ha hw' (hw'.pick hn))) fun e a w ⟨he,σ,L,h1,h2,h3⟩=>⟨σ,L,h1,h2,he ▸ h3⟩⟩

theorem Mod.yielded {n:Nat} {a:Act} {j dj:Nat} {b:Bool} (ha:Mod n a σ) (hj:(all[j]?).bind (·.dst)=some dj) (hb:look σ dj=some (.bool b)):yielded all a.tmps j=some b:=by
  have:=ha.ok dj (.bool b) hb
  simp only [Array.getD] at this
  have hlt:dj < a.tmps.size:=by
    rcases Nat.lt_or_ge dj a.tmps.size with h|h
    · exact h
    · rw [dif_neg (by omega)] at this;cases this
  rw [dif_pos hlt] at this
  have h2:a.tmps[dj]? = some (.bool b):=by rw [Array.getElem?_eq_getElem hlt];exact congrArg some this
  simp [Go.yielded,hj,h2]

theorem A.take (i:Nat) (hi:all[i]? = some ⟨some d,op,type,pos,after,none⟩) (hn:Nat.blt d X.n=true) (hs:Region.noSelect all=true) (hf:Region.free .any all listed i=true) (hr:(Region.ready .any all listed).contains i=true)
    (ho:Ok1 X ⟨some d,op,type,pos,after,none⟩ σ C v) (h:A X all C fuel (listed.setIfInBounds i true) K ((d,v)::σ) L):A X all C (fuel+1) listed K σ L :=
  ⟨fun a w ha hw hC=>wpAnyC_take (v:=v) hi hs hf hr (fun c a w=>Cx.liftK_panic c _ _ w) (.inl ⟨rfl,fun w hw=>ho.run a w ha hw⟩) hC (h.run _ _ (ha.put (blt_lt hn) v) hw hC)⟩
theorem and4 {a b c d:Bool} (h:(a && b && c && d)=true):a=true∧b=true∧c=true∧d=true:=by cases a<;>cases b<;>cases c<;>cases d<;>first|exact ⟨rfl,rfl,rfl,rfl⟩|cases h
/-- A.take with its reckonings in one (fill.py writes it in A.take's place). -/
theorem A.tk (i:Nat) (hi:all[i]? = some ⟨some d,op,type,pos,after,none⟩) (hq:(Nat.blt d X.n && Region.noSelect all && Region.free .any all listed i && (Region.ready .any all listed).contains i)=true)
    (ho:Ok1 X ⟨some d,op,type,pos,after,none⟩ σ C v) (h:A X all C fuel (listed.setIfInBounds i true) K ((d,v)::σ) L):A X all C (fuel+1) listed K σ L :=
  A.take i hi (and4 hq).1 (and4 hq).2.1 (and4 hq).2.2.1 (and4 hq).2.2.2 ho h
theorem A.takeG (i:Nat) {j dj:Nat} {want:Bool} (hi:all[i]? = some ⟨some d,op,type,pos,after,some (j,want)⟩) (hn:Nat.blt d X.n=true) (hs:Region.noSelect all=true) (hf:Region.free .any all listed i=true) (hr:(Region.ready .any all listed).contains i=true)
    (hj:(all[j]?).bind (·.dst)=some dj) (hb:look σ dj=some (.bool want))
    (ho:Ok1 X ⟨some d,op,type,pos,after,some (j,want)⟩ σ C v) (h:A X all C fuel (listed.setIfInBounds i true) K ((d,v)::σ) L):A X all C (fuel+1) listed K σ L :=
  ⟨fun a w ha hw hC=>wpAnyC_take (v:=v) hi hs hf hr (fun c a w=>Cx.liftK_panic c _ _ w) (.inl ⟨by simp [Region.wanted,ha.yielded hj hb],fun w hw=>ho.run a w ha hw⟩) hC (h.run _ _ (ha.put (blt_lt hn) v) hw hC)⟩
theorem A.skipG (i:Nat) {j dj:Nat} {want:Bool} (hi:all[i]? = some ⟨some d,op,type,pos,after,some (j,want)⟩) (hn:Nat.blt d X.n=true) (hs:Region.noSelect all=true) (hf:Region.free .any all listed i=true) (hr:(Region.ready .any all listed).contains i=true)
    (hj:(all[j]?).bind (·.dst)=some dj) (hb:look σ dj=some (.bool (!want)))
    (h:A X all C fuel (listed.setIfInBounds i true) K ((d,undef)::σ) L):A X all C (fuel+1) listed K σ L :=
  ⟨fun a w ha hw hC=>wpAnyC_take (v:=undef) hi hs hf hr (fun c a w=>Cx.liftK_panic c _ _ w) (.inr ⟨by simp [Region.wanted,ha.yielded hj hb],rfl⟩) hC (h.run _ _ (ha.put (blt_lt hn) undef) hw hC)⟩
theorem A.tkG (i:Nat) {j dj:Nat} {want:Bool} (hi:all[i]? = some ⟨some d,op,type,pos,after,some (j,want)⟩) (hj:(all[j]?).bind (·.dst)=some dj) (hb:look σ dj=some (.bool want)) (hq:(Nat.blt d X.n && Region.noSelect all && Region.free .any all listed i && (Region.ready .any all listed).contains i)=true)
    (ho:Ok1 X ⟨some d,op,type,pos,after,some (j,want)⟩ σ C v) (h:A X all C fuel (listed.setIfInBounds i true) K ((d,v)::σ) L):A X all C (fuel+1) listed K σ L :=
  A.takeG i hi (and4 hq).1 (and4 hq).2.1 (and4 hq).2.2.1 (and4 hq).2.2.2 hj hb ho h
theorem A.skG (i:Nat) {j dj:Nat} {want:Bool} (hi:all[i]? = some ⟨some d,op,type,pos,after,some (j,want)⟩) (hj:(all[j]?).bind (·.dst)=some dj) (hb:look σ dj=some (.bool (!want))) (hq:(Nat.blt d X.n && Region.noSelect all && Region.free .any all listed i && (Region.ready .any all listed).contains i)=true)
    (h:A X all C fuel (listed.setIfInBounds i true) K ((d,undef)::σ) L):A X all C (fuel+1) listed K σ L :=
  A.skipG i hi (and4 hq).1 (and4 hq).2.1 (and4 hq).2.2.1 (and4 hq).2.2.2 hj hb h
/-- A call that yields one value in every world of the class is taken first too. -/
theorem CallP.w {P:Program} {f:FuncId} {vs:List Value} {v:Value} (h:CallP P f vs v) (w:World):CallW P f vs w fun u _=>u=v:=⟨(h.run w).mono fun e w' ⟨h1,h2⟩=>⟨v,h1,rfl,h2⟩⟩
/-- A test's bool that is not decided: two ways. -/
theorem A.bool {t:Nat} {b:Bool} (hb:look σ t=some (.bool b)) (h1:b=true→A X all C fuel listed K ((t,.bool true)::σ) L) (h2:b=false→A X all C fuel listed K ((t,.bool false)::σ) L):A X all C fuel listed K σ L:=by
  have key:∀ a,Mod X.n a σ→Mod X.n a ((t,.bool b)::σ):=fun a ha=>by
    refine ⟨ha.size,ha.defers,fun u x hx=>?_⟩
    simp only [look] at hx
    cases e:Nat.beq t u with
    | true=>rw [e] at hx;cases hx;rw [← Nat.eq_of_beq_eq_true e];exact ha.ok _ _ hb
    | false=>rw [e] at hx;exact ha.ok _ _ hx
  cases b with
  | true=>exact ⟨fun a w ha hw hC=>(h1 rfl).run a w (key a ha) hw hC⟩
  | false=>exact ⟨fun a w ha hw hC=>(h2 rfl).run a w (key a ha) hw hC⟩

theorem A.dec {t:Nat} {p:Prop} {inst:Decidable p} (hb:look σ t=some (.bool (decide p))) (h1:p→A X all C fuel listed K ((t,.bool true)::σ) L) (h2:¬ p→A X all C fuel listed K ((t,.bool false)::σ) L):A X all C fuel listed K σ L :=
  A.bool hb (fun e=>h1 (of_decide_eq_true e)) (fun e=>h2 (of_decide_eq_false e))
theorem Oper.wp_change {P:Program} {o:Oper} {a:Act} {w:World} {K K':Act→World→Prop} {Q Q':Exit→Act→World→Prop} (hK:∀ a w,K a w→K' a w) (hP:∀ c a w,Q (.panic c) a w→Q' (.panic c) a w) (hO:LetsOut Q→LetsOut Q')
    (h:o.wp P a w K Q):o.wp P a w K' Q':=by
  unfold Oper.wp at *
  generalize (execOp a.eval o).run P w=r at *
  cases r with
  | ok n w' =>
    cases n<;>simp only [Oper.upon] at h ⊢ <;>
      first
        | exact hK _ _ h
        | exact Calls.mono h (fun e w'' he=>by cases e<;>first|exact hK _ _ he|exact hP _ _ _ he|exact hO he)
        | exact Rows.mono h (fun _ _ he=>hK _ _ he)
  | halt x w'=>cases x<;>simp only [Oper.upon] at h ⊢<;>first|exact hP _ _ _ h|exact h

theorem A.step {i:Nat} {o:Oper} (hi:all[i]? = some o)
    (h:R X all [o] (fun σ' L'=>SubL C L' ∧ A X all C fuel (listed.setIfInBounds i true) K σ' L') σ L) {a:Act} {w:World} (ha:Mod X.n a σ) (hw:Hp X.w0 X.S L w) (hC:Hp X.w0 X.S C w) :
    wpOp X.P all (X.liftK K) i (fun a' w'=>Hp X.w0 X.S C w' ∧ wpAnyC X.P .any all (X.liftK K) (Hp X.w0 X.S C) fuel (listed.setIfInBounds i true) a' w') a w:=by
  have h1:=h.run a w ha hw
  have hnil:∀ a' w',wpList X.P all (X.liftK fun σ' L'=>SubL C L' ∧ A X all C fuel (listed.setIfInBounds i true) K σ' L') [] a' w' → Hp X.w0 X.S C w' ∧ wpAnyC X.P .any all (X.liftK K) (Hp X.w0 X.S C) fuel (listed.setIfInBounds i true) a' w':=by
    rintro a' w' ⟨_,σ',L',h2,h3,h4,h5⟩
    have hC':=h3.part h4 hC.nod
    exact ⟨hC',h5.run a' w' h2 h3 hC'⟩
  unfold wpList at h1
  unfold wpOp
  simp only [hi]
  by_cases hwd:Region.wanted o (yielded all a.tmps)=true
  · rw [if_pos hwd] at h1 ⊢
    refine h1.imp (Oper.wp_change hnil (fun c a w h=>by cases h.1) fun ⟨a,w,h⟩=>by cases h.1) fun ⟨_,a,w,h⟩=>by cases h.1
  · rw [if_neg hwd] at h1 ⊢
    exact hnil _ _ h1
theorem A.one (i:Nat) {o:Oper} (hr:Region.ready .any all listed=[i]) (hi:all[i]? = some o)
    (h:R X all [o] (fun σ' L'=>SubL C L' ∧ A X all C fuel (listed.setIfInBounds i true) K σ' L') σ L):A X all C (fuel+1) listed K σ L :=
  ⟨fun a w ha hw hC=>wpAnyC_all hr (by simp) fun w' hc j hj=>by
    have:j=i:=by simpa using hj
    subst this
    exact A.step hi h ha (hw.step hc) (hC.step hc)⟩
theorem A.two (i j:Nat) {o o':Oper} (hr:Region.ready .any all listed=[i,j]) (hi:all[i]? = some o) (hj:all[j]? = some o')
    (hA:R X all [o] (fun σ' L'=>SubL C L' ∧ A X all C fuel (listed.setIfInBounds i true) K σ' L') σ L)
    (hB:R X all [o'] (fun σ' L'=>SubL C L' ∧ A X all C fuel (listed.setIfInBounds j true) K σ' L') σ L):A X all C (fuel+1) listed K σ L :=
  ⟨fun a w ha hw hC=>wpAnyC_all hr (by simp) fun w' hc k hk=>by
    rcases List.mem_cons.1 hk with e|hk
    · subst e;exact A.step hi hA ha (hw.step hc) (hC.step hc)
    · have:k=j:=by simpa using hk
      subst this;exact A.step hj hB ha (hw.step hc) (hC.step hc)⟩
theorem A.cast {listed':Array Bool} (he:listed=listed') (h:A X all C fuel listed' K σ L):A X all C fuel listed K σ L:=he ▸ h
theorem A.done (hr:Region.ready .any all listed=[]) (h:K σ L):A X all C fuel listed K σ L :=
  ⟨fun a w ha hw hC=>wpAnyC_done hr (fun w' hc=>⟨rfl,σ,L,ha,hw.step hc,h⟩) _⟩
end
/-- The kinds of a plain type's cells,in order. -/
def flatFs (g:Nat→Option (List TK)):List (Nat × Nat × Nat)→Nat→Option (List TK)
  | [],_=>some []
  | (t, off,sz)::r,k=>match Nat.beq off k with
    | false=>none
    | true=>match g t with
      | none=>none
      | some ks=>match Nat.beq ks.length sz with
        | false=>none
        | true=>match flatFs g r (k+sz) with
          | none=>none
          | some rest=>some (ks++rest)
def repK (ks:List TK):Nat→List TK
  | 0=>[]
  | n+1=>ks++repK ks n
def flatE {P:Program} (tb:Tb P):Nat→Nat→Option (List TK)
  | 0,_=>none
  | n + 1,t=>match tb.row t with
    | none=>none
    | some r=>match r.k with
      | .int k=>some [.int k]
      | .bool=>some [.bool]
      | .string=>some [.string]
      | .strct fs=>flatFs (flatE tb n) fs 0
      | .arr m e=>match tb.row e with
        | none=>none
        | some re=>match flatE tb n e with
          | none=>none
          | some ks=>match Nat.beq ks.length re.size with
            | false=>none
            | true=>some (repK ks m)
      | _=>none
def cellOk:TK→Value→Bool
  | .int k,.int k' _=>k == k'
  | .bool,.bool _=>true
  | .string,.string _=>true
  | _,_=>false
def allOk:List TK→List Value→Bool
  | [],[]=>true
  | k::ks,v::vs=>cellOk k v && allOk ks vs
  | _,_=>false
theorem allOk_len:∀ {ks:List TK} {vs:List Value},allOk ks vs=true→vs.length=ks.length
  | [],[],_=>rfl
  | [],_::_,h=>by cases h
  | _::_,[],h=>by cases h
  | k::ks,v::vs,h=>by simp only [allOk,Bool.and_eq_true] at h;simp [allOk_len h.2]
theorem allOk_append:∀ {ks ls:List TK} {vs:List Value},allOk (ks++ls) vs=true→allOk ks (vs.take ks.length)=true∧allOk ls (vs.drop ks.length)=true
  | [],ls,vs,h=>⟨by simp [allOk],by simpa using h⟩
  | k::ks,ls,[],h=>by cases h
  | k::ks,ls,v::vs,h=>by
    simp only [List.cons_append,allOk,Bool.and_eq_true] at h
    obtain ⟨h1,h2⟩:=allOk_append h.2
    exact ⟨by simp [allOk,h.1,h1],by simpa using h2⟩

def valOf (ag:Bool) (xs:List Value):Value:=if ag then .agg ⟨xs⟩ else xs.headD undef

/-- What '==' says at type t of values with cells of these kinds. -/
def EqT (P:Program) (t:Nat) (ag:Bool) (ks:List TK) (d:Nat):Prop :=
  ∀ w xs ys,allOk ks xs=true→allOk ks ys=true→∃ b,(Op.equalIn d t (valOf ag xs) (valOf ag ys)).run P w = .ok b w∧(b=true ↔ xs=ys)

theorem part_run {P:Program} {t:Nat} {ag:Bool} {sz:Nat} (ha:∀ w,(isAgg t).run P w = .ok ag w) (hs:∀ w,(Go.sizeOf t).run P w = .ok sz w) (h1:ag=false→sz=1) (xs:List Value) (off:Nat) (hl:off+sz≤xs.length) (w:World) :
    (part t ⟨xs⟩ off).run P w = .ok (valOf ag ((xs.drop off).take sz)) w:=by
  unfold part
  rw [Sem.run_bind,ha]
  cases ag with
  | true =>
    simp only [Result.andThen_ok,if_true,Sem.run_bind,hs,Sem.run_pure,valOf]
    congr 2
    apply Array.toList_inj.1
    simp
  | false =>
    have:=h1 rfl
    subst this
    have hlt:off < xs.length:=by omega
    simp only [Result.andThen_ok,Bool.false_eq_true,if_false,valOf]
    have:(Array.mk xs)[off]? = some xs[off]:=by simp [hlt]
    rw [this]
    show Result.ok xs[off] w=Result.ok (((xs.drop off).take 1).headD undef) w
    rw [List.drop_eq_getElem_cons hlt]
    rfl

theorem take_drop_ext {xs ys:List Value} {n:Nat} (h1:xs.take n=ys.take n) (h2:xs.drop n=ys.drop n):xs=ys:=by
  rw [← List.take_append_drop n xs,← List.take_append_drop n ys,h1,h2]

theorem eqFields_flat {P:Program} {d:Nat} {g:Nat→Option (List TK)} (hg:∀ t ks,g t=some ks→∃ ag,(∀ w,(isAgg t).run P w = .ok ag w)∧(ag=false→ks.length=1)∧EqT P t ag ks d) :
    ∀ (fields:List Field) (fs:List (Nat × Nat × Nat)) (k:Nat) (ks:List TK) (xs ys:List Value) (w:World),Flds P fields fs→flatFs g fs k=some ks→xs.length=k+ks.length→ys.length=k+ks.length→allOk ks (xs.drop k)=true→allOk ks (ys.drop k)=true →
    ∃ b,(Op.eqFields d ⟨xs⟩ ⟨ys⟩ fields).run P w = .ok b w∧(b=true ↔ xs.drop k=ys.drop k)
  | [],[],k,ks,xs,ys,w,_,h,hx,hy,h1,h2=>by
    simp only [flatFs,Option.some.injEq] at h
    subst h
    refine ⟨true,by simp [Op.eqFields],?_⟩
    simp at hx hy
    simp [List.drop_eq_nil_of_le (show xs.length≤k by omega),List.drop_eq_nil_of_le (show ys.length≤k by omega)]
  | [],_::_,_,_,_,_,_,h,_,_,_,_,_=>h.elim
  | _::_,[],_,_,_,_,_,h,_,_,_,_,_=>h.elim
  | f :: fields,(t,off,sz)::fs,k,ks,xs,ys,w,hF,h,hx,hy,h1,h2=>by
    obtain ⟨e1,e2,e3,e4,e5⟩:=hF
    simp only [flatFs] at h
    split at h
    · cases h
    · rename_i hb
      have hb':=Nat.eq_of_beq_eq_true hb
      subst hb'
      split at h
      · cases h
      · rename_i ks1 hk1
        split at h
        · cases h
        · rename_i hb2
          have hb2':=Nat.eq_of_beq_eq_true hb2
          subst hb2'
          split at h
          · cases h
          · rename_i ks2 hk2
            simp only [Option.some.injEq] at h
            subst h
            obtain ⟨ag,ha,hag,hE⟩:=hg _ _ hk1
            simp only [List.length_append] at hx hy
            obtain ⟨a1,a2⟩:=allOk_append h1
            obtain ⟨b1,b2⟩:=allOk_append h2
            rw [List.drop_drop] at a2 b2
            have p1:=part_run ha e3 hag xs off (by omega) w
            have p2:=part_run ha e3 hag ys off (by omega) w
            obtain ⟨b,r1,r2⟩:=hE w _ _ a1 b1
            obtain ⟨b',r3,r4⟩:=eqFields_flat hg fields fs (off+ks1.length) ks2 xs ys w e5 hk2 (by omega) (by omega) a2 b2
            have hne:f.name ≠ "_" := by simpa using e4
            simp only [Op.eqFields,if_pos hne,Sem.run_bind,e1,e2,p1,p2,Result.andThen_ok,r1]
            cases b with
            | false =>
              refine ⟨false,by simp,?_⟩
              simp only [Bool.false_eq_true,false_iff] at r2 ⊢
              intro e
              exact r2 (by rw [e])
            | true =>
              refine ⟨b',by simpa using r3,?_⟩
              rw [r4]
              have r2':=r2.1 rfl
              constructor
              · intro e
                refine take_drop_ext (n:=ks1.length) r2' ?_
                rw [List.drop_drop,List.drop_drop];exact e
              · intro e
                have:=congrArg (List.drop ks1.length) e
                rwa [List.drop_drop,List.drop_drop] at this

theorem repK_len {ks:List TK}:∀ {m:Nat},(repK ks m).length=m * ks.length
  | 0=>by simp [repK]
  | m+1=>by simp [repK,repK_len (m:=m),Nat.add_mul];omega

theorem eqArr_flat {P:Program} {d e sz:Nat} {ag:Bool} {ks:List TK} (ha:∀ w,(isAgg e).run P w = .ok ag w) (hs:∀ w,(Go.sizeOf e).run P w = .ok sz w) (hsz:ks.length=sz) (hag:ag=false→sz=1) (hE:EqT P e ag ks d) :
    ∀ (m k:Nat) (xs ys:List Value) (w:World),xs.length=(k+m) * sz→ys.length=(k+m) * sz→allOk (repK ks m) (xs.drop (k * sz))=true→allOk (repK ks m) (ys.drop (k * sz))=true →
    ∃ b,((do
      for i in List.range' k m do
        if !(← Op.equalIn d e (← part e ⟨xs⟩ (i * sz)) (← part e ⟨ys⟩ (i * sz))) then return false
      return true):Sem Bool).run P w = .ok b w∧(b=true ↔ xs.drop (k * sz)=ys.drop (k * sz))
  | 0,k,xs,ys,w,hx,hy,h1,h2=>by
    refine ⟨true,by simp,?_⟩
    simp [List.drop_eq_nil_of_le (show xs.length≤k * sz by simp at hx;omega),List.drop_eq_nil_of_le (show ys.length≤k * sz by simp at hy;omega)]
  | m + 1,k,xs,ys,w,hx,hy,h1,h2=>by
    have hm:k * sz+sz≤(k+(m+1)) * sz:=by
      have:=Nat.mul_le_mul_right sz (show k+1≤k+(m+1) by omega)
      rw [Nat.add_mul,Nat.one_mul] at this
      exact this
    have hk1:(k+1) * sz=k * sz+sz:=by rw [Nat.add_mul,Nat.one_mul]
    rw [repK] at h1 h2
    obtain ⟨a1,a2⟩:=allOk_append h1
    obtain ⟨b1,b2⟩:=allOk_append h2
    rw [List.drop_drop,hsz,← hk1] at a2 b2
    rw [hsz] at a1 b1
    have p1:=part_run ha hs hag xs (k * sz) (by omega) w
    have p2:=part_run ha hs hag ys (k * sz) (by omega) w
    obtain ⟨b,r1,r2⟩:=hE w _ _ a1 b1
    obtain ⟨b',r3,r4⟩:=eqArr_flat ha hs hsz hag hE m (k+1) xs ys w (by rw [hx];congr 1;omega) (by rw [hy];congr 1;omega) a2 b2
    rw [List.range'_succ]
    simp only [List.forIn_cons,Sem.run_bind,p1,p2,Result.andThen_ok,r1]
    cases b with
    | false =>
      refine ⟨false,by simp,?_⟩
      simp only [Bool.false_eq_true,false_iff] at r2 ⊢
      intro e
      exact r2 (by rw [e])
    | true =>
      refine ⟨b',by simpa using r3,?_⟩
      rw [r4,hk1]
      have r2':=r2.1 rfl
      constructor
      · intro e
        refine take_drop_ext (n:=sz) r2' ?_
        rw [List.drop_drop,List.drop_drop];exact e
      · intro e
        have:=congrArg (List.drop sz) e
        rwa [List.drop_drop,List.drop_drop] at this

theorem allOk_one {k:TK} {xs:List Value} (h:allOk [k] xs=true):∃ v,xs=[v]∧cellOk k v=true:=by
  match xs,h with
  | [v],h=>exact ⟨v,rfl,by simpa [allOk] using h⟩
  | v::_::_,h=>simp [allOk] at h
theorem bytes_beq (a b:ByteArray):(a == b)=true ↔ a=b:=by
  rw [beq_toListBytes,ByteArray.toList_eq,ByteArray.toList_eq]
  obtain ⟨⟨x⟩⟩:=a
  obtain ⟨⟨y⟩⟩:=b
  simp

theorem flat_eq {P:Program} (tb:Tb P):∀ (n t:Nat) (ks:List TK),flatE tb n t=some ks→∃ ag,(∀ w,(isAgg t).run P w = .ok ag w)∧(ag=false→ks.length=1)∧∀ d,n≤d→EqT P t ag ks d
  | 0,t,ks,h=>by cases h
  | n + 1, t, ks,h=>by
    simp only [flatE] at h
    split at h
    · cases h
    · rename_i r hr
      have hg:=tb.get hr
      have his:=hg.is
      split at h<;>rename_i hk
      · simp only [Option.some.injEq] at h;subst h
        rw [hk] at his
        refine ⟨false,hg.agg (by rw [hk];rfl),fun _=>rfl,fun d hd w xs ys h1 h2=>?_⟩
        obtain ⟨d,rfl⟩:∃ d',d=d'+1:=⟨d - 1,by omega⟩
        obtain ⟨v,rfl,k1⟩:=allOk_one h1
        obtain ⟨u,rfl,k2⟩:=allOk_one h2
        cases v<;>first|exact Bool.noConfusion (show false=true from k1)|skip
        rename_i a
        cases u<;>first|exact Bool.noConfusion (show false=true from k2)|skip
        rename_i b
        have h1':=eq_of_beq (show (_ == _)=true from k1)
        have h2':=eq_of_beq (show (_ == _)=true from k2)
        subst h1';subst h2'
        exact ⟨a == b,by simpa [valOf] using run_equalIn_int w d t _ _ a b his,by simp⟩
      · simp only [Option.some.injEq] at h;subst h
        rw [hk] at his
        refine ⟨false,hg.agg (by rw [hk];rfl),fun _=>rfl,fun d hd w xs ys h1 h2=>?_⟩
        obtain ⟨d,rfl⟩:∃ d',d=d'+1:=⟨d - 1,by omega⟩
        obtain ⟨v,rfl,k1⟩:=allOk_one h1
        obtain ⟨u,rfl,k2⟩:=allOk_one h2
        cases v<;>first|exact Bool.noConfusion (show false=true from k1)|skip
        rename_i a
        cases u<;>first|exact Bool.noConfusion (show false=true from k2)|skip
        rename_i b
        exact ⟨a == b,by simpa [valOf] using run_equalIn_bool w d t a b his,by simp⟩
      · simp only [Option.some.injEq] at h;subst h
        rw [hk] at his
        refine ⟨false,hg.agg (by rw [hk];rfl),fun _=>rfl,fun d hd w xs ys h1 h2=>?_⟩
        obtain ⟨d,rfl⟩:∃ d',d=d'+1:=⟨d - 1,by omega⟩
        obtain ⟨v,rfl,k1⟩:=allOk_one h1
        obtain ⟨u,rfl,k2⟩:=allOk_one h2
        cases v<;>first|exact Bool.noConfusion (show false=true from k1)|skip
        rename_i a
        cases u<;>first|exact Bool.noConfusion (show false=true from k2)|skip
        rename_i b
        refine ⟨a == b,by simp [valOf,Op.equalIn,run_underlying his],by simpa using bytes_beq a b⟩
      · rename_i fs
        have hp:=hg.plain
        rw [hk] at his hp
        obtain ⟨fields,h1,h2⟩:=his
        refine ⟨true,hg.agg (by rw [hk];rfl),by simp,fun d hd w xs ys hx hy=>?_⟩
        obtain ⟨d,rfl⟩:∃ d',d=d'+1:=⟨d - 1,by omega⟩
        have hfo:P.fieldsOf t=fields:=by simp [Program.fieldsOf,h1]
        have hrun:=run_equalIn_struct w d t ⟨xs⟩ ⟨ys⟩ (by rw [hfo];exact h1) hp
        rw [hfo] at hrun
        have hlx:=allOk_len hx
        have hly:=allOk_len hy
        obtain ⟨b,r1,r2⟩:=eqFields_flat (g:=flatE tb n) (d:=d) (fun t ks hks=>by
          obtain ⟨ag,a1,a2,a3⟩:=flat_eq tb n t ks hks
          exact ⟨ag,a1,a2,a3 d (by omega)⟩) fields.toList fs 0 ks xs ys w h2 h (by omega) (by omega) (by simpa using hx) (by simpa using hy)
        refine ⟨b,?_,by simpa using r2⟩
        simp only [valOf,if_true]
        rw [hrun]
        exact r1
      · rename_i m e
        rw [hk] at his
        split at h
        · cases h
        · rename_i re hre
          have hge:=tb.get hre
          split at h
          · cases h
          · rename_i ks1 hks1
            split at h
            · cases h
            · rename_i hb
              have hb':=Nat.eq_of_beq_eq_true hb
              simp only [Option.some.injEq] at h;subst h
              refine ⟨true,hg.agg (by rw [hk];rfl),by simp,fun d hd w xs ys hx hy=>?_⟩
              obtain ⟨d,rfl⟩:∃ d',d=d'+1:=⟨d - 1,by omega⟩
              obtain ⟨ag,a1,a2,a3⟩:=flat_eq tb n e ks1 hks1
              have hlx:=allOk_len hx
              have hly:=allOk_len hy
              rw [repK_len] at hlx hly
              obtain ⟨b,r1,r2⟩:=eqArr_flat (d:=d) a1 hge.size hb' (fun h=>by rw [← hb'];exact a2 h) (a3 d (by omega)) m 0 xs ys w (by rw [hlx,hb'];simp) (by rw [hly,hb'];simp) (by simpa using hx) (by simpa using hy)
              refine ⟨b,?_,by simpa using r2⟩
              simp only [TK.is] at his
              simp only [valOf,if_true,Op.equalIn,Sem.run_bind,run_underlying his,Result.andThen_ok,hge.size]
              simp only [Std.Legacy.Range.forIn_eq_forIn_range',Std.Legacy.Range.size] at r1 ⊢
              simpa using r1
      · cases h

section
variable {X:Cx} {σ:Env} {L:Lst} {dd:Nat} {ty ty2:TypeId} {pos:String} {af:Array Edge} {d:Option Nat} {g:Option (Nat × Bool)} {x y:Operand} {t:TypeId} {r:TRow} {ks:List TK} {xs ys:List Value}
variable {all:Array Oper} {rest:List Oper} {K:Env→Lst→Prop}
theorem eqGuardFlat {P:Program} (tb:Tb P):∀ (n:Nat) (t:Nat) (ks:List TK) (dp:Nat),flatE tb n t=some ks→n≤dp→P.eqGuardType dp t=false
  | 0,_,_,_,h,_=>by cases h
  | n + 1, t, ks, dp, h,hd=>by
    obtain ⟨dp,rfl⟩:∃ d',dp=d'+1:=⟨dp - 1,by omega⟩
    simp only [flatE] at h
    split at h
    · cases h
    · rename_i r hr
      have his:=(tb.get hr).is
      split at h<;>rename_i hk<;>(try rw [hk] at his)<;>simp only [TK.is] at his
      · simp [Program.eqGuardType,his]
      · simp [Program.eqGuardType,his]
      · simp [Program.eqGuardType,his]
      · rename_i fs
        obtain ⟨fields,h1,h2⟩:=his
        simp only [Program.eqGuardType,h1]
        rw [← Array.any_toList]
        have key:∀ (fields:List Field) (fs:List (Nat × Nat × Nat)) (k:Nat) (ks:List TK),Flds P fields fs→flatFs (flatE tb n) fs k=some ks→fields.any (fun f=>f.name != "_" && P.eqGuardType dp f.type)=false:=by
          intro fields
          induction fields with
          | nil=>intros;rfl
          | cons f fields ih =>
            intro fs k ks hF h
            match fs,hF with
            | (t, off,sz)::fs,hF =>
              obtain ⟨e1,e2,e3,e4,e5⟩:=hF
              simp only [flatFs] at h
              split at h
              · cases h
              · split at h
                · cases h
                · rename_i ks1 hk1
                  split at h
                  · cases h
                  · split at h
                    · cases h
                    · rename_i ks2 hk2
                      simp only [List.any_cons,e1,eqGuardFlat tb n _ _ dp hk1 (by omega),Bool.and_false,Bool.false_or]
                      exact ih _ _ _ e5 hk2
        exact key _ _ _ _ h2 h
      · rename_i m e
        split at h
        · cases h
        · split at h
          · cases h
          · rename_i ks1 hks1
            simp only [Program.eqGuardType,his]
            exact eqGuardFlat tb n _ _ dp hks1 (by omega)
      · cases h
end
section
variable {X:Cx} {σ:Env} {L L':Lst} {dd:Nat} {ty ty2:TypeId} {pos:String} {af:Array Edge} {d:Option Nat} {g:Option (Nat × Bool)} {x y:Operand} {t:TypeId} {r:TRow} {ks:List TK} {xs ys:List Value}
variable {all:Array Oper} {rest:List Oper} {K:Env→Lst→Prop}
theorem Op_equal_flat {P:Program} (tb:Tb P) {t:Nat} {r:TRow} {ks:List TK} (ht:tb.row t=some r) (hk:r.k.agg=some true) (hf:flatE tb 8 t=some ks) (h1:allOk ks xs=true) (h2:allOk ks ys=true) (w:World) :
    ∃ b,(Op.equal t (.agg ⟨xs⟩) (.agg ⟨ys⟩)).run P w = .ok b w∧(b=true ↔ xs=ys):=by
  obtain ⟨ag,a1,a2,a3⟩:=flat_eq tb 8 t ks hf
  have:ag=true:=by
    have e1:=a1 w
    rw [(tb.get ht).agg hk w] at e1
    injection e1 with e1 _
    exact e1.symm
  subst this
  obtain ⟨b,r1,r2⟩:=a3 10000 (by omega) w xs ys h1 h2
  exact ⟨b,by simpa [valOf,Op.equal,Op.maxDepth] using r1,r2⟩

open Classical in
theorem Ok1.eqlF (hx:ev σ x=some (.agg ⟨xs⟩)) (hy:ev σ y=some (.agg ⟨ys⟩)) (ht:X.tb.row t=some r) (hk:r.k.agg=some true) (hf:flatE X.tb 8 t=some ks) (h1:allOk ks xs=true) (h2:allOk ks ys=true) :
    Ok1 X ⟨d,.binOp .eql t x y ty2,ty,pos,af,g⟩ σ L (.bool (decide (xs=ys))):=.mk fun a w ha hw=>by
  obtain ⟨b,r1,r2⟩:=Op_equal_flat X.tb ht hk hf h1 h2 w
  have hb:b=decide (xs=ys):=by cases b<;>simp_all
  have hgd:=eqGuardFlat X.tb 8 t ks X.P.depth hf X.tb.deep
  simp [execOp,ha.ev hx,ha.ev hy,eqGuard,binOp,hgd,r1,hb]
open Classical in
theorem Ok1.neqF (hx:ev σ x=some (.agg ⟨xs⟩)) (hy:ev σ y=some (.agg ⟨ys⟩)) (ht:X.tb.row t=some r) (hk:r.k.agg=some true) (hf:flatE X.tb 8 t=some ks) (h1:allOk ks xs=true) (h2:allOk ks ys=true) :
    Ok1 X ⟨d,.binOp .neq t x y ty2,ty,pos,af,g⟩ σ L (.bool (decide (xs≠ys))):=.mk fun a w ha hw=>by
  obtain ⟨b,r1,r2⟩:=Op_equal_flat X.tb ht hk hf h1 h2 w
  have hb:(!b)=decide (xs≠ys):=by cases b<;>simp_all
  have hgd:=eqGuardFlat X.tb 8 t ks X.P.depth hf X.tb.deep
  simp [execOp,ha.ev hx,ha.ev hy,eqGuard,binOp,hgd,r1]
  simpa using hb
open Classical in
theorem R.eqlF (hn:Nat.blt dd X.n=true) (hx:ev σ x=some (.agg ⟨xs⟩)) (hy:ev σ y=some (.agg ⟨ys⟩)) (ht:X.tb.row t=some r) (hk:r.k.agg=some true) (hf:flatE X.tb 8 t=some ks) (h1:allOk ks xs=true) (h2:allOk ks ys=true)
    (ht:xs=ys→R X all rest K ((dd,.bool true)::σ) L) (hf:xs≠ys→R X all rest K ((dd,.bool false)::σ) L):R X all (⟨some dd,.binOp .eql t x y ty2,ty,pos,af,none⟩::rest) K σ L:=by
  rename_i htr hff
  have ho:=Ok1.eqlF (X:=X) (L:=L) (ty2:=ty2) (d:=some dd) (ty:=ty) (pos:=pos) (af:=af) (g:=none) hx hy htr hk hff h1 h2
  by_cases h:xs=ys
  · rw [decide_eq_true h] at ho;exact R.pure hn ho (ht h)
  · rw [decide_eq_false h] at ho;exact R.pure hn ho (hf h)
open Classical in
end
structure KeyT (P:Program) (t:Nat) {κ:Type} (kv:κ→Value):Prop where
  eq:∀ w a b,∃ r,(Op.equal t (kv a) (kv b)).run P w = .ok r w∧(r=true ↔ a=b)
  chk:∀ w e a,(Instr.checkKey e 10000 t (kv a)).run P w = .ok () w
  bits:∀ a,Instr.sameBits 10000 (kv a) (kv a)=true
  now:∃ dsc,P.underlying t=some dsc∧((∀ a b,Instr.sameNow dsc (kv a) (kv b)=none) ∨ (∀ a b,∃ r,Instr.sameNow dsc (kv a) (kv b)=some r∧(r=true ↔ a=b)))

theorem chkFlat {P:Program} (tb:Tb P) (e:Bool):∀ (n t:Nat) (ks:List TK),flatE tb n t=some ks→∃ ag,(∀ w,(isAgg t).run P w = .ok ag w)∧(ag=false→ks.length=1)∧∀ d,n≤d→∀ w xs,allOk ks xs=true→(Instr.checkKey e d t (valOf ag xs)).run P w = .ok () w
  | 0,t,ks,h=>by cases h
  | n + 1, t, ks, h => by
    obtain ⟨ag,a1,a2,_⟩:=flat_eq tb (n+1) t ks h
    refine ⟨ag,a1,a2,fun d hd w xs hx=>?_⟩
    obtain ⟨d,rfl⟩:∃ d',d=d'+1:=⟨d - 1,by omega⟩
    simp only [flatE] at h
    split at h
    · cases h
    · rename_i r hr
      have hg:=tb.get hr
      have his:=hg.is
      have hag:∀ b,r.k.agg=some b→ag=b:=fun b hb=>by
        have e1:=a1 w
        rw [hg.agg hb w] at e1
        injection e1 with e1 _
        exact e1.symm
      split at h<;>rename_i hk
      · have:=hag false (by rw [hk];rfl)
        subst this
        rw [hk] at his;simp only [TK.is] at his
        simp only [Option.some.injEq] at h;subst h
        obtain ⟨v,rfl,k1⟩:=allOk_one hx
        cases v<;>first|exact Bool.noConfusion (show false=true from k1)|skip
        simp [Instr.checkKey,valOf,run_underlying his]
      · have:=hag false (by rw [hk];rfl)
        subst this
        rw [hk] at his;simp only [TK.is] at his
        simp only [Option.some.injEq] at h;subst h
        obtain ⟨v,rfl,k1⟩:=allOk_one hx
        cases v<;>first|exact Bool.noConfusion (show false=true from k1)|skip
        simp [Instr.checkKey,valOf,run_underlying his]
      · have:=hag false (by rw [hk];rfl)
        subst this
        rw [hk] at his;simp only [TK.is] at his
        simp only [Option.some.injEq] at h;subst h
        obtain ⟨v,rfl,k1⟩:=allOk_one hx
        cases v<;>first|exact Bool.noConfusion (show false=true from k1)|skip
        simp [Instr.checkKey,valOf,run_underlying his]
      · rename_i fs
        have:=hag true (by rw [hk];rfl)
        subst this
        rw [hk] at his;simp only [TK.is] at his
        obtain ⟨fields,h1,h2⟩:=his
        have key:∀ (fields:List Field) (fs:List (Nat × Nat × Nat)) (k:Nat) (ks:List TK) (xs:List Value),Flds P fields fs→flatFs (flatE tb n) fs k=some ks→xs.length=k+ks.length→allOk ks (xs.drop k)=true →
            ((do for f in fields do if f.name ≠ "_" then Instr.checkKey e d f.type (← part f.type ⟨xs⟩ f.offset)):Sem Unit).run P w = .ok () w:=by
          intro fields
          induction fields with
          | nil=>intros;simp
          | cons f fields ih =>
            intro fs k ks xs hF h hl hx
            match fs,hF with
            | (t, off,sz)::fs,hF =>
              obtain ⟨e1,e2,e3,e4,e5⟩:=hF
              simp only [flatFs] at h
              split at h
              · cases h
              · rename_i hb
                have hb':=Nat.eq_of_beq_eq_true hb
                subst hb'
                split at h
                · cases h
                · rename_i ks1 hk1
                  split at h
                  · cases h
                  · rename_i hb2
                    have hb2':=Nat.eq_of_beq_eq_true hb2
                    subst hb2'
                    split at h
                    · cases h
                    · rename_i ks2 hk2
                      simp only [Option.some.injEq] at h
                      subst h
                      simp only [List.length_append] at hl
                      obtain ⟨c1,c2⟩:=allOk_append hx
                      rw [List.drop_drop] at c2
                      obtain ⟨ag,b1,b2,b3⟩:=chkFlat tb e n _ _ hk1
                      have p1:=part_run b1 e3 b2 xs off (by omega) w
                      have r1:=b3 d (by omega) w _ c1
                      have hne:f.name ≠ "_" := by simpa using e4
                      have ih':=ih fs (off+ks1.length) ks2 xs e5 hk2 (by omega) c2
                      simp only [List.forIn_cons,if_pos hne,Sem.run_bind,e1,e2,p1,Result.andThen_ok,r1,Sem.run_pure]
                      simp at ih' ⊢
                      rw [ih'];rfl
        have:=key fields.toList fs 0 ks xs h2 h (by simpa using allOk_len hx) (by simpa using hx)
        simp only [Instr.checkKey,valOf,if_true,Sem.run_bind,run_underlying h1,Result.andThen_ok]
        rw [← Array.forIn_toList]
        simp at this ⊢
        rw [this];rfl
      · rename_i m ee
        have:=hag true (by rw [hk];rfl)
        subst this
        rw [hk] at his;simp only [TK.is] at his
        split at h
        · cases h
        · rename_i re hre
          have hge:=tb.get hre
          split at h
          · cases h
          · rename_i ks1 hks1
            split at h
            · cases h
            · rename_i hb
              have hb':=Nat.eq_of_beq_eq_true hb
              simp only [Option.some.injEq] at h;subst h
              obtain ⟨ag,b1,b2,b3⟩:=chkFlat tb e n _ _ hks1
              have key:∀ (m k:Nat) (xs:List Value),xs.length=(k+m) * re.size→allOk (repK ks1 m) (xs.drop (k * re.size))=true →
                  ((do for i in List.range' k m do Instr.checkKey e d ee (← part ee ⟨xs⟩ (i * (← Go.sizeOf ee)))):Sem Unit).run P w = .ok () w:=by
                intro m
                induction m with
                | zero=>intros;simp
                | succ m ih =>
                  intro k xs hl hx
                  have hm:k * re.size+re.size≤(k+(m+1)) * re.size:=by
                    have:=Nat.mul_le_mul_right re.size (show k+1≤k+(m+1) by omega)
                    rw [Nat.add_mul,Nat.one_mul] at this
                    exact this
                  have hk1:(k+1) * re.size=k * re.size+re.size:=by rw [Nat.add_mul,Nat.one_mul]
                  rw [repK] at hx
                  obtain ⟨c1,c2⟩:=allOk_append hx
                  rw [List.drop_drop,hb',← hk1] at c2
                  rw [hb'] at c1
                  have p1:=part_run b1 hge.size (fun h=>by rw [← hb'];exact b2 h) xs (k * re.size) (by omega) w
                  have r1:=b3 d (by omega) w _ c1
                  have ih':=ih (k+1) xs (by rw [hl];congr 1;omega) c2
                  rw [List.range'_succ]
                  simp only [List.forIn_cons,Sem.run_bind,hge.size,p1,Result.andThen_ok,r1,Sem.run_pure]
                  simp at ih' ⊢
                  rw [ih'];rfl
              have hl:=allOk_len hx
              rw [repK_len,hb'] at hl
              have:=key m 0 xs (by simpa using hl) (by simpa using hx)
              simp only [Instr.checkKey,valOf,if_true,Sem.run_bind,run_underlying his,Result.andThen_ok]
              simp only [Std.Legacy.Range.forIn_eq_forIn_range',Std.Legacy.Range.size]
              simp at this ⊢
              rw [this];rfl
      · cases h

theorem sameBits_flat:∀ {ks:List TK} {xs:List Value},allOk ks xs=true→(xs.zip xs).all (fun p=>Instr.sameBits 9999 p.1 p.2)=true
  | [],[],_=>rfl
  | [],_::_,h=>by cases h
  | _::_,[],h=>by cases h
  | k::ks,v::vs,h=>by
    simp only [allOk,Bool.and_eq_true] at h
    simp only [List.zip_cons_cons,List.all_cons,sameBits_flat h.2,Bool.and_true]
    have h1:=h.1
    cases k<;>cases v<;>first|exact Bool.noConfusion (show false=true from h1)|simp [Instr.sameBits]
    rename_i s
    exact (bytes_beq s s).2 rfl

/-- A flat aggregate as a key: 'enc k' are its cells. -/
theorem KeyT.flat {P:Program} (tb:Tb P) {t:Nat} {r:TRow} {ks:List TK} {κ:Type} (enc:κ→List Value) (ht:tb.row t=some r) {fs:List (Nat × Nat × Nat)} (hk:r.k = .strct fs) (hf:flatE tb 8 t=some ks) (ho:∀ k,allOk ks (enc k)=true) (hi:∀ a b,enc a=enc b→a=b) :
    KeyT P t (fun k=>.agg ⟨enc k⟩):=by
  refine ⟨fun w a b=>?_,fun w e a=>?_,fun a=>?_,?_⟩
  · obtain ⟨b',r1,r2⟩:=Op_equal_flat tb ht (by rw [hk];rfl) hf (ho a) (ho b) w
    exact ⟨b',r1,r2.trans ⟨hi a b,fun e=>by rw [e]⟩⟩
  · obtain ⟨ag,a1,a2,a3⟩:=chkFlat tb e 8 t ks hf
    have:ag=true:=by
      have e1:=a1 w
      rw [(tb.get ht).agg (b:=true) (by rw [hk];rfl) w] at e1
      injection e1 with e1 _
      exact e1.symm
    subst this
    simpa [valOf] using a3 10000 (by omega) w _ (ho a)
  · have h:=sameBits_flat (ho a)
    show (((Array.mk (enc a)).size == (Array.mk (enc a)).size) && ((Array.mk (enc a)).toList.zip (Array.mk (enc a)).toList).all fun (x,y)=>Instr.sameBits 9999 x y)=true
    simp only [beq_self_eq_true,Bool.true_and]
    exact h
  · have his:=(tb.get ht).is
    rw [hk] at his
    obtain ⟨fields,h1,_⟩:=his
    exact ⟨_,h1,.inl fun a b=>rfl⟩
set_option linter.unusedSectionVars false
section
variable {κ α:Type} [DecidableEq κ]
abbrev Ms (κ α:Type):=List (κ × α × Nat)
def mget (k:κ):Ms κ α→Option α
  | []=>none
  | x::r=>if x.1=k then some x.2.1 else mget k r
def mdel (k:κ):Ms κ α→Ms κ α
  | []=>[]
  | x::r=>if x.1=k then r else x::mdel k r
def mobj (kv:κ→Value) (vv:α→Value) (ms:Ms κ α) (clk:Nat):Obj:=.map ⟨ms.map fun x=>⟨kv x.1,vv x.2.1,x.2.2⟩⟩ clk
def mfind (k:κ):Ms κ α→Nat→Option (Nat × α)
  | [],_=>none
  | x::r,i=>if x.1=k then some (i,x.2.1) else mfind k r (i+1)
theorem mfind_mget (k:κ):∀ (ms:Ms κ α) (i:Nat),(mfind k ms i).map (·.2)=mget k ms
  | [],_=>rfl
  | x::r,i=>by
    by_cases h:x.1=k
    · simp [mfind,mget,h]
    · simp [mfind,mget,h,mfind_mget k r (i+1)]

theorem findKey_run {P:Program} {t:Nat} {kv:κ→Value} (hk:KeyT P t kv) (vv:α→Value) (k:κ) (ms:Ms κ α) (w:World) :
    (Instr.findKey t (kv k) (ms.map fun x=>(⟨kv x.1,vv x.2.1,x.2.2⟩:MapEntry))).run P w = .ok ((mfind k ms 0).map fun p=>(p.1,vv p.2)) w:=by
  obtain ⟨dsc,h1,h2⟩:=hk.now
  have hask:∀ (ms:Ms κ α) (i:Nat),(Instr.findAsking t (kv k) (ms.map fun x=>(⟨kv x.1,vv x.2.1,x.2.2⟩:MapEntry)) i).run P w = .ok ((mfind k ms i).map fun p=>(p.1,vv p.2)) w:=by
    intro ms
    induction ms with
    | nil=>intro i;simp [Instr.findAsking,mfind]
    | cons x r ih =>
      intro i
      obtain ⟨b,r1,r2⟩:=hk.eq w k x.1
      simp only [List.map_cons,Instr.findAsking,Sem.run_bind,r1,Result.andThen_ok]
      by_cases h:x.1=k
      · have:b=true:=r2.2 h.symm
        subst this
        simp [mfind,h]
      · have:b=false:=by cases b with|false=>rfl|true=>exact (h (r2.1 rfl).symm).elim
        subst this
        simp only [Bool.false_eq_true,if_false,mfind,if_neg h]
        exact ih (i+1)
  have hnow:(∀ a b,∃ r,Instr.sameNow dsc (kv a) (kv b)=some r∧(r=true ↔ a=b))→∀ (ms:Ms κ α) (i:Nat),Instr.findNow dsc (kv k) (ms.map fun x=>(⟨kv x.1,vv x.2.1,x.2.2⟩:MapEntry)) i=some ((mfind k ms i).map fun p=>(p.1,vv p.2)):=by
    intro hs ms
    induction ms with
    | nil=>intro i;rfl
    | cons x r ih =>
      intro i
      obtain ⟨b,r1,r2⟩:=hs k x.1
      simp only [List.map_cons,Instr.findNow,r1]
      by_cases h:x.1=k
      · have:b=true:=r2.2 h.symm
        subst this
        simp [mfind,h]
      · have:b=false:=by cases b with|false=>rfl|true=>exact (h (r2.1 rfl).symm).elim
        subst this
        simp only [mfind,if_neg h]
        exact ih (i+1)
  unfold Instr.findKey
  rw [Sem.run_bind,run_underlying h1]
  simp only [Result.andThen_ok]
  rcases h2 with h2|h2
  · cases ms with
    | nil=>simp [Instr.findNow,mfind]
    | cons x r =>
      have:Instr.findNow dsc (kv k) ((x::r).map fun x=>(⟨kv x.1,vv x.2.1,x.2.2⟩:MapEntry)) 0=none:=by
        simp only [List.map_cons,Instr.findNow,h2]
      rw [this]
      exact hask (x::r) 0
  · rw [hnow h2 ms 0]
    rfl

theorem mdel_erase (f:κ × α × Nat→MapEntry) (k:κ):∀ (ms:Ms κ α) (i j:Nat) (o:α),mfind k ms j=some (i+j,o) →
    (ms.map f).eraseIdx i=(mdel k ms).map f
  | [],i,j,o,h=>by cases h
  | x :: r,i,j,o,h=>by
    simp only [mfind] at h
    by_cases hx:x.1=k
    · rw [if_pos hx] at h
      simp only [Option.some.injEq,Prod.mk.injEq] at h
      have:i=0:=by omega
      subst this
      simp [mdel,hx]
    · rw [if_neg hx] at h
      have hge:∀ (ms:Ms κ α) (j:Nat) (p:Nat × α),mfind k ms j=some p→j≤p.1:=by
        intro ms
        induction ms with
        | nil=>intro j p h;cases h
        | cons x r ih =>
          intro j p h
          simp only [mfind] at h
          by_cases hx:x.1=k
          · rw [if_pos hx] at h;cases h;exact Nat.le_refl _
          · rw [if_neg hx] at h;have:=ih _ _ h;omega
      have:=hge _ _ _ h
      obtain ⟨i,rfl⟩:∃ i',i=i'+1:=⟨i - 1,by simp at this;omega⟩
      simp only [List.map_cons,List.eraseIdx_cons_succ,mdel,if_neg hx,List.cons.injEq,true_and]
      exact mdel_erase f k r i (j+1) o (by rw [h];congr 2;omega)
theorem mdel_none (k:κ):∀ (ms:Ms κ α),mget k ms=none→mdel k ms=ms
  | [],_=>rfl
  | x::r,h=>by
    simp only [mget] at h
    by_cases hx:x.1=k
    · rw [if_pos hx] at h;cases h
    · rw [if_neg hx] at h;simp [mdel,hx,mdel_none k r h]
end
section
variable {X:Cx} {σ:Env} {L L':Lst} {dd b:Nat} {ty ty2:TypeId} {pos:String} {af:Array Edge} {d:Option Nat} {g:Option (Nat × Bool)} {x y z:Operand} {t kt et:TypeId} {r:TRow}
variable {all:Array Oper} {rest:List Oper} {K:Env→Lst→Prop}
variable {κ α:Type} [DecidableEq κ] {kv:κ→Value} {vv:α→Value} {ms:Ms κ α} {clk:Nat} {vk va:Value}
theorem TB.map {P:Program} (tb:Tb P) (ht:tb.row t=some r) (hk:r.k = .map kt et):P.underlying t=some (.map kt et):=by
  have:=(tb.get ht).is
  rw [hk] at this
  exact this

/-- A look-up: the general form ('ok' too). -/
theorem lookup_run {P:Program} {w:World} (hkt:KeyT P kt kv) (hu:P.underlying t=some (.map kt et)) {zr:Value} (hz:∀ w,(zeroValue et).run P w = .ok zr w) (hb:w.heap[b]? = some (mobj kv vv ms clk)) (k:κ) (ok:Bool) :
    (Instr.lookup t (.map (some b)) (kv k) ok).run P w = .ok (match mget k ms with
      | some a=>if ok then .tuple #[vv a,.bool true] else vv a
      | none=>if ok then .tuple #[zr,.bool false] else zr) w:=by
  have hget:(getObj b).run P w = .ok (mobj kv vv ms clk) w:=by
    simp only [getObj,Sem.run,hb]
    rfl
  have hf:=findKey_run hkt vv k ms w
  have hm:=mfind_mget k ms 0
  unfold Instr.lookup
  simp only [Sem.run_bind,run_underlying hu,Result.andThen_ok,hget,mobj,Sem.run_pure,hkt.chk,hf]
  cases h:mfind k ms 0 with
  | none =>
    rw [h] at hm
    simp only [Option.map_none] at hm
    rw [← hm]
    simp [hz]
  | some p =>
    rw [h] at hm
    simp only [Option.map_some] at hm
    rw [← hm]
    simp
theorem Ok1.lookup_some {ok:Bool} {a:α} {u:Value} {re:TRow} (k:κ) (hkt:KeyT X.P kt kv) (ht:X.tb.row t=some r) (hk:r.k = .map kt et) (he:X.tb.row et=some re) (hx:ev σ x=some (.map (some b))) (hy:ev σ y=some vk) (hv:vk=kv k) (hat:At L b (mobj kv vv ms clk)) (hm:mget k ms=some a) (hu:u=if ok then .tuple ⟨[vv a,.bool true]⟩ else vv a) :
    Ok1 X ⟨d,.lookup t x y ok,ty,pos,af,g⟩ σ L u:=.mk fun a' w ha hw=>by
  have:=lookup_run hkt (TB.map X.tb ht hk) (X.tb.get he).zero (hw.get _ _ hat.mem) k ok
  rw [hm] at this
  simp [execOp,ha.ev hx,ha.ev hy,hv,this,hu]
theorem setObj_run {P:Program} {w:World} {o o':Obj} (hb:w.heap[b]? = some o) (hc:∀ c t f,o ≠ .cells c t f):(setObj b o').run P w = .ok () { w with heap:=w.heap.setIfInBounds b o' }:=by
  simp only [setObj,Sem.run,hb]
theorem setObj_at {w:World} {o o':Obj} (hb:w.heap[b]? = some o):({ w with heap:=w.heap.setIfInBounds b o' }:World).heap[b]? = some o':=by
  have h9:=(Array.getElem?_eq_some_iff.1 hb).1
  simp [h9]

theorem R.makeMap (kv:κ→Value) (vv:α→Value) (hn:Nat.blt dd X.n=true) (h:∀ b,R X all rest K ((dd,.map (some b))::σ) ((b,mobj kv vv ([]:Ms κ α) 0)::L)):R X all (⟨some dd,.makeMap t none,ty,pos,af,none⟩::rest) K σ L :=
  R.value rfl rfl hn fun a w ha hw=>by
    refine ⟨.map (some w.heap.size),w.alloc (mobj kv vv ([]:Ms κ α) 0),_,?_,hw.alloc _,h _⟩
    simp [execOp,Instr.makeMap,mobj]

theorem Ok1.lenM (hkt:X.tb.row t=some r) (hk:r.k = .map kt et) (hx:ev σ x=some (.map (some b))) (hat:At L b (mobj kv vv ms clk)):Ok1 X ⟨d,.call { callee:=.builtin .len,args:=#[x],argTypes:=#[t] },ty,pos,af,g⟩ σ L (.int .i64 ms.length):=.mk fun a w ha hw=>by
  have hb:=hw.get _ _ hat.mem
  have hget:(getObj b).run X.P w = .ok (mobj kv vv ms clk) w:=by
    simp only [getObj,Sem.run,hb];rfl
  simp [execOp,resolve,ha.ev hx,invoke,builtin,Builtin.len_,run_underlying (TB.map X.tb hkt hk),goInt,hget,mobj]
end
section
variable {X:Cx} {σ:Env} {L L':Lst} {dd b:Nat} {ty ty2:TypeId} {pos:String} {af:Array Edge} {d:Option Nat} {g:Option (Nat × Bool)} {x y z:Operand} {t t2 kt et:TypeId} {r:TRow}
variable {all:Array Oper} {rest:List Oper} {K:Env→Lst→Prop}
variable {κ α:Type} [DecidableEq κ] {kv:κ→Value} {vv:α→Value} {ms:Ms κ α} {clk:Nat} {vk va:Value}
theorem delete_run {P:Program} {w:World} (hkt:KeyT P kt kv) (hu:P.underlying t=some (.map kt et)) (hb:w.heap[b]? = some (mobj kv vv ms clk)) (k:κ) (ats:Array TypeId) (h0:ats[0]? = some t) (ty:TypeId) :
    ∃ w',(Builtin.delete_ ats ty #[.map (some b),kv k]).run P w = .ok (.tuple #[]) w' ∧ Chg [b] w w' ∧ w'.heap[b]? = some (mobj kv vv (mdel k ms) clk):=by
  have hget:(getObj b).run P w = .ok (mobj kv vv ms clk) w:=by
    simp only [getObj,Sem.run,hb]
    rfl
  have hf:=findKey_run hkt vv k ms w
  have hm:=mfind_mget k ms 0
  have hne:∀ c t f,mobj kv vv ms clk ≠ .cells c t f:=fun _ _ _ e=>by cases e
  have hs:=fun o'=>setObj_run (P:=P) (o':=o') hb hne
  unfold Builtin.delete_
  simp only [h0,Array.getElem?_toList,List.getElem?_toArray,List.getElem?_cons_zero,List.getElem?_cons_succ,Sem.run_bind,run_underlying hu,Result.andThen_ok,hget,mobj,hkt.chk,hf]
  cases h:mfind k ms 0 with
  | none =>
    rw [h] at hm
    simp only [Option.map_none] at hm
    refine ⟨_,by simp only [Option.map_none,Sem.run_bind,hs,Result.andThen_ok,Sem.run_pure];rfl,Chg.setObj w _ (by simp),?_⟩
    rw [mdel_none k ms hm.symm,setObj_at hb]
  | some p =>
    obtain ⟨i,o⟩:=p
    refine ⟨_,by simp only [Option.map_some,Sem.run_bind,hs,Result.andThen_ok,Sem.run_pure];rfl,Chg.setObj w _ (by simp),?_⟩
    rw [setObj_at hb]
    have:=mdel_erase (fun x=>(⟨kv x.1,vv x.2.1,x.2.2⟩:MapEntry)) k ms i 0 o (by simpa using h)
    simp only [mobj,← this]
    congr 2
    simp

theorem R.mapDel {vd:Option Nat} (k:κ) (hkt:KeyT X.P kt kv) (ht:X.tb.row t=some r) (hk:r.k = .map kt et) (hx:ev σ x=some (.map (some b))) (hy:ev σ y=some vk) (hv:vk=kv k)
    (hu:Upd L b (mobj kv vv ms clk) (mobj kv vv (mdel k ms) clk) L') (h:R X all rest K σ L'):R X all (⟨none,.call { callee:=.builtin .delete,args:=#[x,y],argTypes:=#[t,t2] },ty,pos,af,none⟩::rest) K σ L :=
  R.value0 rfl rfl fun a' w ha hw=>by
    obtain ⟨w',h1,h2,h3⟩:=delete_run hkt (TB.map X.tb ht hk) (hw.get _ _ hu.mem) k #[t,t2] rfl ty
    refine ⟨.tuple #[],w',L',?_,hw.upd hu h2 h3,h⟩
    simp [execOp,resolve,ha.ev hx,ha.ev hy,hv,invoke,builtin,h1]
/-- A ranging over a map begins. -/
theorem R.range {kt et:TypeId} (hn:Nat.blt dd X.n=true) (ht:X.tb.row t=some r) (hk:r.k = .map kt et) (hx:ev σ x=some (.map (some b))) (hat:At L b (mobj kv vv ms clk))
    (h:∀ c,R X all rest K ((dd,.pointer (some ⟨c,0,none⟩))::σ) ((c,.mapIter (some b) clk ⟨[]⟩ clk)::L)):R X all (⟨some dd,.range t x,ty,pos,af,none⟩::rest) K σ L :=
  R.value rfl rfl hn fun a w ha hw=>by
    refine ⟨.pointer (some ⟨w.heap.size,0,none⟩),w.alloc (.mapIter (some b) clk ⟨[]⟩ clk),_,?_,hw.alloc _,h _⟩
    have hb:=hw.get _ _ hat.mem
    have hget:(getObj b).run X.P w = .ok (mobj kv vv ms clk) w:=by
      simp only [getObj,Sem.run,hb];rfl
    simp [execOp,ha.ev hx,Instr.range,run_underlying (TB.map X.tb ht hk),hget,mobj]

/-- One step of a ranging over a map that is not written meanwhile. -/
theorem R.next {c:Nat} {seen:List Nat} (hn:Nat.blt dd X.n=true) (hx:ev σ x=some (.pointer (some ⟨c,0,none⟩))) (hat:At L b (mobj kv vv ms clk)) (hit:At L c (.mapIter (some b) clk ⟨seen⟩ clk))
    (hclk:∀ e∈ms,e.2.2 < clk)
    (hover:(∀ e∈ms,e.2.2∈seen)→R X all rest K ((dd,.tuple ⟨[.bool false]⟩)::σ) L)
    (hstep:∀ e∈ms,e.2.2 ∉ seen→∃ L',Upd L c (.mapIter (some b) clk ⟨seen⟩ clk) (.mapIter (some b) clk ⟨seen++[e.2.2]⟩ clk) L' ∧ R X all rest K ((dd,.tuple ⟨[.bool true,kv e.1,vv e.2.1]⟩)::σ) L') :
    R X all (⟨some dd,.next x false,ty,pos,af,none⟩::rest) K σ L :=
  R.value rfl rfl hn fun a w ha hw=>by
    have hb:=hw.get _ _ hat.mem
    have hc:=hw.get _ _ hit.mem
    have hget:∀ w':World,w'.heap=w.heap→(getObj b).run X.P w' = .ok (mobj kv vv ms clk) w':=by
      intro w' e
      simp only [getObj,Sem.run,e,hb];rfl
    have hgetc:(getObj c).run X.P w = .ok (.mapIter (some b) clk ⟨seen⟩ clk) w:=by
      simp only [getObj,Sem.run,hc]
    have hne:∀ c' t f,(Obj.mapIter (some b) clk ⟨seen⟩ clk) ≠ .cells c' t f:=fun _ _ _ e=>by cases e
    let f:κ × α × Nat→MapEntry:=fun x=>⟨kv x.1,vv x.2.1,x.2.2⟩
    have hguard:(!(Array.mk seen).isEmpty && !(Array.mk (ms.map f)).isEmpty && (Array.mk (ms.map f)).all (fun e=>decide (e.born ≥ clk)))=false:=by
      cases ms with
      | nil=>simp
      | cons e r =>
        have:=hclk e List.mem_cons_self
        simp [f]
        intro _ h
        omega
    have hold:(Array.mk (ms.map f)).filter (fun e=>!(Array.mk seen).contains e.born)=⟨(ms.filter fun e=>!seen.contains e.2.2).map f⟩:=by
      apply Array.toList_inj.1
      simp [List.filter_map,f]
      rfl
    have hlt:∀ e∈(ms.filter fun e=>!seen.contains e.2.2).map f,e.born < clk:=by
      intro e he
      obtain ⟨x,hx,rfl⟩:=List.mem_map.1 he
      exact hclk x (List.mem_filter.1 hx).1
    have hf1:(Array.mk ((ms.filter fun e=>!seen.contains e.2.2).map f)).filter (fun e=>decide (e.born < clk))=⟨(ms.filter fun e=>!seen.contains e.2.2).map f⟩:=by
      apply Array.toList_inj.1
      simp only [Array.toList_filter]
      rw [List.filter_eq_self.2]
      intro e he
      simpa using hlt e he
    have hf2:(Array.mk ((ms.filter fun e=>!seen.contains e.2.2).map f)).filter (fun e=>decide (e.born ≥ clk)) = #[]:=by
      apply Array.toList_inj.1
      simp only [Array.toList_filter]
      rw [List.filter_eq_nil_iff.2]
      intro e he
      have:=hlt e he
      simp;omega
    generalize hrem:(ms.filter fun e=>!seen.contains e.2.2)=rem at *
    have hmem:∀ e∈rem,e∈ms∧e.2.2 ∉ seen:=by
      intro e he
      rw [← hrem] at he
      simpa using List.mem_filter.1 he
    have hrun:∀ (q:Sem Value),(execOp a.eval ⟨some dd,.next x false,ty,pos,af,none⟩).run X.P w=((Instr.next (.pointer (some ⟨c,0,none⟩)) false ty).run X.P w).andThen fun v w'=>.ok (.value v) w':=by
      intro q
      simp [execOp,ha.ev hx]
    rw [hrun (Pure.pure undef)]
    unfold Instr.next
    simp only [Sem.run_bind,hgetc,Result.andThen_ok,hget w rfl,mobj]
    rw [show (ms.map fun x=>(⟨kv x.1,vv x.2.1,x.2.2⟩:MapEntry))=ms.map f from rfl,hguard]
    simp only [Bool.false_eq_true,if_false,Sem.run_pure,Result.andThen_ok,hold,hf1,hf2,Sem.run_bind,run_choose]
    cases rem with
    | nil =>
      have hall:∀ e∈ms,e.2.2∈seen:=by
        intro e he
        rcases Classical.em (e.2.2∈seen) with h|h
        · exact h
        · have:e∈(ms.filter fun e=>!seen.contains e.2.2):=List.mem_filter.2 ⟨he,by simpa using h⟩
          rw [hrem] at this
          cases this
      refine ⟨.tuple ⟨[.bool false]⟩,w,L,?_,hw,hover hall⟩
      simp [Question.forced]
    | cons e0 rem =>
      -- some candidate is chosen
      have hcand:(((if (Array.mk ((e0::rem).map f)).isEmpty then #[none] else #[])++((Array.mk ((e0::rem).map f)) ++ #[]).map some):Array (Option MapEntry))=⟨((e0::rem).map f).map some⟩:=by
        apply Array.toList_inj.1
        simp
      rw [hcand]
      have hsz:(Array.mk (((e0::rem).map f).map some)).size=rem.length+1:=by simp
      rw [hsz]
      have key:∀ i,i < rem.length+1→∀ w',(w'=w ∨ w'=w.drew)→∃ v w'' L',(match (Array.mk (((e0::rem).map f).map some))[i]? with
          | some (some e)=>(do setObj c (.mapIter (some b) clk ((Array.mk seen).push e.born) clk);Pure.pure (Value.tuple #[.bool true,e.key,e.val]):Sem Value)
          | some none=>Pure.pure (Value.tuple #[.bool false])
          | none=>stuck "Next: no such candidate" : Sem Value).run X.P w' = .ok v w'' ∧ Hp X.w0 X.S L' w'' ∧ R X all rest K ((dd,v)::σ) L':=by
        intro i hi w' hw'
        have hi':i < (e0::rem).length:=by simpa using hi
        have:(Array.mk (((e0::rem).map f).map some))[i]? = some (some (f (e0::rem)[i])):=by
          have h8:(((e0::rem).map f).map some)[i]? = some (some (f (e0::rem)[i])):=by
            rw [List.getElem?_map,List.getElem?_map,List.getElem?_eq_getElem hi'];rfl
          simpa using h8
        rw [this]
        obtain ⟨h1,h2⟩:=hmem _ (List.getElem_mem hi')
        obtain ⟨L',hu,hr⟩:=hstep _ h1 h2
        have hwp:Hp X.w0 X.S L w':=by
          rcases hw' with rfl|rfl
          · exact hw
          · exact hw.step (Chg.drew [] w)
        have hc':=hwp.get _ _ hit.mem
        have hs:=setObj_run (P:=X.P) (o':=.mapIter (some b) clk ⟨seen++[(e0::rem)[i].2.2]⟩ clk) hc' hne
        refine ⟨_,_,L',?_,hwp.upd hu (Chg.setObj w' _ (by simp)) (setObj_at hc'),hr⟩
        have hpush:(Array.mk seen).push (f (e0::rem)[i]).born=⟨seen++[(e0::rem)[i].2.2]⟩:=by simp [f]
        simp only [hpush,Sem.run_bind,hs,Result.andThen_ok,Sem.run_pure]
        rfl
      by_cases hfo:(Question.mapNext (rem.length+1)).forced=true
      · simp only [hfo,if_true,Result.andThen_ok]
        obtain ⟨v,w'',L',h1,h2,h3⟩:=key 0 (by omega) w (.inl rfl)
        refine ⟨v,w'',L',?_,h2,h3⟩
        erw [h1];rfl
      · simp only [hfo,if_false,Result.andThen_ok,Bool.false_eq_true]
        obtain ⟨v,w'',L',h1,h2,h3⟩:=key ((Question.mapNext (rem.length+1)).cut (w.tape w.drawn (.mapNext (rem.length+1)))) (by simp only [Question.cut];exact Nat.mod_lt _ (by omega)) w.drew (.inr rfl)
        refine ⟨v,w'',L',?_,h2,h3⟩
        erw [h1];rfl
end
/-- L without block b,which held o. -/
inductive Del:Lst→Nat→Obj→Lst→Prop where
  | head {b o r}:Del ((b,o)::r) b o r
  | tail {x r b o r'}:Del r b o r' → Del (x::r) b o (x::r')
theorem Del.perm {L L':Lst} {b:Nat} {o:Obj} (h:Del L b o L'):((b,o)::L').Perm L:=by
  induction h with
  | head=>exact .refl _
  | tail _ ih=>exact (List.Perm.swap _ _ _).trans (ih.cons _)

/-- A slice value of n elements of a slice of one's own: none yet,or (block,spare elements,the spare cells). -/
abbrev Ov:=Option (Nat × Nat × List Value)
def slV (ov:Ov) (n:Nat):Value:=match ov with
  | none=>.slice none 0 0
  | some (b,j,_)=>.slice (some ⟨b,0,none⟩) n (n+j)
def blkL (e:Nat) (ov:Ov) (xs:List Value):Lst:=match ov with
  | none=>[]
  | some (b,_,junk)=>[(b,.cells ⟨xs++junk⟩ e (0,0))]

section
variable {P:Program} {w:World}
/-- The k cells that a slice value's first m elements hold,in this world. -/
def Holds (w:World) (v:Value) (news:List Value):Prop:=match v with
  | .slice (some ⟨b,o,none⟩) _ _=>∀ i,i < news.length→w.cell? ⟨b,o+i,none⟩=news[i]?
  | .slice none _ _=>news=[]
  | _=>False

theorem first_run {size m:Nat} {v:Value} {news:List Value} (h:Holds w v news) (hl:news.length=m * size):(Builtin.firstCells size m v).run P w = .ok ⟨news⟩ w:=by
  unfold Holds at h
  split at h
  · rename_i b o _ _
    have h2:=run_cells P w ⟨b,o,none⟩ rfl news (m * size) 0 #[] (fun j hj=>by rw [Nat.zero_add];exact h j (by omega)) (by omega)
    have e:(#[]:Array Value)++(⟨news.drop 0⟩:Array Value)=⟨news⟩:=by apply Array.toList_inj.1;simp
    rw [e] at h2
    simpa [Builtin.firstCells,loadCells] using h2
  · subst h
    simp [Builtin.firstCells]
  · exact h.elim

theorem growBy_le (newLen:Nat):∀ r c,c≤newLen→Builtin.growBy newLen r c≤2 * newLen+768
  | 0,c,h=>by simp [Builtin.growBy];omega
  | r + 1,c,h=>by
    simp only [Builtin.growBy]
    split
    · omega
    · have hc:c < newLen:=by omega
      by_cases hc2:c+(c+768) / 4≤newLen
      · exact growBy_le newLen r _ hc2
      · cases r with
        | zero=>simp only [Builtin.growBy];omega
        | succ r=>simp only [Builtin.growBy];rw [if_pos (by omega)];omega
theorem nextcap_le (need oldCap:Nat) (h:oldCap≤need):Builtin.nextslicecap need oldCap≤2 * need+768:=by
  unfold Builtin.nextslicecap
  split
  · omega
  · split
    · omega
    · exact growBy_le need 4 oldCap h

def zeroCellsOf (re:TRow):Array Value:=re.zero.cells
theorem zeroCells_size (z:Array Value) (n:Nat):(Builtin.zeroCells z n).size=n * z.size:=by simp [Builtin.zeroCells]
end
section
variable {X:Cx} {σ:Env} {L L' L1:Lst} {dd b:Nat} {ty ty2:TypeId} {pos:String} {af:Array Edge} {d:Option Nat} {g:Option (Nat × Bool)} {x y z:Operand} {t t2 e:TypeId} {r r2 re:TRow}
variable {all:Array Oper} {rest:List Oper} {K:Env→Lst→Prop}
/-- Where a slice of one's own lies in what is known: its block is taken out. -/
inductive OwnAt (e sz:Nat):Lst→Value→Nat→List Value→Lst→Prop where
  | nil (L:Lst):OwnAt e sz L (.slice none 0 0) 0 [] L
  | blk {L L1:Lst} {b n j:Nat} {old junk:List Value}:Del L b (.cells ⟨old++junk⟩ e (0,0)) L1→old.length=n * sz→junk.length=j * sz→OwnAt e sz L (.slice (some ⟨b,0,none⟩) n (n+j)) n old L1

theorem setE_mid (old:List Value):∀ {vs junk:List Value},vs.length≤junk.length→setE (old++junk) old.length vs=some (old++vs++junk.drop vs.length):=by
  induction old with
  | nil =>
    intro vs
    induction vs with
    | nil=>intro junk _;simp [setE]
    | cons v vs ih =>
      intro junk h
      cases junk with
      | nil=>simp at h
      | cons c cs =>
        have:=ih (junk:=cs) (by simpa using h)
        simp only [List.nil_append,List.length_nil] at this ⊢
        simp [setE,this]
  | cons c old ih =>
    intro vs junk h
    cases vs with
    | nil=>simp [setE]
    | cons v vs =>
      have:=ih h
      simp only [List.cons_append,List.length_cons,setE,this]

theorem append_run {P:Program} (tb:Tb P) (ht:tb.row t=some r) (hk:r.k = .slice e) (he:tb.row e=some re) {zc:List Value} (hz:cellsE re.zero=some zc) (hzl:zc.length=re.size) (ht2:tb.row t2=some r2) {e2:Nat} (hk2:r2.k = .slice e2)
    {w0 w:World} {S:List Nat} {s s2:Value} {n m:Nat} {old news:List Value} (hw:Hp w0 S L w) (ho:OwnAt e re.size L s n old L1) (hs2:Builtin.lenOf s2=Pure.pure m) (hn2:Holds w s2 news) (hlen:news.length=m * re.size) (h1:news.all Value.oneCell'=true) (hm:1≤m)
    (hbig:(2 * (n+m)+768) * re.bytes≤281474976710656) (hb1:1≤re.bytes) :
    ∃ b' j' junk' w',junk'.length=j' * re.size∧(Builtin.append_ #[t,t2] ty #[s,s2]).run P w = .ok (.slice (some ⟨b',0,none⟩) (n+m) (n+m+j')) w' ∧ Hp w0 S ((b',.cells ⟨old++news++junk'⟩ e (0,0))::L1) w':=by
  have hu:P.underlying t=some (.slice e):=by have:=(tb.get ht).is;rw [hk] at this;exact this
  have hu2:P.underlying t2=some (.slice e2):=by have:=(tb.get ht2).is;rw [hk2] at this;exact this
  have hbytes:∃ i,P.info? e=some i∧i.bytes=re.bytes:=by
    have:=(tb.get he).bytes
    cases h:P.info? e with
    | none=>rw [h] at this;cases this
    | some i=>rw [h] at this;exact ⟨i,rfl,by simpa using this⟩
  obtain ⟨i,hi,hib⟩:=hbytes
  have hti:∀ w,(typeInfo e).run P w = .ok i w:=fun w=>by simp [typeInfo,hi]
  have hzc:=cellsE_eq hz
  -- growing: a new row
  have hgrow:∀ (base:Option Addr) (cap:Nat),s = .slice base n cap→cap < n+m→Holds w s old→old.length=n * re.size→Hp w0 S L1 w→∃ b' j' junk' w',junk'.length=j' * re.size∧(Builtin.append_ #[t,t2] ty #[s,s2]).run P w = .ok (.slice (some ⟨b',0,none⟩) (n+m) (n+m+j')) w' ∧ Hp w0 S ((b',.cells ⟨old++news++junk'⟩ e (0,0))::L1) w':=by
    intro base cap hs hc2 hold hlo hL1
    subst hs
    have hnx:=nextcap_le (n+m) cap (by omega)
    have hnb:¬ Builtin.nextslicecap (n+m) cap * re.bytes > 2 ^ 48:=by
      have:=Nat.mul_le_mul_right re.bytes hnx
      have:(2:Nat) ^ 48=281474976710656:=by decide
      omega
    have hold':Holds w.drew (.slice base n cap) old:=hold
    have hnew':Holds w.drew s2 news:=hn2
    obtain ⟨q,hq⟩:∃ q,(Question.appendCap (n+m) cap e).cut (w.tape w.drawn (.appendCap (n+m) cap e))=n+m+q:=⟨_,rfl⟩
    refine ⟨w.heap.size,q,(Builtin.zeroCells (zeroCellsOf re) q).toList,w.drew.alloc (.cells ⟨old++news++(Builtin.zeroCells (zeroCellsOf re) q).toList⟩ e (0,0)),?_,?_,?_⟩
    · simp [zeroCells_size,zeroCellsOf,hzc,hzl]
    · have harr:(Array.mk old++Array.mk news++Builtin.zeroCells re.zero.cells (n+m+q - (n+m)):Array Value)=⟨old++news++(Builtin.zeroCells (zeroCellsOf re) q).toList⟩:=by
        apply Array.toList_inj.1
        simp [zeroCellsOf]
      have hf1:=first_run (P:=P) hold' hlo
      have hf2:=first_run (P:=P) hnew' hlen
      unfold Builtin.append_
      simp only [List.getElem?_toArray,List.getElem?_cons_zero,List.getElem?_cons_succ,Sem.run_bind,run_underlying hu,run_underlying hu2,Result.andThen_ok,(tb.get he).size,Sem.run_pure,Bool.false_eq_true,if_false,hs2,Bool.not_false,if_true,
        show ¬ n+m≤cap by omega,hti,hib,Sem.run_ite,show ¬ re.bytes=0 by omega,or_false,and_false,false_or,hnb,run_choose,Question.forced,hq,run_askRoom,World.drew_eq,hf1,hf2,(tb.get he).zero,newRow,run_newObj,harr]
      rfl
    · exact (hL1.step (Chg.drew [] w)).alloc _
  cases ho with
  | nil=>exact hgrow none 0 rfl (by omega) rfl (by simp) hw
  | @blk _ b _ j _ junk hd h2 h3 =>
    have hperm:=hw.perm hd.perm
    have hb:=hperm.get b _ List.mem_cons_self
    have hL1:Hp w0 S L1 w:=hperm.sub (List.sublist_cons_self _ _)
    have hold:Holds w (.slice (some ⟨b,0,none⟩) n (n+j)) old:=by
      intro i hi
      simp [World.cell?,hb,hi]
      exact List.getElem?_append_left hi |>.trans (List.getElem?_eq_getElem hi)
    by_cases hcap:m≤j
    · -- there is room
      have hset:=setE_mid old (vs:=news) (junk:=junk) (by rw [hlen,h3];exact Nat.mul_le_mul_right _ hcap)
      obtain ⟨w',g1,g2,g3⟩:=run_stores P ((⟨b,0,none⟩:Addr).add (n * re.size)) (by rw [Addr.add_none]) e news 0 w (old++junk) (old++news++junk.drop news.length) h1 (by rw [Addr.add_none];exact hb) (by rw [Addr.add_none];simpa [h2] using hset)
      rw [Addr.add_none] at g1 g2 g3
      refine ⟨b,j - m,junk.drop news.length,w',?_,?_,?_⟩
      · simp [h3,hlen,Nat.sub_mul]
      · have hf2:=first_run (P:=P) hn2 hlen
        unfold Builtin.append_
        simp only [List.getElem?_toArray,List.getElem?_cons_zero,List.getElem?_cons_succ,Sem.run_bind,run_underlying hu,run_underlying hu2,Result.andThen_ok,(tb.get he).size,Sem.run_pure,Bool.false_eq_true,if_false,hs2,Bool.not_false,if_true,
          show n+m≤n+j by omega,Sem.run_ite,hf2,Addr.add_none,g1]
        rw [show n+m+(j - m)=n+j by omega]
      · exact hperm.upd .head g3 g2
    · exact hgrow (some ⟨b,0,none⟩) (n+j) rfl (by omega) hold h2 hL1

/-- append to a slice of one's own,of at least one element. -/
theorem R.append {s s2:Value} {n m:Nat} {old news zc:List Value} {e2:Nat} (hn:Nat.blt dd X.n=true) (ht:X.tb.row t=some r) (hk:r.k = .slice e) (he:X.tb.row e=some re) (hz:cellsE re.zero=some zc) (hzl:zc.length=re.size) (ht2:X.tb.row t2=some r2) (hk2:r2.k = .slice e2) (hb1:Nat.ble 1 re.bytes=true)
    (hx:ev σ x=some s) (hy:ev σ y=some s2) (hs2:Builtin.lenOf s2=Pure.pure m) (ho:OwnAt e re.size L s n old L1)
    (hn2:∀ w,Hp X.w0 X.S L w→Holds w s2 news) (hlen:news.length=m * re.size) (h1:news.all Value.oneCell'=true) (hm:1≤m)
    (hbig:(2 * (n+m)+768) * re.bytes≤281474976710656)
    (h:∀ b' j' junk',junk'.length=j' * re.size→R X all rest K ((dd,.slice (some ⟨b',0,none⟩) (n+m) (n+m+j'))::σ) ((b',.cells ⟨old++news++junk'⟩ e (0,0))::L1)) :
    R X all (⟨some dd,.call { callee:=.builtin .append,args:=#[x,y],argTypes:=#[t,t2] },ty,pos,af,none⟩::rest) K σ L :=
  R.value rfl rfl hn fun a w ha hw=>by
    obtain ⟨b',j',junk',w',g1,g2,g3⟩:=append_run X.tb (ty:=ty) ht hk he hz hzl ht2 hk2 hw ho hs2 (hn2 w hw) hlen h1 hm hbig (Nat.le_of_ble_eq_true hb1)
    refine ⟨_,w',_,?_,g3,h b' j' junk' g1⟩
    simp [execOp,resolve,ha.ev hx,ha.ev hy,invoke,builtin,g2]

theorem Ld.blk1 {v:Value} {b o:Nat} {cs:List Value} {te:TypeId} {fz:Nat × Nat} (ht:X.tb.row t=some r) (hk:r.k.agg=some false) (hb:X.w0.heap[b]? = some (.cells ⟨cs⟩ te fz)) (hs:b ∉ X.S) (hc:cs[o]? = some v):Ld X L t ⟨b,o,none⟩ v :=
  .of1 ht hk fun w hw=>by
    have:=hw.chg.heap hb hs
    simp [World.cell?,this,hc]
theorem Ld.blkk {b o:Nat} {cs vs:List Value} {te:TypeId} {fz:Nat × Nat} (ht:X.tb.row t=some r) (hk:r.k.agg=some true) (hb:X.w0.heap[b]? = some (.cells ⟨cs⟩ te fz)) (hs:b ∉ X.S) (hc:subE cs o r.size=some vs):Ld X L t ⟨b,o,none⟩ (.agg ⟨vs⟩) :=
  .ofk ht hk (subE_spec hc).1 fun w hw i hi=>by
    have h1:=hw.chg.heap hb hs
    have h2:=(subE_spec hc).2 i hi
    simp [World.cell?,h1,h2]
/-- What an own block's slice holds. -/
theorem Holds.own {b n cap:Nat} {cs news:List Value} {te:TypeId} {fz:Nat × Nat} (hat:At L b (.cells ⟨cs⟩ te fz)) (hsub:subE cs 0 news.length=some news) {w0 w:World} {S:List Nat} (hw:Hp w0 S L w):Holds w (.slice (some ⟨b,0,none⟩) n cap) news:=by
  intro i hi
  obtain ⟨h1,h2⟩:=subE_spec hsub
  have:=hat.cell hw (0+i)
  rw [this]
  exact h2 i hi
end
section
variable {X:Cx} {σ:Env} {L L' L1:Lst} {dd b:Nat} {ty ty2:TypeId} {pos:String} {af:Array Edge} {d:Option Nat} {g:Option (Nat × Bool)} {x y z:Operand} {t e:TypeId} {r re:TRow} {v:Value}
variable {all:Array Oper} {rest:List Oper} {K:Env→Lst→Prop} {i j:Int} {k:IntKind} {ats:Array TypeId}
theorem equal_run {P:Program} {w:World} {t:TypeId} {x y:Value} {b:Bool} (h:∀ d,(Op.equalIn (d+1) t x y).run P w = .ok b w):(Op.equal t x y).run P w = .ok b w:=h 9999
theorem eqlop_run {X:Cx} {w:World} {x y:Operand} {u v:Value} {b:Bool} {A:Act} (hx:A.eval x=u) (hy:A.eval y=v) (h1:∀ a,u ≠ .agg a) (h1':u ≠ .nilIface) (h2:binOp .eql t u v=(do pure (.bool (← Op.equal t u v)))) (h:∀ d,(Op.equalIn (d+1) t u v).run X.P w = .ok b w) :
    (execOp A.eval ⟨d,.binOp .eql t x y ty2,ty,pos,af,g⟩).run X.P w = .ok (.value (.bool b)) w:=by
  have hg:eqGuard .eql t x y u v=pure ():=by
    unfold eqGuard
    cases u<;>first|rfl|exact (h1 _ rfl).elim|exact (h1' rfl).elim
  have:=equal_run h
  simp [execOp,hx,hy,hg,h2,this]
theorem neqop_run {X:Cx} {w:World} {x y:Operand} {u v:Value} {b:Bool} {A:Act} (hx:A.eval x=u) (hy:A.eval y=v) (h1:∀ a,u ≠ .agg a) (h1':u ≠ .nilIface) (h2:binOp .neq t u v=(do pure (.bool (!(← Op.equal t u v))))) (h:∀ d,(Op.equalIn (d+1) t u v).run X.P w = .ok b w) :
    (execOp A.eval ⟨d,.binOp .neq t x y ty2,ty,pos,af,g⟩).run X.P w = .ok (.value (.bool !b)) w:=by
  have hg:eqGuard .neq t x y u v=pure ():=by
    unfold eqGuard
    cases u<;>first|rfl|exact (h1 _ rfl).elim|exact (h1' rfl).elim
  have:=equal_run h
  simp [execOp,hx,hy,hg,h2,this]
theorem Ok1.eqlP {p:Option Addr} (ht:X.tb.row t=some r) (hk:r.k = .ptr e) (hx:ev σ x=some (.pointer p)) (hy:ev σ y=some (.pointer none)) (hv:v = .bool p.isNone):Ok1 X ⟨d,.binOp .eql t x y ty2,ty,pos,af,g⟩ σ L v:=.mk fun a w ha hw=>by
  have h:X.P.underlying t=some (.pointer e):=by have:=(X.tb.get ht).is;rw [hk] at this;exact this
  subst hv
  rw [eqlop_run (b:=p.isNone) (ha.ev hx) (ha.ev hy) (fun _ e=>by cases e) (fun e=>by cases e) rfl fun d=>by cases p<;>simp [Op.equalIn,run_underlying h]]
theorem Ok1.neqP {p:Option Addr} (ht:X.tb.row t=some r) (hk:r.k = .ptr e) (hx:ev σ x=some (.pointer p)) (hy:ev σ y=some (.pointer none)) (hv:v = .bool p.isSome):Ok1 X ⟨d,.binOp .neq t x y ty2,ty,pos,af,g⟩ σ L v:=.mk fun a w ha hw=>by
  have h:X.P.underlying t=some (.pointer e):=by have:=(X.tb.get ht).is;rw [hk] at this;exact this
  subst hv
  rw [neqop_run (b:=p.isNone) (ha.ev hx) (ha.ev hy) (fun _ e=>by cases e) (fun e=>by cases e) rfl fun d=>by cases p<;>simp [Op.equalIn,run_underlying h]]
  cases p<;>rfl
theorem Ok1.eqlS {p:Option Addr} {n c:Nat} (ht:X.tb.row t=some r) (hk:r.k = .slice e) (hx:ev σ x=some (.slice p n c)) (hy:ev σ y=some (.slice none 0 0)) (hv:v = .bool p.isNone):Ok1 X ⟨d,.binOp .eql t x y ty2,ty,pos,af,g⟩ σ L v:=.mk fun a w ha hw=>by
  have h:X.P.underlying t=some (.slice e):=by have:=(X.tb.get ht).is;rw [hk] at this;exact this
  subst hv
  rw [eqlop_run (b:=p.isNone) (ha.ev hx) (ha.ev hy) (fun _ e=>by cases e) (fun e=>by cases e) rfl fun d=>by cases p<;>simp [Op.equalIn,run_underlying h]]
def pw:Nat→Int
  | 0=>1|1=>2|2=>4|3=>8|4=>16|5=>32|6=>64|7=>128|8=>256|16=>65536|24=>16777216|32=>4294967296
  | n=>2 ^ n
theorem pw_eq (n:Nat):pw n=2 ^ n:=by unfold pw;split<;>rfl
theorem Ok1.shr {k2:IntKind} {m:Int} (hx:ev σ x=some (.int k i)) (hy:ev σ y=some (.int k2 j)) (h:0≤j) (h2:j.toNat≤k.bits) (hm:pw j.toNat=m):Ok1 X ⟨d,.binOp .shr t x y ty2,ty,pos,af,g⟩ σ L (.int k (i / m)):=.mk fun a w ha hw=>by
  have hp:(0:Int)≤2 ^ j.toNat:=Int.le_of_lt (Int.pow_pos (by decide))
  have:¬ j < 0:=by omega
  rw [← hm,pw_eq]
  simp [execOp,ha.ev hx,ha.ev hy,eqGuard,binOp,Op.shift,this,Nat.min_eq_left h2,Int.fdiv_eq_ediv_of_nonneg _ hp]
theorem Ok1.indexStr {s:ByteArray} {c:UInt8} (ht:X.tb.row t=some r) (hk:r.k = .string) (hx:ev σ x=some (.string s)) (hy:ev σ y=some (.int k i)) (h0:0≤i) (hc:s[i.toNat]? = some c):Ok1 X ⟨d,.index t x y,ty,pos,af,g⟩ σ L (.int .u8 c.toNat):=.mk fun a w ha hw=>by
  have h:X.P.underlying t=some .string:=by have:=(X.tb.get ht).is;rw [hk] at this;exact this
  simp [execOp,ha.ev hx,ha.ev hy,Instr.index,asIntOf,run_underlying h,h0,hc]

def bd (σ:Env) (o:Option Operand) (dflt:Int):Option Int:=match o with
  | none=>some dflt
  | some o=>match ev σ o with
    | some (.int _ i)=>some i
    | _=>none
theorem bound_run {P:Program} {w:World} {n a:Nat} {A:Act} (σ:Env) (ha:Mod n A σ) {o:Operand} {dflt:Int} {i:Int} {code:BoundsCode} (h:bd σ (some o) dflt=some i) (h0:0≤i) (h1:i≤a):(Instr.sliceBound (A.eval o) a code).run P w = .ok i.toNat w:=by
  simp only [bd] at h
  cases hv:ev σ o with
  | none=>rw [hv] at h;cases h
  | some u =>
    rw [hv] at h
    cases u<;>simp only [reduceCtorEq,Option.some.injEq] at h
    subst h
    simp [Instr.sliceBound,ha.ev hv,asIntOf,h0,h1]
theorem bounds_run {P:Program} {w:World} {n:Nat} {A:Act} {isS:Bool} {len cap:Nat} {lo hi mx:Option Operand} {l h m:Int} (ha:Mod n A σ) (hm:bd σ mx cap=some m) (hh:bd σ hi len=some h) (hl:bd σ lo 0=some l) (h0:0≤l) (h1:l≤h) (h2:h≤m) (h3:m≤cap) (hx:mx=none ∨ hi≠none) :
    (Instr.sliceBounds isS len cap (lo.map A.eval) (hi.map A.eval) (mx.map A.eval)).run P w = .ok (l.toNat,h.toNat,m.toNat) w:=by
  cases mx with
  | none =>
    simp only [bd,Option.some.injEq] at hm
    subst hm
    cases hi with
    | none =>
      simp only [bd,Option.some.injEq] at hh
      subst hh
      cases lo with
      | none=>simp only [bd,Option.some.injEq] at hl;subst hl;simp [Instr.sliceBounds]
      | some o =>
        have hc:=fun c=>bound_run (P:=P) (w:=w) (a:=len) (code:=c) σ ha hl h0 (by omega)
        simp [Instr.sliceBounds,hc]
    | some o2 =>
      have hb:=fun c=>bound_run (P:=P) (w:=w) (a:=cap) (code:=c) σ ha hh (by omega) h2
      cases lo with
      | none=>simp only [bd,Option.some.injEq] at hl;subst hl;simp [Instr.sliceBounds,hb]
      | some o => 
        have hc:=fun c=>bound_run (P:=P) (w:=w) (a:=h.toNat) (code:=c) σ ha hl h0 (by omega)
        simp [Instr.sliceBounds,hb,hc]
  | some o3 =>
    have hd:=fun c=>bound_run (P:=P) (w:=w) (a:=cap) (code:=c) σ ha hm (by omega) h3
    cases hi with
    | none=>simp at hx
    | some o2 =>
      have hb:=fun c=>bound_run (P:=P) (w:=w) (a:=m.toNat) (code:=c) σ ha hh (by omega) (by omega)
      cases lo with
      | none=>simp only [bd,Option.some.injEq] at hl;subst hl;simp [Instr.sliceBounds,hd,hb]
      | some o =>
        have hc:=fun c=>bound_run (P:=P) (w:=w) (a:=h.toNat) (code:=c) σ ha hl h0 (by omega)
        simp [Instr.sliceBounds,hd,hb,hc]
theorem slice_run {P:Program} {w:World} {n:Nat} {A:Act} {p:Option Addr} {len cap:Nat} {lo hi mx:Option Operand} {l h m:Int} (tb:Tb P) (ht:tb.row t=some r) (hk:r.k = .slice e) (he:tb.row e=some re) (ha:Mod n A σ) (hx:ev σ x=some (.slice p len cap)) (hm:bd σ mx cap=some m) (hh:bd σ hi len=some h) (hl:bd σ lo 0=some l) (h0:0≤l) (h1:l≤h) (h2:h≤m) (h3:m≤cap) (hx2:mx=none ∨ hi≠none) :
    (execOp A.eval ⟨d,.slice t x lo hi mx,ty,pos,af,g⟩).run P w = .ok (.value (.slice (if m.toNat=l.toNat then p else p.map (·.add (l.toNat * re.size))) (h.toNat - l.toNat) (m.toNat - l.toNat))) w:=by
  have hu:P.underlying t=some (.slice e):=by have:=(tb.get ht).is;rw [hk] at this;exact this
  have hb:=bounds_run (P:=P) (w:=w) (isS:=true) ha hm hh hl h0 h1 h2 h3 hx2
  simp [execOp,Instr.sliceAt,run_underlying hu,Instr.slice,ha.ev hx,hb,(tb.get he).size]
/-- of none -/
theorem Ok1.slice0 {lo hi mx:Option Operand} {l h m:Int} (ht:X.tb.row t=some r) (hk:r.k = .slice e) (he:X.tb.row e=some re) (hx:ev σ x=some (.slice none 0 0)) (hm:bd σ mx 0=some m) (hh:bd σ hi 0=some h) (hl:bd σ lo 0=some l) (h0:l=0∧h=0∧m=0) (hx2:mx=none ∨ hi≠none) :
    Ok1 X ⟨d,.slice t x lo hi mx,ty,pos,af,g⟩ σ L (.slice none 0 0):=.mk fun a w ha hw=>by
  obtain ⟨rfl,rfl,rfl⟩:=h0
  rw [slice_run X.tb ht hk he ha hx hm hh hl (by omega) (by omega) (by omega) (by omega) hx2]
  simp
/-- its first ones -/
theorem Ok1.sliceTo {b o len cap:Nat} {hi mx:Option Operand} {h m:Int} (ht:X.tb.row t=some r) (hk:r.k = .slice e) (he:X.tb.row e=some re) (hx:ev σ x=some (.slice (some ⟨b,o,none⟩) len cap)) (hm:bd σ mx cap=some m) (hh:bd σ hi len=some h) (h1:0≤h) (h2:h≤m) (h3:m≤cap) (hx2:mx=none ∨ hi≠none) :
    Ok1 X ⟨d,.slice t x none hi mx,ty,pos,af,g⟩ σ L (.slice (some ⟨b,o,none⟩) h.toNat m.toNat):=.mk fun a w ha hw=>by
  rw [slice_run (l:=0) X.tb ht hk he ha hx hm hh rfl (by omega) (by omega) (by omega) (by omega) hx2]
  simp [Addr.add_none]
/-- from one on,where room is left -/
theorem Ok1.sliceFrom {b o len cap:Nat} {lo:Operand} {hi mx:Option Operand} {l h m:Int} (ht:X.tb.row t=some r) (hk:r.k = .slice e) (he:X.tb.row e=some re) (hx:ev σ x=some (.slice (some ⟨b,o,none⟩) len cap)) (hl:bd σ (some lo) 0=some l) (hm:bd σ mx cap=some m) (hh:bd σ hi len=some h) (h0:0≤l) (h1:l≤h) (h2:h≤m) (h3:m≤cap) (h4:l < m) (hx2:mx=none ∨ hi≠none) :
    Ok1 X ⟨d,.slice t x (some lo) hi mx,ty,pos,af,g⟩ σ L (.slice (some ⟨b,o+l.toNat * re.size,none⟩) (h.toNat - l.toNat) (m.toNat - l.toNat)):=.mk fun a w ha hw=>by
  rw [slice_run X.tb ht hk he ha hx hm hh hl (by omega) (by omega) (by omega) (by omega) hx2]
  rw [if_neg (by omega)]
  simp [Addr.add_none]
end
def blks (L:Lst):List Nat:=L.map (·.1)
/-- Called in world w,in which the blocks of L hold what L says,it returns a value;of what was there nothing but those blocks has changed;the value and what is known afterwards fit R. -/
structure CallM (P:Program) (f:FuncId) (vs:List Value) (L:Lst) (w:World) (R:Value→Lst→Prop):Prop where
  run:Hp w (blks L) L w→Calls P f vs.toArray w fun e w'=>∃ v L',e = .returned v∧R v L' ∧ Hp w (blks L) L' w'

theorem Hp.callM {w0 w w':World} {S:List Nat} {Li Lo Lr:Lst} (h:Hp w0 S (Li++Lr) w) (h':Hp w (blks Li) Lo w'):Hp w0 S (Lo++Lr) w':=by
  have hn:=h.nod
  rw [List.map_append,List.nodup_append] at hn
  obtain ⟨hn1,hn2,hn3⟩:=hn
  have hin:∀ b,b∈blks Li→w0.heap.size≤b ∨ b∈S:=by
    intro b hb
    obtain ⟨⟨b',o⟩,hm,rfl⟩:=List.mem_map.1 hb
    exact h.own b' o (List.mem_append_left _ hm)
  have hsz:=h.chg.size
  refine ⟨?_,?_,?_,?_⟩
  · refine ⟨h'.chg.os.trans h.chg.os,h'.chg.tape.trans h.chg.tape,h'.chg.output.trans h.chg.output,Nat.le_trans h.chg.size h'.chg.size,Nat.le_trans h.chg.drawn h'.chg.drawn,fun k hk hks=>?_⟩
    refine (h'.chg.block k (by omega) fun hb=>?_).trans (h.chg.block k hk hks)
    rcases hin k hb with h1|h1
    · omega
    · exact hks h1
  · intro b o hm
    rcases List.mem_append.1 hm with hm|hm
    · exact h'.get b o hm
    · refine h'.chg.heap (h.get b o (List.mem_append_right _ hm)) fun hb=>?_
      exact hn3 b hb b (List.mem_map.2 ⟨(b,o),hm,rfl⟩) rfl
  · rw [List.map_append,List.nodup_append]
    refine ⟨h'.nod,hn2,fun b hb c hc e=>?_⟩
    subst e
    obtain ⟨⟨b',o⟩,hm,rfl⟩:=List.mem_map.1 hb
    obtain ⟨⟨b2,o2⟩,hm2,e2⟩:=List.mem_map.1 hc
    have hlt:=h.lt (List.mem_append_right Li hm2)
    try simp only at e2
    rcases h'.own b' o hm with h1|h1
    · (try simp only at hlt e2);omega
    · exact hn3 b' h1 b' (List.mem_map.2 ⟨(b2,o2),hm2,e2⟩) rfl
  · intro b o hm
    rcases List.mem_append.1 hm with hm|hm
    · rcases h'.own b o hm with h1|h1
      · exact .inl (by omega)
      · exact hin b h1
    · exact h.own b o (List.mem_append_right _ hm)

section
variable {X:Cx} {σ:Env} {L Li Lr:Lst} {dd:Nat} {ty:TypeId} {pos:String} {af:Array Edge} {f:FuncId} {ats:Array TypeId}
variable {all:Array Oper} {rest:List Oper} {K:Env→Lst→Prop} {xs:List Operand} {vs:List Value}
end
def OvOk (sz:Nat) (ov:Ov) (n:Nat) (xs:List Value):Prop:=xs.length=n * sz∧match ov with
  | none=>n=0
  | some (_,j,junk)=>junk.length=j * sz
theorem OvOk.start (sz:Nat):OvOk sz none 0 []:=⟨by simp,rfl⟩
theorem OwnAt.base {e sz n:Nat} {ov:Ov} {xs:List Value} (h:OvOk sz ov n xs):OwnAt e sz (blkL e ov xs) (slV ov n) n xs []:=by
  obtain ⟨h1,h2⟩:=h
  cases ov with
  | none =>
    subst h2
    have:xs=[]:=by cases xs;rfl;simp at h1
    subst this
    exact .nil []
  | some q=>obtain ⟨b,j,junk⟩:=q;exact .blk .head h1 h2
theorem OwnAt.tail {e sz n:Nat} {L L1:Lst} {v:Value} {xs:List Value} (y:Nat × Obj) (h:OwnAt e sz L v n xs L1):OwnAt e sz (y::L) v n xs (y::L1):=by
  cases h with
  | nil=>exact .nil _
  | blk h1 h2 h3=>exact .blk (.tail h1) h2 h3
theorem OvOk.some {sz n m b j:Nat} {ov:Ov} {xs ys junk:List Value} (h:OvOk sz ov n xs) (hy:ys.length=m * sz) (hj:junk.length=j * sz):OvOk sz (some (b,j,junk)) (n+m) (xs++ys) :=
  ⟨by simp [h.1,hy,Nat.add_mul],hj⟩
section
variable {X:Cx} {σ:Env} {L:Lst} {ty ty2 t src dst:TypeId} {pos:String} {af:Array Edge} {d:Option Nat} {g:Option (Nat × Bool)} {x y:Operand} {rs rd:TRow} {i j:Int} {k:IntKind}
theorem Ok1.convI64 (hd:X.tb.row dst=some rd) (hk:rd.k = .int .i64) (hs:X.tb.row src=some rs) (hk2:rs.k = .int k) (hx:ev σ x=some (.int k i)) (h1 : -9223372036854775808≤i) (h2:i≤9223372036854775807):Ok1 X ⟨d,.convert src dst x,ty,pos,af,g⟩ σ L (.int .i64 i):=by
  have:=Ok1.conv (L:=L) (ty:=ty) (pos:=pos) (af:=af) (d:=d) (g:=g) hd hk hs hk2 hx
  rwa [IntWalk.i64_in i ⟨h1,h2⟩] at this
theorem Ok1.convU64 (hd:X.tb.row dst=some rd) (hk:rd.k = .int .u64) (hs:X.tb.row src=some rs) (hk2:rs.k = .int k) (hx:ev σ x=some (.int k i)) (h1:0≤i) (h2:i≤18446744073709551615):Ok1 X ⟨d,.convert src dst x,ty,pos,af,g⟩ σ L (.int .u64 i):=by
  have:=Ok1.conv (L:=L) (ty:=ty) (pos:=pos) (af:=af) (d:=d) (g:=g) hd hk hs hk2 hx
  rwa [IntWalk.u64_in i ⟨h1,h2⟩] at this
theorem Ok1.convU32 (hd:X.tb.row dst=some rd) (hk:rd.k = .int .u32) (hs:X.tb.row src=some rs) (hk2:rs.k = .int k) (hx:ev σ x=some (.int k i)) (h1:0≤i) (h2:i≤4294967295):Ok1 X ⟨d,.convert src dst x,ty,pos,af,g⟩ σ L (.int .u32 i):=by
  have:=Ok1.conv (L:=L) (ty:=ty) (pos:=pos) (af:=af) (d:=d) (g:=g) hd hk hs hk2 hx
  rwa [IntWalk.u32_in i ⟨h1,h2⟩] at this
theorem Ok1.convU8 (hd:X.tb.row dst=some rd) (hk:rd.k = .int .u8) (hs:X.tb.row src=some rs) (hk2:rs.k = .int k) (hx:ev σ x=some (.int k i)) (h1:0≤i) (h2:i≤255):Ok1 X ⟨d,.convert src dst x,ty,pos,af,g⟩ σ L (.int .u8 i):=by
  have:=Ok1.conv (L:=L) (ty:=ty) (pos:=pos) (af:=af) (d:=d) (g:=g) hd hk hs hk2 hx
  rwa [IntWalk.u8_in i ⟨h1,h2⟩] at this
theorem Ok1.remN (hx:ev σ x=some (.int k i)) (hy:ev σ y=some (.int k j)) (h0:0≤i) (h1:0 < j):Ok1 X ⟨d,.binOp .rem t x y ty2,ty,pos,af,g⟩ σ L (.int k (i % j)):=by
  have:=Ok1.rem (X:=X) (L:=L) (ty:=ty) (ty2:=ty2) (t:=t) (pos:=pos) (af:=af) (d:=d) (g:=g) hx hy (by omega)
  rwa [Int.tmod_eq_emod_of_nonneg h0] at this
theorem pwE3:pw (Int.toNat 3)=8:=rfl
theorem pwE8:pw (Int.toNat 8)=256:=rfl
theorem pwE16:pw (Int.toNat 16)=65536:=rfl
theorem pwE24:pw (Int.toNat 24)=16777216:=rfl
theorem pwE32:pw (Int.toNat 32)=4294967296:=rfl
end
def blen (x:Nat):Nat:=if x=0 then 0 else Nat.log2 x+1
theorem blen_half {x:Nat} (h:x≠0):blen x=blen (x / 2)+1:=by
  unfold blen
  rw [if_neg h,Nat.log2_def]
  by_cases h2:2≤x
  · rw [if_pos h2,if_neg (by omega)]
  · rw [if_neg h2,if_pos (by omega)]
theorem blen_div (k:Nat):∀ {x:Nat},2 ^ k≤x→blen x=blen (x / 2 ^ k)+k:=by
  induction k with
  | zero=>intro x _;simp
  | succ k ih =>
    intro x h
    have h2:2 ^ k≤x / 2:=by rw [Nat.pow_succ] at h;omega
    have h3:0 < 2 ^ k:=Nat.two_pow_pos k
    rw [blen_half (by omega),ih h2,Nat.div_div_eq_div_mul,Nat.pow_succ,Nat.mul_comm 2 (2 ^ k)]
    omega
theorem blen8 {x:Nat} (h:256≤x):blen x=blen (x / 256)+8:=blen_div 8 h
theorem blen16 {x:Nat} (h:65536≤x):blen x=blen (x / 65536)+16:=blen_div 16 h
theorem blen32 {x:Nat} (h:4294967296≤x):blen x=blen (x / 4294967296)+32:=blen_div 32 h
theorem blen_le {x:Nat} (k:Nat) (h:x < 2 ^ k):blen x≤k:=by
  unfold blen
  split
  · omega
  · rename_i h0
    have:=(Nat.log2_lt h0).2 h
    omega
/-- The table of the lengths of all bytes. -/
def isLen8 (s:ByteArray):Bool:=(List.range 256).all fun n=>s[n]? == some (UInt8.ofNat (blen n))
theorem len8 {s:ByteArray} (h:isLen8 s=true) {i:Int} (h0:0≤i) (h1:i≤255):s[i.toNat]? = some (UInt8.ofNat (blen i.toNat)):=by
  simp only [isLen8,List.all_eq_true,List.mem_range,beq_iff_eq] at h
  exact h _ (by omega)
theorem len8_val {i:Int} (h0:0≤i) (h1:i≤255):((UInt8.ofNat (blen i.toNat)).toNat:Int)=blen i.toNat:=by
  have:blen i.toNat≤8:=blen_le 8 (by omega)
  simp
  omega
theorem Ok1.len8 {X:Cx} {σ:Env} {L:Lst} {ty t:TypeId} {pos:String} {af:Array Edge} {d:Option Nat} {g:Option (Nat × Bool)} {x y:Operand} {r:TRow} {i:Int} {k:IntKind} {s:ByteArray}
    (ht:X.tb.row t=some r) (hk:r.k = .string) (hx:ev σ x=some (.string s)) (hy:ev σ y=some (.int k i)) (h0:0≤i) (h1:i≤255) (hs:isLen8 s=true):Ok1 X ⟨d,.index t x y,ty,pos,af,g⟩ σ L (.int .u8 ((min (blen i.toNat) 8:Nat):Int)):=by
  have hb:blen i.toNat≤8:=blen_le 8 (by omega)
  rw [Nat.min_eq_left hb]
  have:=Ok1.indexStr (X:=X) (L:=L) (ty:=ty) (pos:=pos) (af:=af) (d:=d) (g:=g) ht hk hx hy h0 (YtcfdgnajepilbaaGreat.len8 hs h0 h1)
  rwa [len8_val h0 h1] at this
def fl {α:Type} (v:α→List Value) (rs:List α):List Value:=(rs.map v).flatten
section
variable {α:Type} {v:α→List Value} {sz:Nat} {rs:List α}
theorem fl_len (hv:∀ a,(v a).length=sz) (rs:List α):(fl v rs).length=rs.length * sz:=by
  induction rs with
  | nil=>simp [fl]
  | cons a rs ih=>simp only [fl,List.map_cons,List.flatten_cons,List.length_append,List.length_cons] at ih ⊢;rw [hv,ih,Nat.add_mul];omega
theorem fl_get (hv:∀ a,(v a).length=sz):∀ {rs:List α} {i:Nat} {a:α} {k:Nat},rs[i]? = some a→k < sz→(fl v rs)[i * sz+k]? = (v a)[k]?
  | [],i,a,k,h,_=>by simp at h
  | b::rs,0,a,k,h,hk=>by
    simp only [List.getElem?_cons_zero,Option.some.injEq] at h
    subst h
    simp only [fl,List.map_cons,List.flatten_cons,Nat.zero_mul,Nat.zero_add]
    exact List.getElem?_append_left (by rw [hv];exact hk)
  | b::rs,i+1,a,k,h,hk=>by
    simp only [List.getElem?_cons_succ] at h
    have:=fl_get hv h hk
    simp only [fl,List.map_cons,List.flatten_cons] at this ⊢
    rw [List.getElem?_append_right (by rw [hv,Nat.add_mul];omega),hv,← this]
    congr 1
    rw [Nat.add_mul];omega
theorem fl_snoc (a:α):fl v (rs++[a])=fl v rs++v a:=by simp [fl]
theorem fl_take {i:Nat} {a:α} (h:rs[i]? = some a):fl v (rs.take (i+1))=fl v (rs.take i)++v a:=by
  rw [List.take_add_one,h,Option.toList_some,fl_snoc]
end
/-- In world w the slice with this base holds the rows rs (one of none has any base). -/
def RdSl {α:Type} (w:World) (p:Option Addr) (v:α→List Value) (rs:List α):Prop :=
  rs=[] ∨ ∃ b o,p=some ⟨b,o,none⟩∧∀ k,k < (fl v rs).length→w.cell? ⟨b,o+k,none⟩=(fl v rs)[k]?
/-- Its block is none of these. -/
def Off (p:Option Addr) (S:List Nat):Prop:=∀ a,p=some a→a.block ∉ S
theorem RdSl.at {α:Type} {w:World} {p:Option Addr} {v:α→List Value} {rs:List α} (h:RdSl w p v rs) {i:Nat} {a:α} (hi:rs[i]? = some a) :
    ∃ b o,p=some ⟨b,o,none⟩∧∀ sz,(∀ a,(v a).length=sz)→∀ k,k < sz→w.cell? ⟨b,o+(i * sz+k),none⟩=(v a)[k]?:=by
  rcases h with rfl|⟨b,o,hp,h⟩
  · simp at hi
  · refine ⟨b,o,hp,fun sz hv k hk=>?_⟩
    rw [h _ (by
      rw [fl_len hv]
      have:=(List.getElem?_eq_some_iff.1 hi).1
      have:=Nat.mul_le_mul_right sz this
      rw [Nat.succ_mul] at this
      omega),fl_get hv hi hk]

section
variable {X:Cx} {σ:Env} {L:Lst} {ty t e:TypeId} {pos:String} {af:Array Edge} {d:Option Nat} {g:Option (Nat × Bool)} {x y:Operand} {r re:TRow} {i:Int} {k:IntKind}
/-- An element's address,of a slice whose base is known by name. -/
theorem Ok1.indexAddrP {p:Option Addr} {b o n cap:Nat} (ht:X.tb.row t=some r) (hk:r.k = .slice e) (he:X.tb.row e=some re) (hx:ev σ x=some (.slice p n cap)) (hp:p=some ⟨b,o,none⟩) (hy:ev σ y=some (.int k i)) (h0:0≤i) (h1:i < n) :
    Ok1 X ⟨d,.indexAddr t x y,ty,pos,af,g⟩ σ L (.pointer (some ⟨b,o+i.toNat * re.size,none⟩)):=by
  subst hp;exact Ok1.indexAddr ht hk he hx hy h0 h1
/-- A row's one part,and a row (or a part of many cells). H: what the cells of the row hold. -/
theorem Ld.row1 {b o j sz f n:Nat} {vs:List Value} {v:Value} (H:∀ k,k < n→X.w0.cell? ⟨b,o+(j * sz+k),none⟩=vs[k]?) (hl:vs.length=n) (hS:b ∉ X.S) (ht:X.tb.row t=some r) (hk:r.k.agg=some false) (hf:vs[f]? = some v):Ld X L t ⟨b,o+j * sz+f,none⟩ v :=
  .old1 ht hk (by rw [Nat.add_assoc,H f (hl ▸ (List.getElem?_eq_some_iff.1 hf).1)];exact hf) hS
theorem Ld.row0 {b o j sz n:Nat} {vs:List Value} {v:Value} (H:∀ k,k < n→X.w0.cell? ⟨b,o+(j * sz+k),none⟩=vs[k]?) (hl:vs.length=n) (hS:b ∉ X.S) (ht:X.tb.row t=some r) (hk:r.k.agg=some false) (hf:vs[0]? = some v):Ld X L t ⟨b,o+j * sz,none⟩ v :=
  .row1 (f:=0) H hl hS ht hk hf
theorem Ld.rowk {b o j sz f n:Nat} {vs us:List Value} (H:∀ k,k < n→X.w0.cell? ⟨b,o+(j * sz+k),none⟩=vs[k]?) (hl:vs.length=n) (hS:b ∉ X.S) (ht:X.tb.row t=some r) (hk:r.k.agg=some true) (hf:subE vs f r.size=some us):Ld X L t ⟨b,o+j * sz+f,none⟩ (.agg ⟨us⟩):=by
  obtain ⟨h1,h2⟩:=subE_spec hf
  refine .oldk ht hk h1 (fun i hi=>?_) hS
  have h3:=h2 i hi
  have hlt:f+i < n:=by
    rcases Nat.lt_or_ge (f+i) vs.length with h|h
    · omega
    · rw [List.getElem?_eq_none h,List.getElem?_eq_getElem (by omega)] at h3;cases h3
  rw [show o+j * sz+f+i=o+(j * sz+(f+i)) by omega,H _ hlt,h3]
theorem Ld.rowk0 {b o j sz n:Nat} {vs us:List Value} (H:∀ k,k < n→X.w0.cell? ⟨b,o+(j * sz+k),none⟩=vs[k]?) (hl:vs.length=n) (hS:b ∉ X.S) (ht:X.tb.row t=some r) (hk:r.k.agg=some true) (hf:subE vs 0 r.size=some us):Ld X L t ⟨b,o+j * sz,none⟩ (.agg ⟨us⟩) :=
  .rowk (f:=0) H hl hS ht hk hf
end
/-- append of the first elements of an own block to an own slice. -/
theorem R.append1 {X:Cx} {σ:Env} {L L1:Lst} {dd b2 m cap2 n:Nat} {ty t t2 e e2:TypeId} {pos:String} {af:Array Edge} {x y:Operand} {r r2 re:TRow} {all:Array Oper} {rest:List Oper} {K:Env→Lst→Prop} {s:Value} {old news zc cs:List Value} {te:TypeId} {fz:Nat × Nat}
    (hn:Nat.blt dd X.n=true) (ht:X.tb.row t=some r) (hk:r.k = .slice e) (he:X.tb.row e=some re) (hz:cellsE re.zero=some zc) (hzl:zc.length=re.size) (ht2:X.tb.row t2=some r2) (hk2:r2.k = .slice e2) (hb1:Nat.ble 1 re.bytes=true) (hb2:Nat.ble re.bytes 65536=true)
    (hx:ev σ x=some s) (hy:ev σ y=some (.slice (some ⟨b2,0,none⟩) m cap2)) (ho:OwnAt e re.size L s n old L1) (hat:At L b2 (.cells ⟨cs⟩ te fz)) (hsub:subE cs 0 (m * re.size)=some news)
    (h1:news.all Value.oneCell'=true) (hm:1≤m) (hbig:n+m≤1073741824)
    (h:∀ b' j' junk',junk'.length=j' * re.size→R X all rest K ((dd,.slice (some ⟨b',0,none⟩) (n+m) (n+m+j'))::σ) ((b',.cells ⟨old++news++junk'⟩ e (0,0))::L1)) :
    R X all (⟨some dd,.call { callee:=.builtin .append,args:=#[x,y],argTypes:=#[t,t2] },ty,pos,af,none⟩::rest) K σ L:=by
  have hl:=(subE_spec hsub).1
  refine R.append hn ht hk he hz hzl ht2 hk2 hb1 hx hy rfl ho (fun w hw=>Holds.own hat (hl ▸ hsub) hw) hl h1 hm ?_ h
  have h3:=Nat.le_of_ble_eq_true hb2
  have:=Nat.mul_le_mul (show 2 * (n+m)+768≤2147484416 by omega) h3
  omega
/-- An own slice's rows,seen by one who is called. -/
theorem RdSl.own {α:Type} {v:α→List Value} {e sz:Nat} {ov:Ov} {rs:List α} {w0 w:World} {S:List Nat} {L:Lst} (hw:Hp w0 S L w) (hb:∀ x∈blkL e ov (fl v rs),x∈L) (hok:OvOk sz ov rs.length (fl v rs)) (hv:∀ a,(v a).length=sz) :
    RdSl w (match ov with|none=>none|some (b,_,_)=>some ⟨b,0,none⟩) v rs:=by
  cases ov with
  | none =>
    left
    have:=hok.2
    simpa using this
  | some q =>
    obtain ⟨b,j,junk⟩:=q
    right
    refine ⟨b,0,rfl,fun k hk=>?_⟩
    have:=hw.get b (.cells ⟨fl v rs++junk⟩ e (0,0)) (hb _ (by simp [blkL]))
    simp only [World.cell?,this]
    simp [hk,List.getElem?_append_left]
section
variable {X:Cx} {σ:Env} {L C:Lst} {all:Array Oper} {rest:List Oper} {K:Env→Lst→Prop} {op:Op} {type:TypeId} {pos:String} {after:Array Edge} {j dj:Nat} {want:Bool}
end
theorem At.right {A B:Lst} {b:Nat} {o:Obj} (h:At B b o):At (A++B) b o:=by
  induction A with
  | nil=>exact h
  | cons x A ih=>exact .tail ih
theorem Upd.right {A B B':Lst} {b:Nat} {o o':Obj} (h:Upd B b o o' B'):Upd (A++B) b o o' (A++B'):=by
  induction A with
  | nil=>exact h
  | cons x A ih=>exact .tail ih
theorem Del.right {A B B':Lst} {b:Nat} {o:Obj} (h:Del B b o B'):Del (A++B) b o (A++B'):=by
  induction A with
  | nil=>exact h
  | cons x A ih=>exact .tail ih
theorem OwnAt.right {e sz n:Nat} {A L L1:Lst} {v:Value} {xs:List Value} (h:OwnAt e sz L v n xs L1):OwnAt e sz (A++L) v n xs (A++L1):=by
  cases h with
  | nil=>exact .nil _
  | blk h1 h2 h3=>exact .blk h1.right h2 h3
theorem OwnAt.mid {e sz n:Nat} {ov:Ov} {xs:List Value} {B:Lst} (h:OvOk sz ov n xs):OwnAt e sz (blkL e ov xs++B) (slV ov n) n xs B:=by
  obtain ⟨h1,h2⟩:=h
  cases ov with
  | none =>
    subst h2
    have:xs=[]:=by cases xs;rfl;simp at h1
    subst this
    exact .nil B
  | some q=>obtain ⟨b,j,junk⟩:=q;exact .blk .head h1 h2

theorem Ok1.lenMm {X:Cx} {σ:Env} {L:Lst} {t kt et:TypeId} {r:TRow} {κ α:Type} {kv:κ→Value} {vv:α→Value} {ms:Ms κ α} {clk b:Nat} {x:Operand} {ty:TypeId} {pos:String} {af:Array Edge} {d:Option Nat} {g:Option (Nat × Bool)}
    (hkt:X.tb.row t=some r) (hk:r.k = .map kt et) (hx:ev σ x=some (.map (some b))) (hat:At L b (mobj kv vv ms clk)):Ok1 X ⟨d,.call { callee:=.builtin .len,args:=#[x],argTypes:=#[t] },ty,pos,af,g⟩ σ L (.int .i64 ms.length):=by
  classical exact Ok1.lenM hkt hk hx hat
/-- The part seg lies in L;the rest is L1. -/
inductive Ext:Lst→Lst→Lst→Prop where
  | none (L:Lst):Ext L [] L
  | all (L:Lst):Ext L L []
  | here (A B:Lst):Ext (A++B) A B
  | one (x:Nat × Obj) (L:Lst):Ext (x::L) [x] L
  | cons (x:Nat × Obj) {L s L1:Lst}:Ext L s L1→Ext (x::L) s (x::L1)
  | app (A:Lst) {L s L1:Lst}:Ext L s L1→Ext (A++L) s (A++L1)
  | two (x:Nat × Obj) {L L1 s L2:Lst}:Ext L [x] L1→Ext L1 s L2→Ext L (x::s) L2
theorem Ext.perm {L s L1:Lst} (h:Ext L s L1):(s++L1).Perm L:=by
  induction h with
  | none L=>exact .refl _
  | all L=>simp
  | here A B=>exact .refl _
  | one x L=>exact .refl _
  | cons x _ ih=>exact List.perm_middle.trans (ih.cons x)
  | @app A L s L1 _ ih =>
    have h1:(s++(A++L1)).Perm (A++(s++L1)):=by
      rw [← List.append_assoc,← List.append_assoc]
      exact List.perm_append_comm.append_right L1
    exact h1.trans (ih.append_left A)
  | two x _ _ ih1 ih2=>exact (ih2.cons x).trans ih1
/-- Of L,L' is kept. -/
inductive Keep:Lst→Lst→Prop where
  | nil (L:Lst):Keep L []
  | last {L s L1:Lst}:Ext L s L1→Keep L s
  | cons {x:Nat × Obj} {L L1 R:Lst}:Ext L [x] L1→Keep L1 R→Keep L (x::R)
  | app {L s L1 R:Lst}:Ext L s L1→Keep L1 R→Keep L (s++R)
theorem Keep.perm {L L':Lst} (h:Keep L L'):∃ r,(L'++r).Perm L:=by
  induction h with
  | nil L=>exact ⟨L,.refl _⟩
  | last h=>exact ⟨_,h.perm⟩
  | cons h _ ih=>obtain ⟨r,hr⟩:=ih;exact ⟨r,(hr.cons _).trans h.perm⟩
  | app h _ ih=>obtain ⟨r,hr⟩:=ih;exact ⟨r,by rw [List.append_assoc];exact (hr.append_left _).trans h.perm⟩
theorem Hp.keep {w0 w:World} {S:List Nat} {L L':Lst} (h:Hp w0 S L w) (hk:Keep L L'):Hp w0 S L' w:=by
  obtain ⟨r,hr⟩:=hk.perm
  exact (h.perm hr).sub (List.sublist_append_left _ _)

section
variable {X:Cx} {σ:Env} {L Li Lr:Lst} {Q:Post} {c x y:Code}
theorem T.weakK {σ':Env} {L':Lst} (h:T X c Q σ' L') (hk:Keep L L') (hs:Sub σ' σ):T X c Q σ L:=⟨fun a w ha hw=>h.run a w (ha.sub hs) (hw.keep hk)⟩
theorem T.loopK {α:Type} (I:α→Prop) (σi:α→Env) (Li:α→Lst) (μ:α→Nat) (i0:α) (h0:I i0) (hs:Sub (σi i0) σ) (hL:Keep L (Li i0))
    (hr:∀ i,I i→T X c (thenQ (fun σ L=>∃ j,I j∧μ j < μ i∧Sub (σi j) σ∧Keep L (Li j)) Q) (σi i) (Li i)):T X (.loop c) Q σ L:=by
  refine ⟨fun a w ha hw=>?_⟩
  have key:∀ m i,I i→μ i < m→∀ a w,Mod X.n a (σi i)→Hp X.w0 X.S (Li i) w→Code.rounds X.P c (X.lift Q) m a w:=by
    intro m
    induction m with
    | zero=>intro i _ h;omega
    | succ m ih =>
      intro i hi hm a w ha hw
      rw [rounds_succ]
      refine wp_mono ((hr i hi).run a w ha hw) fun e a w ⟨σ,L,h1,h2,h3⟩=>?_
      cases e with
      | normal =>
        obtain ⟨j,h4,h5,h6,h7⟩:=h3
        exact ih j h4 (by omega) a w (h1.sub h6) (h2.keep h7)
      | _=>exact ⟨σ,L,h1,h2,h3⟩
  exact wp_loop_rounds (μ i0+1) (key _ i0 h0 (by omega) a w (ha.sub hs) (hw.keep hL))
theorem T.meetK {α:Type} (I:α→Prop) (σi:α→Env) (Li:α→Lst)
    (h:T X x (thenQ (fun σ L=>∃ j,I j∧Sub (σi j) σ∧Keep L (Li j)) Q) σ L) (hk:∀ i,I i→T X y Q (σi i) (Li i)):T X (.seq x y) Q σ L :=
  T.seq (h.mono fun e σ L hq=>by
    cases e with
    | normal =>
      obtain ⟨j,h1,h2,h3⟩:=hq
      exact T.weakK (hk j h1) h3 h2
    | _=>exact hq)
end
section
variable {X:Cx} {σ:Env} {L Li Lr:Lst} {dd:Nat} {ty:TypeId} {pos:String} {af:Array Edge} {f:FuncId} {ats:Array TypeId}
variable {all:Array Oper} {rest:List Oper} {K:Env→Lst→Prop} {xs:List Operand} {vs:List Value}
theorem R.callE {R1:Value→Lst→Prop} (he:X.tb.fns.contains f=true) (hx:evs σ xs=some vs) (hn:Nat.blt dd X.n=true) (hp:Ext L Li Lr) (hc:∀ w,Hp X.w0 X.S L w→CallM X.P f vs Li w R1) (h:∀ v Lo,R1 v Lo→R X all rest K ((dd,v)::σ) (Lo++Lr)) :
    R X all (⟨some dd,.call { callee:=.value (.func f),args:=xs.toArray,argTypes:=ats },ty,pos,af,none⟩::rest) K σ L :=
  R.call (α:=Value × Lst) (v:=fun v=>v.1) (L':=fun v=>v.2++Lr) (I:=fun v=>R1 v.1 v.2) he hx hn (fun w hw=>by
    have hw2:=hw.perm hp.perm
    have hin:Hp w (blks Li) Li w:=⟨.refl _ _,fun b o hm=>hw2.get b o (List.mem_append_left _ hm),(List.nodup_append.1 (by have:=hw2.nod;rwa [List.map_append] at this)).1,fun b o hm=>.inr (List.mem_map.2 ⟨(b,o),hm,rfl⟩)⟩
    exact ((hc w hw).run hin).mono fun e w' ⟨v,Lo,h1,h2,h3⟩=>⟨(v,Lo),h1,hw2.callM h3,h2⟩) fun v hv=>h v.1 v.2 hv
theorem Ext.mem {L s L1:Lst} (h:Ext L s L1):∀ x∈s,x∈L:=fun x hx=>h.perm.subset (List.mem_append_left _ hx)
/-- What is read by one who is called lies in none of the blocks that he may write. -/
theorem RdSl.off {w0 w:World} {S:List Nat} {L Li Lr:Lst} (hw:Hp w0 S L w) (he:Ext L Li Lr) {b:Nat} {o:Obj} (hm:(b,o)∈Lr):b ∉ blks Li:=by
  have h2:=(hw.perm he.perm).nod
  rw [List.map_append,List.nodup_append] at h2
  intro hb
  exact h2.2.2 b hb b (List.mem_map.2 ⟨(b,o),hm,rfl⟩) rfl
theorem enterK {P:Program} (tb:Tb P) {f:FuncId} {fn:Func} {c:Code} {vs:List Value} {n:Nat} {R1:Value→Lst→Prop} {w:World} {L:Lst}
    (hf:P.funcs[f]? = some fn) (hb:fn.body=some c) (hn:fn.ntmps=n) (hvn:Nat.ble vs.length n=true)
    (h:T ⟨P,tb,n,w,blks L⟩ c (retQ ⟨P,tb,n,w,blks L⟩ fn.results.toList fun v Lo=>∃ L',Keep Lo L' ∧ R1 v L') (number 0 vs) L):CallM P f vs L w R1 :=
  ⟨fun hw=>(enter hf hb hn (Nat.le_of_ble_eq_true hvn) hw h).mono fun e w' ⟨v,Lo,h1,⟨L',h2,h3⟩,h4⟩=>⟨v,L',h1,h3,h4.keep h2⟩⟩
end
theorem KeyT.intK {P:Program} (tb:Tb P) {t:Nat} {r:TRow} {k:IntKind} (ht:tb.row t=some r) (hk:r.k = .int k):KeyT P t (fun z:Int=>.int k z):=by
  have hu:P.underlying t=some (.int k):=by have:=(tb.get ht).is;rw [hk] at this;exact this
  refine ⟨fun w a b=>⟨decide (a=b),?_,by simp⟩,fun w e a=>?_,fun a=>?_,⟨_,hu,?_⟩⟩
  · have hE:∀ n,(Op.equalIn (n+1) t (.int k a) (.int k b)).run P w = .ok (decide (a=b)) w:=by
      intro n
      rw [Op.equalIn]
      simp [run_underlying hu]
      rfl
    obtain ⟨n,hm⟩:∃ n,Op.maxDepth=n+1:=⟨_,rfl⟩
    simp [Op.equal,hm,hE]
  · obtain ⟨n,hm⟩:∃ n,10000=n+1:=⟨9999,rfl⟩
    rw [hm,Instr.checkKey]
    simp [run_underlying hu]
  · simp [Instr.sameBits]
  · first
      | exact .inl fun a b=>rfl
      | exact .inr fun a b=>⟨decide (a=b),by simp [Instr.sameNow];rfl,by simp⟩
section
variable {X:Cx} {σ:Env} {L Li Lr:Lst} {dd:Nat} {ty:TypeId} {pos:String} {af:Array Edge} {f:FuncId} {ats:Array TypeId} {c:Operand} {fa cb:List Value}
variable {all:Array Oper} {rest:List Oper} {K:Env→Lst→Prop} {xs:List Operand} {vs:List Value} {v:Value}
/-- The arguments' list of a call. -/
theorem evs_map {n:Nat} {a:Act} (ha:Mod n a σ):∀ {xs:List Operand} {vs:List Value},evs σ xs=some vs→xs.map a.eval=vs
  | [],vs,h=>by simp [evs] at h;simp [← h]
  | x :: xs,vs,h=>by
    simp only [evs] at h
    cases h1:ev σ x with
    | none=>simp [h1] at h
    | some u =>
      cases h2:evs σ xs with
      | none=>simp [h1,h2] at h
      | some us =>
        simp [h1,h2] at h
        subst h
        simp [ha.ev h1,evs_map ha h2]
theorem R.callF {α:Type} {v:α→Value} {L':α→Lst} {I:α→Prop}
    (hcv:ev σ c=some (.func (.func f) fa.toArray cb.toArray)) (he:X.tb.fns.contains f=true) (hx:evs σ xs=some vs) (hn:Nat.blt dd X.n=true)
    (hc:∀ w,Hp X.w0 X.S L w→Calls X.P f (fa++vs++cb).toArray w fun e w'=>∃ x,e = .returned (v x)∧Hp X.w0 X.S (L' x) w' ∧ I x)
    (h:∀ x,I x→R X all rest K ((dd,v x)::σ) (L' x)) :
    R X all ({ dst:=some dd,op:=.call { callee:=.value c,args:=xs.toArray,argTypes:=ats },type:=ty,pos:=pos,after:=af,guard:=none }::rest) K σ L:=by
  refine ⟨fun a w ha hw=>wpList_plain rfl fun K' hK'=>?_⟩
  unfold Oper.wp
  have hr:(execOp a.eval { dst:=some dd,op:=.call { callee:=.value c,args:=xs.toArray,argTypes:=ats },type:=ty,pos:=pos,after:=af,guard:=none }).run X.P w = .ok (.enter f (fa++vs++cb).toArray) w:=by
    have:=X.tb.ent he (fa++vs++cb).toArray w
    have hm:xs.toArray.map a.eval=vs.toArray:=by rw [List.map_toArray,evs_map ha hx]
    simp only [execOp,resolve,ha.ev hcv,hm,Deferred.ofValue,Sem.run_bind,Sem.run_pure,Result.andThen_ok,invoke,List.append_toArray]
    exact this
  rw [hr,Oper.upon_enter]
  refine (hc w hw).mono fun e w' ⟨x,he,hw',hx⟩=>?_
  subst he
  exact hK' _ _ ((h x hx).run _ _ (ha.put (blt_lt hn) _) hw')
/-- A function value,called by its contract: one value,nothing old has changed. -/
theorem R.callFV (hcv:ev σ c=some (.func (.func f) fa.toArray cb.toArray)) (he:X.tb.fns.contains f=true) (hx:evs σ xs=some vs) (hn:Nat.blt dd X.n=true)
    (hc:∀ w,Hp X.w0 X.S L w→CallW X.P f (fa++vs++cb) w fun u _=>u=v) (h:R X all rest K ((dd,v)::σ) L) :
    R X all ({ dst:=some dd,op:=.call { callee:=.value c,args:=xs.toArray,argTypes:=ats },type:=ty,pos:=pos,after:=af,guard:=none }::rest) K σ L :=
  R.callF (α:=Unit) (v:=fun _=>v) (L':=fun _=>L) (I:=fun _=>True) hcv he hx hn (fun w hw=>(hc w hw).run.mono fun e w' ⟨u,h1,h2,h3⟩=>⟨(),by rw [h1,h2],hw.step h3,trivial⟩) fun _ _=>h
theorem R.callFP (hcv:ev σ c=some (.func (.func f) fa.toArray cb.toArray)) (he:X.tb.fns.contains f=true) (hx:evs σ xs=some vs) (hn:Nat.blt dd X.n=true)
    (hc:CallP X.P f (fa++vs++cb) v) (h:R X all rest K ((dd,v)::σ) L) :
    R X all ({ dst:=some dd,op:=.call { callee:=.value c,args:=xs.toArray,argTypes:=ats },type:=ty,pos:=pos,after:=af,guard:=none }::rest) K σ L :=
  R.callFV hcv he hx hn (fun w hw=>⟨(hc.run w).mono fun e w' ⟨h1,h2⟩=>⟨_,h1,rfl,h2⟩⟩) h
end
section
variable {X:Cx} {σ:Env} {L:Lst} {dd c:Nat} {ty t:TypeId} {pos:String} {af:Array Edge} {r:TRow} {x:Operand} {all:Array Oper} {rest:List Oper} {K:Env→Lst→Prop}
end
/-- A row of an own slice (or a part of it),read back. -/
theorem own_row {α:Type} {v:α→List Value} {rs:List α} {sz:Nat} (hv:∀ a,(v a).length=sz) {j:Nat} {a:α} (hr:rs[j]? = some a) {k:Nat} (hk:k < sz) {junk:List Value}:(fl v rs++junk)[j * sz+k]? = (v a)[k]?:=by
  have h1:=(List.getElem?_eq_some_iff.1 hr).1
  have h2:=Nat.mul_le_mul_right sz (show j+1≤rs.length from h1)
  rw [Nat.add_mul,Nat.one_mul] at h2
  rw [List.getElem?_append_left (by rw [fl_len hv];omega),fl_get hv hr hk]
section
variable {X:Cx} {L:Lst} {t:TypeId} {r:TRow} {α:Type} {v:α→List Value} {rs:List α} {sz b j f o:Nat} {a:α} {junk:List Value} {te:TypeId} {fz:Nat × Nat} {u:Value} {us:List Value}
theorem Ld.ownrow1 (hat:At L b (.cells ⟨fl v rs++junk⟩ te fz)) (hv:∀ a,(v a).length=sz) (hr:rs[j]? = some a) (ho:o=j * sz+f) (ht:X.tb.row t=some r) (hk:r.k.agg=some false) (hf:(v a)[f]? = some u):Ld X L t ⟨b,o,none⟩ u :=
  .own1 ht hk hat (by rw [ho,own_row hv hr (by rw [← hv a];exact (List.getElem?_eq_some_iff.1 hf).1)];exact hf)
theorem Ld.ownrowk (hat:At L b (.cells ⟨fl v rs++junk⟩ te fz)) (hv:∀ a,(v a).length=sz) (hr:rs[j]? = some a) (ho:o=j * sz+f) (ht:X.tb.row t=some r) (hk:r.k.agg=some true) (hf:subE (v a) f r.size=some us):Ld X L t ⟨b,o,none⟩ (.agg ⟨us⟩):=by
  obtain ⟨h1,h2⟩:=subE_spec hf
  refine .ofk ht hk h1 fun w hw i hi=>?_
  have h3:=h2 i hi
  have hlt:f+i < sz:=by
    rcases Nat.lt_or_ge (f+i) sz with h|h
    · exact h
    · rw [List.getElem?_eq_none (by rw [hv];exact h),List.getElem?_eq_getElem (by omega)] at h3;cases h3
  rw [hat.cell hw,ho,show j * sz+f+i=j * sz+(f+i) by omega,own_row hv hr hlt,h3]
end
theorem CallP.at {P:Program} {f:FuncId} {vs:List Value} {v:Value} (h:CallP P f vs v) (w:World):CallW P f vs w fun u _=>u=v:=⟨(h.run w).mono fun e w' ⟨h1,h2⟩=>⟨_,h1,rfl,h2⟩⟩
section
variable {X:Cx} {σ:Env} {L L':Lst} {dd b e:Nat} {ty:TypeId} {pos:String} {af:Array Edge} {d:Option Nat} {g:Option (Nat × Bool)} {x y z:Operand} {t t2 kt et:TypeId} {r re:TRow}
variable {all:Array Oper} {rest:List Oper} {K:Env→Lst→Prop}
variable {κ:Type} [DecidableEq κ] {kv:κ→Value} {vk:Value}
end
def ovp (ov:Ov):Option Addr:=match ov with|none=>none|some (b,_,_)=>some ⟨b,0,none⟩
def ovc (ov:Ov) (n:Nat):Nat:=match ov with|none=>0|some (_,j,_)=>n+j
theorem slV_eq {sz n:Nat} {ov:Ov} {xs:List Value} (h:OvOk sz ov n xs):slV ov n = .slice (ovp ov) n (ovc ov n):=by
  cases ov with
  | none=>have:n=0:=h.2;subst this;rfl
  | some x=>rfl
theorem RdSl.own' {α:Type} {v:α→List Value} {e sz:Nat} {ov:Ov} {rs:List α} {w0 w:World} {S:List Nat} {L:Lst} (hw:Hp w0 S L w) (hb:∀ x∈blkL e ov (fl v rs),x∈L) (hok:OvOk sz ov rs.length (fl v rs)) (hv:∀ a,(v a).length=sz):RdSl w (ovp ov) v rs:=by
  have:=RdSl.own hw hb hok hv
  cases ov<;>exact this
theorem Ok1.lenOv {X:Cx} {σ:Env} {L:Lst} {t e:TypeId} {r:TRow} {ov:Ov} {n sz:Nat} {xs:List Value} {x:Operand} {ty:TypeId} {pos:String} {af:Array Edge} {d:Option Nat} {g:Option (Nat × Bool)}
    (ht:X.tb.row t=some r) (hk:r.k = .slice e) (hx:ev σ x=some (slV ov n)) (hok:OvOk sz ov n xs):Ok1 X ⟨d,.call { callee:=.builtin .len,args:=#[x],argTypes:=#[t] },ty,pos,af,g⟩ σ L (.int .i64 n):=by
  cases ov with
  | none=>have:=hok.2;subst this;exact Ok1.lenS ht hk hx
  | some q=>obtain ⟨b,j,junk⟩:=q;exact Ok1.lenS ht hk hx
theorem RdSl.of {α:Type} {v:α→List Value} {rs:List α} {w0 w:World} {S:List Nat} {L:Lst} {b:Nat} {e:TypeId} {fz:Nat × Nat} {cs junk:List Value} (hw:Hp w0 S L w) (hat:At L b (.cells ⟨cs⟩ e fz)) (hc:cs=fl v rs++junk):RdSl w (some ⟨b,0,none⟩) v rs:=by
  subst hc
  right
  refine ⟨b,0,rfl,fun k hk=>?_⟩
  have:=hw.get b _ hat.mem
  simp only [World.cell?,this]
  simp [hk,List.getElem?_append_left]
theorem Off.of {w0 w:World} {S:List Nat} {L Li Lr:Lst} {b k:Nat} {o:Obj} (hw:Hp w0 S L w) (he:Ext L Li Lr) (hat:At Lr b o):Off (some ⟨b,k,none⟩) (blks Li):=by
  intro a ha
  cases ha
  exact RdSl.off hw he hat.mem
theorem RdSl.chg {α:Type} {v:α→List Value} {rs:List α} {w w':World} {S:List Nat} {p:Option Addr} (h:RdSl w p v rs) (hc:Chg S w w') (ho:Off p S):RdSl w' p v rs:=by
  rcases h with h|⟨b,o,hp,h⟩
  · exact .inl h
  · refine .inr ⟨b,o,hp,fun k hk=>?_⟩
    have h1:=h k hk
    have h2:=ho _ hp
    rw [List.getElem?_eq_getElem hk] at h1 ⊢
    exact hc.cell h1 h2
theorem Off.nil (p:Option Addr):Off p []:=fun _ _=>List.not_mem_nil
theorem fl_app {α:Type} (v:α→List Value) (xs ys:List α):fl v (xs++ys)=fl v xs++fl v ys:=by simp [fl]
theorem Holds.ov {w0 w:World} {S:List Nat} {L:Lst} {e2 sz m:Nat} {ov2:Ov} {xs:List Value} (hok:OvOk sz ov2 m xs) (hb:∀ x∈blkL e2 ov2 xs,x∈L) (hw:Hp w0 S L w):Holds w (slV ov2 m) xs:=by
  cases ov2 with
  | none =>
    have h2:m=0:=hok.2
    have h1:=hok.1
    subst h2
    have:xs=[]:=by cases xs;rfl;simp at h1
    subst this
    exact rfl
  | some x =>
    obtain ⟨b,j,junk⟩:=x
    have:=hw.get b _ (hb _ List.mem_cons_self)
    intro i hi
    simp only [World.cell?,this,Nat.zero_add]
    simp [List.getElem?_append_left,hi]
section
variable {X:Cx} {σ:Env} {L Lr:Lst} {dd:Nat} {ty:TypeId} {pos:String} {af:Array Edge} {x y:Operand} {t t2 e:TypeId} {r r2 re:TRow}
variable {all:Array Oper} {rest:List Oper} {K:Env→Lst→Prop}
theorem append_none {P:Program} (tb:Tb P) {w:World} {ov:Ov} {n cap2 e2:Nat} {p2:Option Addr} (ht:tb.row t=some r) (hk:r.k = .slice e) (he:tb.row e=some re) (ht2:tb.row t2=some r2) (hk2:r2.k = .slice e2) (hn:ov=none→n=0) :
    (Builtin.append_ #[t,t2] ty #[slV ov n,.slice p2 0 cap2]).run P w = .ok (slV ov n) w:=by
  have hu:P.underlying t=some (.slice e):=by have:=(tb.get ht).is;rw [hk] at this;exact this
  have hu2:P.underlying t2=some (.slice e2):=by have:=(tb.get ht2).is;rw [hk2] at this;exact this
  have hf:(Builtin.firstCells re.size 0 (.slice p2 0 cap2)).run P w = .ok #[] w:=by
    cases p2<;>simp [Builtin.firstCells,loadCells,loadCellsFrom]
  unfold Builtin.append_
  cases ov with
  | none =>
    simp [slV,run_underlying hu,run_underlying hu2,(tb.get he).size,Builtin.lenOf,hf]
  | some q =>
    obtain ⟨b,j,junk⟩:=q
    simp [slV,run_underlying hu,run_underlying hu2,(tb.get he).size,Builtin.lenOf,hf,storeCells]
theorem append_none' {P:Program} (tb:Tb P) {w:World} {ov:Ov} {n e2:Nat} {s2:Value} (ht:tb.row t=some r) (hk:r.k = .slice e) (he:tb.row e=some re) (ht2:tb.row t2=some r2) (hk2:r2.k = .slice e2) (hn:ov=none→n=0) (hs2:Builtin.lenOf s2=Pure.pure 0) (hh:Holds w s2 []) :
    (Builtin.append_ #[t,t2] ty #[slV ov n,s2]).run P w = .ok (slV ov n) w:=by
  have hu:P.underlying t=some (.slice e):=by have:=(tb.get ht).is;rw [hk] at this;exact this
  have hu2:P.underlying t2=some (.slice e2):=by have:=(tb.get ht2).is;rw [hk2] at this;exact this
  have hf:(Builtin.firstCells re.size 0 s2).run P w = .ok #[] w:=first_run hh (by simp)
  unfold Builtin.append_
  cases ov with
  | none =>
    simp [slV,run_underlying hu,run_underlying hu2,(tb.get he).size,hs2,hf]
  | some q =>
    obtain ⟨b,j,junk⟩:=q
    simp [slV,run_underlying hu,run_underlying hu2,(tb.get he).size,hs2,hf,storeCells]
/-- append(s,y...): s a slice of one's own,y any slice of which is known what it holds. -/
theorem R.appendH {ov:Ov} {n m e2:Nat} {old news zc:List Value} {s2:Value} (hn:Nat.blt dd X.n=true) (ht:X.tb.row t=some r) (hk:r.k = .slice e) (he:X.tb.row e=some re) (hz:cellsE re.zero=some zc) (hzl:zc.length=re.size) (ht2:X.tb.row t2=some r2) (hk2:r2.k = .slice e2) (hb1:Nat.ble 1 re.bytes=true) (hb2:Nat.ble re.bytes 65536=true)
    (hx:ev σ x=some (slV ov n)) (hy:ev σ y=some s2) (hs2:Builtin.lenOf s2=Pure.pure m) (hok:OvOk re.size ov n old) (hp:Ext L (blkL e ov old) Lr) (hh:∀ w,Hp X.w0 X.S L w→Holds w s2 news) (hlen:news.length=m * re.size)
    (h1:news.all Value.oneCell'=true) (hbig:n+m≤1073741824)
    (h:∀ ov',OvOk re.size ov' (n+m) (old++news)→R X all rest K ((dd,slV ov' (n+m))::σ) (blkL e ov' (old++news)++Lr)) :
    R X all (⟨some dd,.call { callee:=.builtin .append,args:=#[x,y],argTypes:=#[t,t2] },ty,pos,af,none⟩::rest) K σ L :=
  R.value rfl rfl hn fun a w ha hw=>by
    have hw2:=hw.perm hp.perm
    rcases Nat.eq_zero_or_pos m with h0|h0
    · subst h0
      have hnews:news=[]:=by cases news;rfl;simp at hlen
      subst hnews
      have hrun:=append_none' X.tb (w:=w) (ty:=ty) (n:=n) (ov:=ov) ht hk he ht2 hk2 (fun e=>by subst e;exact hok.2) hs2 (hh w hw)
      refine ⟨slV ov n,w,blkL e ov (old++[])++Lr,?_,by rw [List.append_nil];exact hw2,h ov (by rw [List.append_nil];exact hok)⟩
      simp [execOp,resolve,ha.ev hx,ha.ev hy,invoke,builtin,hrun]
    · have h3:=Nat.le_of_ble_eq_true hb2
      have hbig':(2 * (n+m)+768) * re.bytes≤281474976710656:=by
        have:=Nat.mul_le_mul (show 2 * (n+m)+768≤2147484416 by omega) h3
        omega
      obtain ⟨b',j',junk',w',g1,g2,g3⟩:=append_run X.tb (ty:=ty) ht hk he hz hzl ht2 hk2 hw2 (OwnAt.mid hok) hs2 (hh w hw) hlen h1 h0 hbig' (Nat.le_of_ble_eq_true hb1)
      refine ⟨slV (some (b',j',junk')) (n+m),w',_,?_,g3,h (some (b',j',junk')) ⟨by rw [List.length_append,hok.1,hlen,Nat.add_mul],g1⟩⟩
      simp [execOp,resolve,ha.ev hx,ha.ev hy,invoke,builtin,g2]
      rfl
theorem R.buildSlice0 (hn:Nat.blt dd X.n=true) (ht:X.tb.row t=some r) (hk:r.k = .slice e) (he:X.tb.row e=some re)
    (h:∀ b,R X all rest K ((dd,slV (some (b,0,[])) 0)::σ) ((b,.cells ⟨[]⟩ e (0,0))::L)):R X all (⟨some dd,.buildSlice t 0 #[],ty,pos,af,none⟩::rest) K σ L :=
  R.value rfl rfl hn fun a w ha hw=>by
    refine ⟨.slice (some ⟨w.heap.size,0,none⟩) 0 0,w.alloc (.cells ⟨[]⟩ e (0,0)),_,?_,hw.alloc _,h _⟩
    have h2:=(X.tb.get ht).is
    rw [hk] at h2
    simp only [TK.is] at h2
    have h3:Array.range 0 = #[]:=by apply Array.toList_inj.1;simp
    simp [execOp,Instr.buildSlice,run_underlying h2,(X.tb.get he).size,Instr.fill,newRow,run_newObj,h3]
theorem R.make1 {n:Nat} {k k':IntKind} {z':Value} (hn:Nat.blt dd X.n=true) (ht:X.tb.row t=some r) (hk:r.k = .slice e) (he:X.tb.row e=some re) (hz:cellsE re.zero=some [z']) (hs:Nat.beq re.size 1=true) (hb:Nat.ble re.bytes 65536=true)
    (hx:ev σ x=some (.int k n)) (hy:ev σ y=some (.int k' n)) (hle:n≤1073741824)
    (h:∀ b,R X all rest K ((dd,.slice (some ⟨b,0,none⟩) n n)::σ) ((b,.cells ⟨List.replicate n z'⟩ e (0,0))::L)):R X all (⟨some dd,.makeSlice t x y,ty,pos,af,none⟩::rest) K σ L :=
  R.value rfl rfl hn fun a w ha hw=>by
    have hu:X.P.underlying t=some (.slice e):=by have:=(X.tb.get ht).is;rw [hk] at this;exact this
    obtain ⟨i,hi,hib⟩:∃ i,X.P.info? e=some i∧i.bytes=re.bytes:=by
      have:=(X.tb.get he).bytes
      cases h:X.P.info? e with
      | none=>rw [h] at this;cases this
      | some i=>rw [h] at this;exact ⟨i,rfl,by simpa using this⟩
    have hti:∀ w,(typeInfo e).run X.P w = .ok i w:=fun w=>by simp [typeInfo,hi]
    have hzc:=cellsE_eq hz
    have hs1:=Nat.eq_of_beq_eq_true hs
    have hb1:=Nat.le_of_ble_eq_true hb
    have hwr:IntKind.i64.wrap (n:Int)=n:=IntWalk.i64_in _ ⟨by omega,by omega⟩
    have hlt:¬ ((re.bytes:Int) * (n:Int) > 2 ^ 48):=by
      have:re.bytes * n≤65536 * 1073741824:=Nat.mul_le_mul hb1 hle
      have h9:((re.bytes * n:Nat):Int)=(re.bytes:Int) * (n:Int):=by simp
      have h10:(2:Int) ^ 48=281474976710656:=by decide
      omega
    have hcells:(Array.range (n * 1)).map (fun i=>(Array.mk [z'])[i % (Array.mk [z']).size]!)=(⟨List.replicate n z'⟩:Array Value):=by
      apply Array.ext_getElem?
      intro j
      by_cases hj:j < n<;>simp [Array.getElem?_map,Array.getElem?_range,List.getElem?_replicate,hj,Nat.mod_one]
    refine ⟨.slice (some ⟨w.heap.size,0,none⟩) n n,w.alloc (.cells ⟨List.replicate n z'⟩ e (0,0)),_,?_,hw.alloc _,h _⟩
    have hai:∀ (k:IntKind) (w:World),(asInt (.int k n)).run X.P w = .ok (n:Int) w:=fun k w=>by simp [asInt,asIntOf]
    have hlt':¬ (2 ^ 48 < (re.bytes:Int) * (n:Int)):=hlt
    simp only [execOp,ha.ev hx,ha.ev hy,Instr.makeSlice,Sem.run_bind,run_underlying hu,Result.andThen_ok,hai,hti,hib,hwr,gt_iff_lt,hlt',show ¬ ((n:Int) < 0) by omega,Int.lt_irrefl,decide_false,Bool.or_self,Bool.false_eq_true,if_false,Sem.run_pure,run_askRoom,(X.tb.get he).size,hs1,Int.toNat_natCast,newRow,run_newObj]
    by_cases h0:n=0
    · subst h0
      have h3:Array.range (0 * 1) = #[]:=by apply Array.toList_inj.1;simp
      simp [h3]
    · have hne:¬ n * 1=0:=by omega
      simp only [if_neg hne,Sem.run_bind,(X.tb.get he).zero,hzc,Result.andThen_ok,Sem.run_pure,run_newObj,hcells]
      rfl
end
section
variable {X:Cx} {all:Array Oper} {C:Lst} {fuel:Nat} {listed:Array Bool} {K:Env→Lst→Prop} {σ:Env}
end
section
variable {α:Type} {v:α→List Value} {sz:Nat}
theorem fl_takeG (hv:∀ a,(v a).length=sz) (l:List α) (i:Nat):(fl v l).take (i * sz)=fl v (l.take i):=by
  induction l generalizing i with
  | nil=>simp [fl]
  | cons a l ih =>
    cases i with
    | zero=>simp [fl]
    | succ i =>
      have:=ih i
      simp only [fl,List.map_cons,List.flatten_cons,List.take_succ_cons] at this ⊢
      rw [Nat.add_mul,List.take_append,← this,hv,List.take_of_length_le (by rw [hv];omega)]
      congr 2
      omega
theorem fl_dropG (hv:∀ a,(v a).length=sz) (l:List α) (i:Nat):(fl v l).drop (i * sz)=fl v (l.drop i):=by
  induction l generalizing i with
  | nil=>simp [fl]
  | cons a l ih =>
    cases i with
    | zero=>simp [fl]
    | succ i =>
      have:=ih i
      simp only [fl,List.map_cons,List.flatten_cons,List.drop_succ_cons] at this ⊢
      rw [Nat.add_mul,List.drop_append,← this,hv,List.drop_of_length_le (by rw [hv];omega),List.nil_append]
      congr 1
      omega
theorem fl_cut (l:List α) {i:Nat} {x:α} (h:l[i]? = some x):fl v l=fl v (l.take i)++(v x++fl v (l.drop (i+1))):=by
  obtain ⟨hi,rfl⟩:=List.getElem?_eq_some_iff.1 h
  conv=>lhs;rw [← List.take_append_drop i l,List.drop_eq_getElem_cons hi]
  simp only [fl,List.map_append,List.map_cons,List.flatten_append,List.flatten_cons]
theorem fl_set (l:List α) {i:Nat} (a:α) (h:i < l.length):fl v (l.set i a)=fl v (l.take i)++(v a++fl v (l.drop (i+1))):=by
  have h1:(l.set i a)[i]? = some a:=by simp [h]
  rw [fl_cut _ h1]
  congr 2
  · rw [List.take_set_of_le (Nat.le_refl _)]
  · congr 1
    rw [List.drop_set_of_lt (by omega)]
/-- A whole row written. -/
theorem setE_row (hv:∀ a,(v a).length=sz) {l:List α} {i:Nat} (hi:i < l.length) (a:α) (junk:List Value):setE (fl v l++junk) (0+i * sz) (v a)=some (fl v (l.set i a)++junk):=by
  have h1:l[i]? = some l[i]:=List.getElem?_eq_getElem hi
  rw [fl_cut l h1,fl_set l a hi]
  have hl:(fl v (l.take i)).length=0+i * sz:=by rw [fl_len hv,List.length_take,Nat.min_eq_left (by omega)];omega
  have:=setE_mid (fl v (l.take i)) (vs:=v a) (junk:=v l[i]++fl v (l.drop (i+1))++junk) (by rw [List.length_append,List.length_append,hv,hv];omega)
  rw [hl] at this
  have e:fl v (l.take i)++(v l[i]++fl v (l.drop (i+1)))++junk=fl v (l.take i)++(v l[i]++fl v (l.drop (i+1))++junk):=by simp only [List.append_assoc]
  rw [e,this]
  congr 1
  rw [show (v l[i]++fl v (l.drop (i+1))++junk).drop (v a).length=fl v (l.drop (i+1))++junk by rw [List.append_assoc,List.drop_append,hv,List.drop_of_length_le (by rw [hv];omega),hv,Nat.sub_self];rfl]
  simp only [List.append_assoc]
end
theorem setE_one {v:Value}:∀ {cs:List Value} {o:Nat},o < cs.length→setE cs o [v]=some (cs.set o v)
  | [],o,h=>by simp at h
  | c::cs,0,h=>by cases cs<;>simp [setE]
  | c::cs,o+1,h=>by simp [setE,setE_one (by simpa using h)]
theorem RdSl.ofMem {α:Type} {v:α→List Value} {rs:List α} {w0 w:World} {S:List Nat} {L:Lst} {b:Nat} {e:TypeId} {fz:Nat × Nat} {cs junk:List Value} (hw:Hp w0 S L w) (hm:(b,Obj.cells ⟨cs⟩ e fz)∈L) (hc:cs=fl v rs++junk):RdSl w (some ⟨b,0,none⟩) v rs:=by
  subst hc
  right
  refine ⟨b,0,rfl,fun k hk=>?_⟩
  have:=hw.get b _ hm
  simp only [World.cell?,this]
  simp [hk,List.getElem?_append_left]
end Go.Proofs.YtcfdgnajepilbaaGreat
