/- Texts of the proof: Wi2, Sm1, Eng29, Rf1, Rf2, Sl3, Wr2, Pc1, Sl4, Sl6, Rv3, Rv4, Rv5, Rv6. -/
import Derived.Test.YtolnagbahceebaaGreatL17fb2
import Derived.Lib.RowBridge
import Derived.Test.YtolnagbahceebaaGreatShelf
import Derived.Shelf.SortM.Plain
import Derived.Shelf.SortM.SortNone
import Derived.Shelf.SlicesG.CompactI
set_option linter.unusedSimpArgs false
set_option linter.unusedVariables false
namespace Go.Proofs.YtolnagbahceebaaGreat
open Go.RowKit Go.Shelf
def len4 (n:Int):List Int:=[n / 16777216 % 256,n / 65536 % 256,n / 256 % 256,n % 256]
theorem len4_byt (n:Int):Byt (len4 n):=by
  intro y hy
  simp only [len4,List.mem_cons,List.not_mem_nil,or_false] at hy
  rcases hy with rfl|rfl|rfl|rfl<;>omega
theorem cellsE_slV (ov:Ov) (n:Nat):cellsE (slV ov n)=some [slV ov n]:=by cases ov<;>rfl
theorem one_slV (ov:Ov) (n:Nat):[slV ov n].all Value.oneCell'=true:=by cases ov<;>rfl
set_option maxRecDepth 100000
def numI (s:Nat) (n:Int):List Int:=match s with
  | 0=>[n % 256]
  | 1=>[n / 256 % 256,n % 256]
  | _=>len4 n
theorem num_byt (s:Nat) (n:Int):Byt (numI s n):=by
  unfold numI
  split
  · intro y hy;rw [List.mem_singleton.1 hy];omega
  · intro y hy;simp only [List.mem_cons,List.not_mem_nil,or_false] at hy;rcases hy with rfl|rfl<;>omega
  · exact len4_byt n
theorem width_ok (s v:Int) (h0:0≤s) (h1:s≤10) (h:IntKind.i64.wrap (1 * pw s.toNat)=v):CallP Tryz.prog 249 [.int .i64 s] (.int .i64 v):=by
  refine enterP (tb:=tb) Tryz.func249 rfl Tryz.ntmps249 rfl fun w=>?_
  have hb:s.toNat≤IntKind.i64.bits:=by show s.toNat≤64;omega
  repeat' (first|(apply R.is1;first|(apply R.isBin;(apply R.pure;exact rfl;(apply Ok1.shl;exact rfl;exact rfl;omega;exact hb;exact rfl)))|(apply R.pure;exact rfl;first|(apply Ok1.move;exact rfl)|(apply Ok1.assign;exact rfl)))|apply R.nil|(apply T.is;first|apply T.seq|apply T.region|apply T.ret))
  (apply RetOk.t;exact rfl)
  rw [h]
theorem Keep.eq1 {b:Nat} {e:TypeId} {fz:Nat × Nat} {A B:List Value} (h:A=B):Keep [(b,.cells ⟨A⟩ e fz)] [(b,.cells ⟨B⟩ e fz)]:=by subst h;(focus (repeat' first|exact Keep.nil _|exact Ext.one _ _|apply Keep.cons);done)
theorem number_ok (s:Nat) (n:Int) (hs:s=0 ∨ s=1 ∨ s=2) (h0:0≤n) (h1:n≤9223372036854775807) (w:World):CallM Tryz.prog 269 [.int .i64 s,.int .i64 n] [] w fun v L=>∃ b,v = .slice (some ⟨b,0,none⟩) (numI s n).length (numI s n).length∧L=[(b,.cells ⟨u8s (numI s n)⟩ 5 (0,0))]:=by
  have hc:IntKind.u64.wrap n=n:=wrap_u64 h0 (by omega)
  rcases hs with rfl|rfl|rfl
  · refine enterK (tb:=tb) Tryz.func269 rfl Tryz.ntmps269 rfl ?_
    repeat' (first|(apply R.is1;first|(apply R.make1 (n:=1);(iterate 9 exact rfl);omega;intro bt)|(apply R.isBin;(apply R.pure;exact rfl;first|(apply Ok1.shr;exact rfl;exact rfl;omega;exact Nat.le_of_ble_eq_true rfl;exact rfl)|(apply Ok1.add64;exact rfl;exact rfl;omega;omega)|(apply Ok1.sub64;exact rfl;exact rfl;omega;omega)|(apply Ok1.lss_t;exact rfl;exact rfl;omega)|(apply Ok1.lss_f;exact rfl;exact rfl;omega)|(apply Ok1.mul64;exact rfl;exact rfl;omega;omega)))|(apply R.isCall;first|apply R.callP rfl rfl rfl (width_ok 0 1 (by decide) (by decide) (by decide))|(apply R.pure;exact rfl;(apply Ok1.lenS;(iterate 3 exact rfl))))|(apply R.pure;exact rfl;first|(apply Ok1.move;exact rfl)|(apply Ok1.assign;exact rfl)|(apply Ok1.indexAddr;(iterate 5 exact rfl);omega;omega)|(apply Ok1.convU64;(iterate 5 exact rfl);omega;omega)|(apply Ok1.conv;(iterate 5 exact rfl))))|(apply R.is0;(apply R.store;(iterate 6 exact rfl);exact Upd.head;exact rfl))|apply R.nil|(apply T.is;first|apply T.rounds 2|apply T.seq|apply T.region|apply T.block|apply T.skip|apply T.exit|apply T.ret|(apply T.cond_t;exact rfl)|(apply T.cond_f;exact rfl)))
    (apply RetOk.t;exact rfl)
    refine ⟨_,?_,bt,rfl,rfl⟩
    simp only [u8_mod]
    apply Keep.eq1
    simp [numI,u8s,len4,pw]
  · refine enterK (tb:=tb) Tryz.func269 rfl Tryz.ntmps269 rfl ?_
    repeat' (first|(apply R.is1;first|(apply R.make1 (n:=2);(iterate 9 exact rfl);omega;intro bt)|(apply R.isBin;(apply R.pure;exact rfl;first|(apply Ok1.shr;exact rfl;exact rfl;omega;exact Nat.le_of_ble_eq_true rfl;exact rfl)|(apply Ok1.add64;exact rfl;exact rfl;omega;omega)|(apply Ok1.sub64;exact rfl;exact rfl;omega;omega)|(apply Ok1.lss_t;exact rfl;exact rfl;omega)|(apply Ok1.lss_f;exact rfl;exact rfl;omega)|(apply Ok1.mul64;exact rfl;exact rfl;omega;omega)))|(apply R.isCall;first|apply R.callP rfl rfl rfl (width_ok 1 2 (by decide) (by decide) (by decide))|(apply R.pure;exact rfl;(apply Ok1.lenS;(iterate 3 exact rfl))))|(apply R.pure;exact rfl;first|(apply Ok1.move;exact rfl)|(apply Ok1.assign;exact rfl)|(apply Ok1.indexAddr;(iterate 5 exact rfl);omega;omega)|(apply Ok1.convU64;(iterate 5 exact rfl);omega;omega)|(apply Ok1.conv;(iterate 5 exact rfl))))|(apply R.is0;(apply R.store;(iterate 6 exact rfl);exact Upd.head;exact rfl))|apply R.nil|(apply T.is;first|apply T.rounds 3|apply T.seq|apply T.region|apply T.block|apply T.skip|apply T.exit|apply T.ret|(apply T.cond_t;exact rfl)|(apply T.cond_f;exact rfl)))
    (apply RetOk.t;exact rfl)
    refine ⟨_,?_,bt,rfl,rfl⟩
    simp only [u8_mod]
    apply Keep.eq1
    simp [numI,u8s,len4,pw]
  · refine enterK (tb:=tb) Tryz.func269 rfl Tryz.ntmps269 rfl ?_
    repeat' (first|(apply R.is1;first|(apply R.make1 (n:=4);(iterate 9 exact rfl);omega;intro bt)|(apply R.isBin;(apply R.pure;exact rfl;first|(apply Ok1.shr;exact rfl;exact rfl;omega;exact Nat.le_of_ble_eq_true rfl;exact rfl)|(apply Ok1.add64;exact rfl;exact rfl;omega;omega)|(apply Ok1.sub64;exact rfl;exact rfl;omega;omega)|(apply Ok1.lss_t;exact rfl;exact rfl;omega)|(apply Ok1.lss_f;exact rfl;exact rfl;omega)|(apply Ok1.mul64;exact rfl;exact rfl;omega;omega)))|(apply R.isCall;first|apply R.callP rfl rfl rfl (width_ok 2 4 (by decide) (by decide) (by decide))|(apply R.pure;exact rfl;(apply Ok1.lenS;(iterate 3 exact rfl))))|(apply R.pure;exact rfl;first|(apply Ok1.move;exact rfl)|(apply Ok1.assign;exact rfl)|(apply Ok1.indexAddr;(iterate 5 exact rfl);omega;omega)|(apply Ok1.convU64;(iterate 5 exact rfl);omega;omega)|(apply Ok1.conv;(iterate 5 exact rfl))))|(apply R.is0;(apply R.store;(iterate 6 exact rfl);exact Upd.head;exact rfl))|apply R.nil|(apply T.is;first|apply T.rounds 5|apply T.seq|apply T.region|apply T.block|apply T.skip|apply T.exit|apply T.ret|(apply T.cond_t;exact rfl)|(apply T.cond_f;exact rfl)))
    (apply RetOk.t;exact rfl)
    refine ⟨_,?_,bt,rfl,rfl⟩
    simp only [u8_mod]
    apply Keep.eq1
    simp [numI,u8s,len4,pw]
/-- A number that fits its size. -/
def Fits (s:Nat) (n:Int):Prop:=0≤n∧(s=0∧n≤255 ∨ s=1∧n≤65535 ∨ s=2∧n≤4294967295)
def fldV (s:Nat) (n:Int):List Value:=[.int .i64 s,.int .i64 n,.slice none 0 0]
theorem wcheck_ok (s:Nat) (n:Int) (h:Fits s n):CallP Tryz.prog 247 [.agg ⟨fldV s n⟩] (.int .i64 0):=by
  obtain ⟨h0,h⟩:=h
  unfold fldV
  rcases h with ⟨rfl,h1⟩|⟨rfl,h1⟩|⟨rfl,h1⟩
  · refine enterP (tb:=tb) Tryz.func247 rfl Tryz.ntmps247 rfl fun w=>?_
    repeat' (first|(apply R.is1;first|(apply R.isBin;(apply R.pure;exact rfl;first|(apply Ok1.lss_t;exact rfl;exact rfl;omega)|(apply Ok1.lss_f;exact rfl;exact rfl;omega)|(apply Ok1.gtr_f;exact rfl;exact rfl;omega)|(apply Ok1.eql_f;exact rfl;exact rfl;omega)))|(apply R.isCall;(apply R.pure;exact rfl;(apply Ok1.lenS;(iterate 3 exact rfl))))|(apply R.pure;exact rfl;first|(apply Ok1.move;exact rfl)|(apply Ok1.fieldAddr;(iterate 5 exact rfl))|(apply Ok1.load;exact rfl;(apply Ld.own1;exact rfl;exact rfl;exact At.head;exact rfl))|(apply Ok1.assign;exact rfl)|(apply Ok1.pick_t;exact rfl;exact rfl)|(apply Ok1.pick_f;exact rfl;exact rfl))|(apply R.box;(iterate 3 exact rfl);intro))|(apply R.isG;first|(apply R.guard_run;exact rfl;exact rfl)|(apply R.guard_not;(iterate 3 exact rfl)))|apply R.nil|(apply T.is;first|(apply T.drawC (id:=5) [0] (by decide);((apply A.tk 0;exact rfl;kernel_rfl;(apply Ok1.fieldAddr;(iterate 5 exact rfl)))<;>(apply A.tk 1;exact rfl;kernel_rfl;(apply Ok1.load;exact rfl;(apply Ld.own1;exact rfl;exact rfl;exact At.head;exact rfl)))<;>((apply A.tk 2;exact rfl;kernel_rfl;(apply Ok1.lss_f;exact rfl;exact rfl;omega)))<;>(apply A.tk 3;exact rfl;kernel_rfl;(apply Ok1.move;exact rfl))<;>((apply A.tkG 4;(iterate 3 exact rfl);kernel_rfl;(apply Ok1.fieldAddr;(iterate 5 exact rfl))))<;>((apply A.tkG 5;(iterate 3 exact rfl);kernel_rfl;(apply Ok1.load;exact rfl;(apply Ld.own1;exact rfl;exact rfl;exact At.head;exact rfl))))<;>((apply A.tkG 6;(iterate 3 exact rfl);kernel_rfl;(apply Ok1.lss_t;exact rfl;exact rfl;omega)))<;>((apply A.tkG 7;(iterate 3 exact rfl);kernel_rfl;(apply Ok1.move;exact rfl)))<;>((apply A.tkG 8;(iterate 3 exact rfl);kernel_rfl;(apply Ok1.fieldAddr;(iterate 5 exact rfl))))<;>((apply A.tkG 9;(iterate 3 exact rfl);kernel_rfl;(apply Ok1.load;exact rfl;(apply Ld.own1;exact rfl;exact rfl;exact At.head;exact rfl))))<;>((apply A.tkG 10;(iterate 3 exact rfl);kernel_rfl;(apply Ok1.fieldAddr;(iterate 5 exact rfl))))<;>((apply A.tkG 11;(iterate 3 exact rfl);kernel_rfl;(apply Ok1.load;exact rfl;(apply Ld.own1;exact rfl;exact rfl;exact At.head;exact rfl))))<;>(apply A.one 12;kernel_rfl;exact rfl;(((apply R.isG;apply R.guard_run;exact rfl;exact rfl;(apply R.callP rfl rfl rfl (width_ok 0 1 (by decide) (by decide) (by decide))))));apply R.nil;refine ⟨?_,?_⟩;(focus ((repeat' (first|exact trivial|(refine ⟨?_,?_⟩;exact At.head))))))<;>((apply A.tkG 13;(iterate 3 exact rfl);kernel_rfl;(apply Ok1.mul64;exact rfl;exact rfl;omega;omega)))<;>((apply A.tkG 14;(iterate 3 exact rfl);kernel_rfl;(apply Ok1.shr (m:=256);exact rfl;exact rfl;omega;exact Nat.le_of_ble_eq_true rfl;exact rfl)))<;>((apply A.tkG 15;(iterate 3 exact rfl);kernel_rfl;(apply Ok1.neq_f;exact rfl;exact rfl;omega)))<;>((apply A.tkG 16;(iterate 3 exact rfl);kernel_rfl;(apply Ok1.pick_t;exact rfl;exact rfl)))<;>(apply A.tk 17;exact rfl;kernel_rfl;(apply Ok1.pick_f;exact rfl;exact rfl))<;>(apply A.tk 18;exact rfl;kernel_rfl;(apply Ok1.assign;exact rfl))<;>(apply A.done;kernel_rfl)))|apply T.seq|apply T.region|apply T.block|apply T.skip|apply T.ret|(apply T.cond_f;exact rfl)))
    (apply RetOk.t;exact rfl)
    rfl
  · refine enterP (tb:=tb) Tryz.func247 rfl Tryz.ntmps247 rfl fun w=>?_
    repeat' (first|(apply R.is1;first|(apply R.isBin;(apply R.pure;exact rfl;first|(apply Ok1.lss_t;exact rfl;exact rfl;omega)|(apply Ok1.lss_f;exact rfl;exact rfl;omega)|(apply Ok1.gtr_f;exact rfl;exact rfl;omega)|(apply Ok1.eql_f;exact rfl;exact rfl;omega)))|(apply R.isCall;(apply R.pure;exact rfl;(apply Ok1.lenS;(iterate 3 exact rfl))))|(apply R.pure;exact rfl;first|(apply Ok1.move;exact rfl)|(apply Ok1.fieldAddr;(iterate 5 exact rfl))|(apply Ok1.load;exact rfl;(apply Ld.own1;exact rfl;exact rfl;exact At.head;exact rfl))|(apply Ok1.assign;exact rfl)|(apply Ok1.pick_t;exact rfl;exact rfl)|(apply Ok1.pick_f;exact rfl;exact rfl))|(apply R.box;(iterate 3 exact rfl);intro))|(apply R.isG;first|(apply R.guard_run;exact rfl;exact rfl)|(apply R.guard_not;(iterate 3 exact rfl)))|apply R.nil|(apply T.is;first|(apply T.drawC (id:=5) [0] (by decide);((apply A.tk 0;exact rfl;kernel_rfl;(apply Ok1.fieldAddr;(iterate 5 exact rfl)))<;>(apply A.tk 1;exact rfl;kernel_rfl;(apply Ok1.load;exact rfl;(apply Ld.own1;exact rfl;exact rfl;exact At.head;exact rfl)))<;>((apply A.tk 2;exact rfl;kernel_rfl;(apply Ok1.lss_f;exact rfl;exact rfl;omega)))<;>(apply A.tk 3;exact rfl;kernel_rfl;(apply Ok1.move;exact rfl))<;>((apply A.tkG 4;(iterate 3 exact rfl);kernel_rfl;(apply Ok1.fieldAddr;(iterate 5 exact rfl))))<;>((apply A.tkG 5;(iterate 3 exact rfl);kernel_rfl;(apply Ok1.load;exact rfl;(apply Ld.own1;exact rfl;exact rfl;exact At.head;exact rfl))))<;>((apply A.tkG 6;(iterate 3 exact rfl);kernel_rfl;(apply Ok1.lss_t;exact rfl;exact rfl;omega)))<;>((apply A.tkG 7;(iterate 3 exact rfl);kernel_rfl;(apply Ok1.move;exact rfl)))<;>((apply A.tkG 8;(iterate 3 exact rfl);kernel_rfl;(apply Ok1.fieldAddr;(iterate 5 exact rfl))))<;>((apply A.tkG 9;(iterate 3 exact rfl);kernel_rfl;(apply Ok1.load;exact rfl;(apply Ld.own1;exact rfl;exact rfl;exact At.head;exact rfl))))<;>((apply A.tkG 10;(iterate 3 exact rfl);kernel_rfl;(apply Ok1.fieldAddr;(iterate 5 exact rfl))))<;>((apply A.tkG 11;(iterate 3 exact rfl);kernel_rfl;(apply Ok1.load;exact rfl;(apply Ld.own1;exact rfl;exact rfl;exact At.head;exact rfl))))<;>(apply A.one 12;kernel_rfl;exact rfl;(((apply R.isG;apply R.guard_run;exact rfl;exact rfl;(apply R.callP rfl rfl rfl (width_ok 1 2 (by decide) (by decide) (by decide))))));apply R.nil;refine ⟨?_,?_⟩;(focus ((repeat' (first|exact trivial|(refine ⟨?_,?_⟩;exact At.head))))))<;>((apply A.tkG 13;(iterate 3 exact rfl);kernel_rfl;(apply Ok1.mul64;exact rfl;exact rfl;omega;omega)))<;>((apply A.tkG 14;(iterate 3 exact rfl);kernel_rfl;(apply Ok1.shr (m:=65536);exact rfl;exact rfl;omega;exact Nat.le_of_ble_eq_true rfl;exact rfl)))<;>((apply A.tkG 15;(iterate 3 exact rfl);kernel_rfl;(apply Ok1.neq_f;exact rfl;exact rfl;omega)))<;>((apply A.tkG 16;(iterate 3 exact rfl);kernel_rfl;(apply Ok1.pick_t;exact rfl;exact rfl)))<;>(apply A.tk 17;exact rfl;kernel_rfl;(apply Ok1.pick_f;exact rfl;exact rfl))<;>(apply A.tk 18;exact rfl;kernel_rfl;(apply Ok1.assign;exact rfl))<;>(apply A.done;kernel_rfl)))|apply T.seq|apply T.region|apply T.block|apply T.skip|apply T.ret|(apply T.cond_f;exact rfl)))
    (apply RetOk.t;exact rfl)
    rfl
  · refine enterP (tb:=tb) Tryz.func247 rfl Tryz.ntmps247 rfl fun w=>?_
    repeat' (first|(apply R.is1;first|(apply R.isBin;(apply R.pure;exact rfl;first|(apply Ok1.lss_t;exact rfl;exact rfl;omega)|(apply Ok1.lss_f;exact rfl;exact rfl;omega)|(apply Ok1.gtr_f;exact rfl;exact rfl;omega)|(apply Ok1.eql_f;exact rfl;exact rfl;omega)))|(apply R.isCall;(apply R.pure;exact rfl;(apply Ok1.lenS;(iterate 3 exact rfl))))|(apply R.pure;exact rfl;first|(apply Ok1.move;exact rfl)|(apply Ok1.fieldAddr;(iterate 5 exact rfl))|(apply Ok1.load;exact rfl;(apply Ld.own1;exact rfl;exact rfl;exact At.head;exact rfl))|(apply Ok1.assign;exact rfl)|(apply Ok1.pick_t;exact rfl;exact rfl)|(apply Ok1.pick_f;exact rfl;exact rfl))|(apply R.box;(iterate 3 exact rfl);intro))|(apply R.isG;first|(apply R.guard_run;exact rfl;exact rfl)|(apply R.guard_not;(iterate 3 exact rfl)))|apply R.nil|(apply T.is;first|(apply T.drawC (id:=5) [0] (by decide);((apply A.tk 0;exact rfl;kernel_rfl;(apply Ok1.fieldAddr;(iterate 5 exact rfl)))<;>(apply A.tk 1;exact rfl;kernel_rfl;(apply Ok1.load;exact rfl;(apply Ld.own1;exact rfl;exact rfl;exact At.head;exact rfl)))<;>((apply A.tk 2;exact rfl;kernel_rfl;(apply Ok1.lss_f;exact rfl;exact rfl;omega)))<;>(apply A.tk 3;exact rfl;kernel_rfl;(apply Ok1.move;exact rfl))<;>((apply A.tkG 4;(iterate 3 exact rfl);kernel_rfl;(apply Ok1.fieldAddr;(iterate 5 exact rfl))))<;>((apply A.tkG 5;(iterate 3 exact rfl);kernel_rfl;(apply Ok1.load;exact rfl;(apply Ld.own1;exact rfl;exact rfl;exact At.head;exact rfl))))<;>((apply A.tkG 6;(iterate 3 exact rfl);kernel_rfl;(apply Ok1.lss_t;exact rfl;exact rfl;omega)))<;>((apply A.tkG 7;(iterate 3 exact rfl);kernel_rfl;(apply Ok1.move;exact rfl)))<;>((apply A.tkG 8;(iterate 3 exact rfl);kernel_rfl;(apply Ok1.fieldAddr;(iterate 5 exact rfl))))<;>((apply A.tkG 9;(iterate 3 exact rfl);kernel_rfl;(apply Ok1.load;exact rfl;(apply Ld.own1;exact rfl;exact rfl;exact At.head;exact rfl))))<;>((apply A.tkG 10;(iterate 3 exact rfl);kernel_rfl;(apply Ok1.fieldAddr;(iterate 5 exact rfl))))<;>((apply A.tkG 11;(iterate 3 exact rfl);kernel_rfl;(apply Ok1.load;exact rfl;(apply Ld.own1;exact rfl;exact rfl;exact At.head;exact rfl))))<;>(apply A.one 12;kernel_rfl;exact rfl;(((apply R.isG;apply R.guard_run;exact rfl;exact rfl;(apply R.callP rfl rfl rfl (width_ok 2 4 (by decide) (by decide) (by decide))))));apply R.nil;refine ⟨?_,?_⟩;(focus ((repeat' (first|exact trivial|(refine ⟨?_,?_⟩;exact At.head))))))<;>((apply A.tkG 13;(iterate 3 exact rfl);kernel_rfl;(apply Ok1.mul64;exact rfl;exact rfl;omega;omega)))<;>((apply A.tkG 14;(iterate 3 exact rfl);kernel_rfl;(apply Ok1.shr (m:=4294967296);exact rfl;exact rfl;omega;exact Nat.le_of_ble_eq_true rfl;exact rfl)))<;>((apply A.tkG 15;(iterate 3 exact rfl);kernel_rfl;(apply Ok1.neq_f;exact rfl;exact rfl;omega)))<;>((apply A.tkG 16;(iterate 3 exact rfl);kernel_rfl;(apply Ok1.pick_t;exact rfl;exact rfl)))<;>(apply A.tk 17;exact rfl;kernel_rfl;(apply Ok1.pick_f;exact rfl;exact rfl))<;>(apply A.tk 18;exact rfl;kernel_rfl;(apply Ok1.assign;exact rfl))<;>(apply A.done;kernel_rfl)))|apply T.seq|apply T.region|apply T.block|apply T.skip|apply T.ret|(apply T.cond_f;exact rfl)))
    (apply RetOk.t;exact rfl)
    rfl
theorem fout_ok (s:Nat) (n:Int) (h:Fits s n) (w:World):CallM Tryz.prog 248 [.agg ⟨fldV s n⟩] [] w fun v L=>∃ b,v = .slice (some ⟨b,0,none⟩) (numI s n).length (numI s n).length∧L=[(b,.cells ⟨u8s (numI s n)⟩ 5 (0,0))]:=by
  have hs:s=0 ∨ s=1 ∨ s=2:=by unfold Fits at h;omega
  have hn:n≤9223372036854775807:=by unfold Fits at h;omega
  have hnum:=fun w1=>number_ok s n hs h.1 hn w1
  unfold fldV
  refine enterK (tb:=tb) Tryz.func248 rfl Tryz.ntmps248 rfl ?_
  repeat' (first|(apply R.is1;first|(apply R.isBin;(apply R.pure;exact rfl;(apply Ok1.eql_f;exact rfl;exact rfl;omega)))|(apply R.isCall;(apply R.callE;(iterate 3 exact rfl);exact Ext.none _;intro w1 hw1;exact hnum w1;rintro v Lo ⟨b,rfl,rfl⟩))|(apply R.pure;exact rfl;first|(apply Ok1.fieldAddr;(iterate 5 exact rfl))|(apply Ok1.load;exact rfl;(apply Ld.own1;exact rfl;exact rfl;exact At.head;exact rfl))|(apply Ok1.assign;exact rfl))|(apply R.box;(iterate 3 exact rfl);intro))|apply R.nil|(apply T.is;first|apply T.seq|apply T.region|apply T.skip|apply T.ret|(apply T.cond_f;exact rfl)))
  (apply RetOk.t;exact rfl)
  exact ⟨_,by (focus (repeat' first|exact Keep.nil _|exact Ext.one _ _|apply Keep.cons);done),b,rfl,rfl⟩
/-- A writer that has written,without an error. -/
def WL (bw:Nat) (ov:Ov) (bs:List Int):Lst:=(bw,.cells ⟨[slV ov bs.length,.int .i64 0]⟩ 287 (0,0))::blkL 5 ov (u8s bs)
def WRes (bw:Nat) (bs:List Int) (v:Value) (L:Lst):Prop:=∃ ov,v = .pointer (some ⟨bw,0,none⟩)∧OvOk 1 ov bs.length (u8s bs)∧L=WL bw ov bs
theorem num_len (s:Nat) (n:Int):1≤(numI s n).length∧(numI s n).length≤4:=by unfold numI len4;split<;>simp
theorem put_ok (bw:Nat) (ov:Ov) (bs:List Int) (hov:OvOk 1 ov bs.length (u8s bs)) (s:Nat) (n:Int) (h:Fits s n) (hbig:bs.length≤1000) (bf:Nat) (fz:Nat × Nat) (e:TypeId) (w:World) (hb:w.heap[bf]? = some (.cells ⟨fldV s n⟩ e fz)) (hoff:bf ∉ blks (WL bw ov bs)) :
    CallM Tryz.prog 200 [.pointer (some ⟨bw,0,none⟩),.slice (some ⟨bf,0,none⟩) 1 1] (WL bw ov bs) w (WRes bw (bs++numI s n)):=by
  have hck:=wcheck_ok s n h
  have hfo:=fun w1=>fout_ok s n h w1
  have hnl:=num_len s n
  unfold WRes
  generalize numI s n=nb at *
  refine enterK (tb:=tb) Tryz.func200 rfl Tryz.ntmps200 rfl ?_
  obtain ⟨S,hS⟩:∃ S,S=blks (WL bw ov bs):=⟨_,rfl⟩
  rw [← hS] at hoff ⊢
  simp only [WL,fldV] at hb hck hfo ⊢
  repeat' (first|(apply R.is1;first|(apply R.isBin;(apply R.pure;exact rfl;first|(apply Ok1.add64;exact rfl;exact rfl;omega;omega)|(apply Ok1.lss_t;exact rfl;exact rfl;omega)|(apply Ok1.lss_f;exact rfl;exact rfl;omega)|(apply Ok1.gtr_f;exact rfl;exact rfl;omega)|(apply Ok1.neq_f;exact rfl;exact rfl;omega)|(apply Ok1.eqlP;(iterate 5 exact rfl))))|(apply R.isCall;first|apply R.callP rfl rfl rfl hck|(apply R.callE;(iterate 3 exact rfl);exact Ext.none _;intro w1 hw1;exact hfo w1;rintro v Lo ⟨b7,rfl,rfl⟩)|(apply R.pure;exact rfl;apply Ok1.lenOv;(iterate 3 exact rfl);exact hov)|(apply R.appendRd (xs:=nb) (v:=u8V) (sz:=1) (ov:=ov) (n:=bs.length) (old:=u8s bs);(iterate 12 exact rfl);exact hov;(focus (repeat' first|exact Ext.all _|apply Ext.cons);done);exact rfl;exact u8V_len;exact rfl;(intro w1 hw1;exact RdSl.of (junk:=[]) hw1 (by exact At.head) (by rw [fl_u8,List.append_nil]));(focus (rw [fl_u8];exact u8s_one nb));omega;intro ov1 hov1 hsome;rw [fl_u8,← u8s_app,← List.length_append];rw [fl_u8,← u8s_app,← List.length_append] at hov1)|(apply R.pure;exact rfl;(apply Ok1.lenS;(iterate 3 exact rfl))))|(apply R.pure;exact rfl;first|(apply Ok1.move;exact rfl)|(apply Ok1.fieldAddr;(iterate 5 exact rfl))|(apply Ok1.load;exact rfl;first|(apply Ld.own1;exact rfl;exact rfl;(focus (repeat' first|exact At.head|apply At.tail);done);exact rfl)|(apply Ld.ownk;exact rfl;exact rfl;(focus (repeat' first|exact At.head|apply At.tail);done);exact rfl)|(apply Ld.blkk;exact rfl;exact rfl;assumption;(assumption);exact rfl))|(apply Ok1.assign;exact rfl)|(apply Ok1.indexAddr;(iterate 5 exact rfl);omega;omega)|(apply Ok1.nilCheck;exact rfl))|(apply R.alloc;(iterate 3 exact rfl);intro))|(apply R.is0;first|(apply R.store;(iterate 3 exact rfl);exact cellsE_slV _ _;exact rfl;exact one_slV _ _;(focus (repeat' first|exact Upd.head|apply Upd.tail|apply Upd.right);done);exact rfl)|(apply R.store;(iterate 6 exact rfl);(focus (repeat' first|exact Upd.head|apply Upd.tail);done);exact rfl))|apply R.nil|(apply T.is;first|apply T.rounds 3|apply T.seq|apply T.region|apply T.block|apply T.scope|apply T.label|apply T.skip|apply T.exit|apply T.ret|(apply T.cond_t;exact rfl)|(apply T.cond_f;exact rfl)))
  (apply RetOk.t;exact rfl)
  refine ⟨_,?_,ov1,rfl,hov1,rfl⟩
  (focus (repeat' first|exact Ext.one _ _|exact Ext.here _ _|apply Keep.cons|apply Keep.last|apply Ext.cons|apply Ext.app);done)
theorem number1_ok (bw:Nat) (ov:Ov) (bs:List Int) (hov:OvOk 1 ov bs.length (u8s bs)) (s:Nat) (n:Int) (h:Fits s n) (hbig:bs.length≤1000) (bl:Nat) (fz:Nat × Nat) (e:TypeId) (w:World) (hb:w.heap[bl]? = some (.cells ⟨[.int .i64 n]⟩ e fz)) (hoff:bl ∉ blks (WL bw ov bs)) :
    CallM Tryz.prog 147 [.pointer (some ⟨bw,0,none⟩),.int .i64 s,.slice (some ⟨bl,0,none⟩) 1 1] (WL bw ov bs) w (WRes bw (bs++numI s n)):=by
  have hput:=fun bf fz e w1=>put_ok bw ov bs hov s n h hbig bf fz e w1
  unfold WRes at hput ⊢
  generalize bs++numI s n=nb at *
  refine enterK (tb:=tb) Tryz.func147 rfl Tryz.ntmps147 rfl ?_
  obtain ⟨S,hS⟩:∃ S,S=blks (WL bw ov bs):=⟨_,rfl⟩
  rw [← hS] at hoff ⊢
  repeat' (first|(apply R.is1;first|(apply R.isBin;(apply R.pure;exact rfl;first|(apply Ok1.add64;exact rfl;exact rfl;omega;omega)|(apply Ok1.lss_t;exact rfl;exact rfl;omega)|(apply Ok1.lss_f;exact rfl;exact rfl;omega)))|(apply R.isCall;first|(apply R.callE (Li:=WL bw ov bs);(iterate 3 exact rfl);(focus (repeat' first|exact Ext.all _|apply Ext.cons);done);intro w1 hw1;exact hput _ _ _ w1 (hw1.get _ _ (At.mem (by exact At.head))) (RdSl.off hw1 (by (focus (repeat' first|exact Ext.all _|apply Ext.cons);done)) (At.mem (by exact At.head)));rintro v Lo ⟨ov1,rfl,hov1,rfl⟩)|(apply R.pure;exact rfl;(apply Ok1.lenS;(iterate 3 exact rfl))))|(apply R.pure;exact rfl;first|(apply Ok1.move;exact rfl)|(apply Ok1.load;exact rfl;(apply Ld.blk1;exact rfl;exact rfl;assumption;(assumption);exact rfl))|(apply Ok1.assign;exact rfl)|(apply Ok1.indexAddr;(iterate 5 exact rfl);omega;omega)|(apply Ok1.build;(iterate 5 exact rfl)))|(apply R.buildSlice;(iterate 12 exact rfl);intro))|apply R.nil|(apply T.is;first|apply T.rounds 3|apply T.seq|apply T.region|apply T.block|apply T.skip|apply T.exit|apply T.ret|(apply T.cond_t;exact rfl)|(apply T.cond_f;exact rfl)))
  (apply RetOk.t;exact rfl)
  refine ⟨_,?_,ov1,rfl,hov1,rfl⟩
  (focus (repeat' first|exact Ext.one _ _|exact Ext.here _ _|apply Keep.cons|apply Keep.last);done)
theorem wout_ok (bw:Nat) (ov:Ov) (bs:List Int) (hov:OvOk 1 ov bs.length (u8s bs)) (hbig:bs.length≤1000000) (w:World) (hb:w.heap[bw]? = some (.cells ⟨[slV ov bs.length,.int .i64 0]⟩ 287 (0,0))) (hr:RdSl w (ovp ov) u8V bs) :
    CallM Tryz.prog 148 [.pointer (some ⟨bw,0,none⟩)] [] w fun v L=>∃ ov',OvOk 1 ov' bs.length (u8s bs)∧v = .tuple #[slV ov' bs.length,.int .i64 0]∧L=blkL 5 ov' (u8s bs):=by
  rw [slV_eq hov] at hb
  refine enterK (tb:=tb) Tryz.func148 rfl Tryz.ntmps148 rfl ?_
  have hcl:=fun w1 (hc:Chg [] w w1)=>clone_ok (ovp ov) bs.length (ovc ov bs.length) bs rfl (by omega) w1 (hr.chg' hc (fun _=>Off.nil _))
  repeat' (first|(apply R.is1;first|(apply R.isBin;(apply R.pure;exact rfl;first|(apply Ok1.neq_f;exact rfl;exact rfl;omega)|(apply Ok1.eqlP;(iterate 5 exact rfl))))|(apply R.isCall;(apply R.callE;(iterate 3 exact rfl);exact Ext.none _;intro w1 hw1;exact hcl w1 hw1.chg;rintro v Lo ⟨ov2,hov2,hsome,rfl,rfl⟩))|(apply R.pure;exact rfl;first|(apply Ok1.move;exact rfl)|(apply Ok1.fieldAddr;(iterate 5 exact rfl))|(apply Ok1.load;exact rfl;(apply Ld.blk1;exact rfl;exact rfl;assumption;(exact List.not_mem_nil);exact rfl))|(apply Ok1.assign;exact rfl)|(apply Ok1.nilCheck;exact rfl)))|apply R.nil|(apply T.is;first|apply T.seq|apply T.region|apply T.block|apply T.skip|apply T.ret|(apply T.cond_f;exact rfl)))
  (apply RetOk.tt;exact rfl;exact rfl)
  exact ⟨_,by (focus (repeat' first|exact Ext.here _ _|apply Keep.last);done),ov2,hov2,rfl,rfl⟩
theorem same_ok (p1 p2:Option Addr) (n1 n2 c1 c2:Nat) (xs ys:List Int) (hn1:n1=xs.length) (hn2:n2=ys.length) (hbig:n1≤1000000000) (w:World) (h1:RdSl w p1 u8V xs) (h2:RdSl w p2 u8V ys):CallW Tryz.prog 20 [.slice p1 n1 c1,.slice p2 n2 c2] w fun v _=>v = .bool (decide (xs=ys)):=by
  subst hn1 hn2
  refine enterW (tb:=tb) Tryz.func20 rfl Tryz.ntmps20 rfl ?_
  by_cases hne:xs.length=ys.length
  · repeat' (first|(apply R.is1;first|(apply R.isBin;(apply R.pure;exact rfl;(apply Ok1.neq_f;exact rfl;exact rfl;omega)))|(apply R.isCall;(apply R.pure;exact rfl;(apply Ok1.lenS;(iterate 3 exact rfl))))|(apply R.pure;exact rfl;first|(apply Ok1.move;exact rfl)|(apply Ok1.assign;exact rfl)))|apply R.nil|(apply T.is;first|apply T.seq|apply T.region|apply T.block|apply T.skip|(apply T.cond_f;exact rfl)))
    apply T.loopK (α:=Nat) (I:=fun i=>i≤xs.length∧xs.take i=ys.take i) (σi:=fun i=>[(0,.slice p1 xs.length c1),(1,.slice p2 ys.length c2),(5,.int .i64 i)]) (Li:=fun _=>[]) (μ:=fun i=>xs.length - i) (i0:=0)
    · exact ⟨Nat.zero_le _,rfl⟩
    · exact ⟨rfl,rfl,rfl,trivial⟩
    · (focus ((repeat' (exact Keep.nil _));done))
    · intro i ⟨hi,htk⟩
      rcases Nat.lt_or_ge i xs.length with hlt|hge
      · obtain ⟨x,hx⟩:∃ x,xs[i]? = some x:=⟨_,List.getElem?_eq_getElem (by omega)⟩
        obtain ⟨y,hy⟩:∃ y,ys[i]? = some y:=⟨_,List.getElem?_eq_getElem (by omega)⟩
        obtain ⟨b1,o1,hpe1,H1⟩:=h1.at hx
        obtain ⟨b2,o2,hpe2,H2⟩:=h2.at hy
        replace H1:=H1 1 u8V_len
        replace H2:=H2 1 u8V_len
        by_cases hxy:x=y
        · repeat' (first|(apply R.is1;first|(apply R.isBin;(apply R.pure;exact rfl;first|(apply Ok1.add64;exact rfl;exact rfl;omega;omega)|(apply Ok1.lss_t;exact rfl;exact rfl;omega)))|(apply R.isCall;(apply R.pure;exact rfl;(apply Ok1.lenS;(iterate 3 exact rfl))))|(apply R.pure;exact rfl;first|(apply Ok1.move;exact rfl)|(apply Ok1.assign;exact rfl)))|apply R.nil|(apply T.is;first|(apply T.drawC (id:=6) [] (by decide);((apply A.tk 0;exact rfl;kernel_rfl;(apply Ok1.move;exact rfl))<;>(apply A.tk 1;exact rfl;kernel_rfl;(apply Ok1.move;exact rfl))<;>(apply A.tk 2;exact rfl;kernel_rfl;(apply Ok1.indexAddrP;(iterate 4 exact rfl);(exact hpe1);exact rfl;omega;omega))<;>(apply A.tk 3;exact rfl;kernel_rfl;(apply Ok1.load;exact rfl;(apply Ld.row0 H1;exact rfl;exact List.not_mem_nil;(iterate 3 exact rfl))))<;>(apply A.tk 4;exact rfl;kernel_rfl;(apply Ok1.move;exact rfl))<;>(apply A.tk 5;exact rfl;kernel_rfl;(apply Ok1.move;exact rfl))<;>(apply A.tk 6;exact rfl;kernel_rfl;(apply Ok1.indexAddrP;(iterate 4 exact rfl);(exact hpe2);exact rfl;omega;omega))<;>(apply A.tk 7;exact rfl;kernel_rfl;(apply Ok1.load;exact rfl;(apply Ld.row0 H2;exact rfl;exact List.not_mem_nil;(iterate 3 exact rfl))))<;>((apply A.tk 8;exact rfl;kernel_rfl;(apply Ok1.neq_f;exact rfl;exact rfl;omega)))<;>(apply A.done;kernel_rfl)))|apply T.seq|apply T.region|apply T.block|apply T.skip|(apply T.cond_t;exact rfl)|(apply T.cond_f;exact rfl)))
          refine ⟨i+1,⟨by omega,?_⟩,by omega,⟨rfl,rfl,rfl,trivial⟩,by (focus ((repeat' (exact Keep.nil _));done))⟩
          rw [List.take_add_one,List.take_add_one,htk,hx,hy,hxy]
        · repeat' (first|(apply R.is1;first|(apply R.isBin;(apply R.pure;exact rfl;(apply Ok1.lss_t;exact rfl;exact rfl;omega)))|(apply R.isCall;(apply R.pure;exact rfl;(apply Ok1.lenS;(iterate 3 exact rfl))))|(apply R.pure;exact rfl;first|(apply Ok1.move;exact rfl)|(apply Ok1.assign;exact rfl)))|apply R.nil|(apply T.is;first|(apply T.drawC (id:=6) [] (by decide);((apply A.tk 0;exact rfl;kernel_rfl;(apply Ok1.move;exact rfl))<;>(apply A.tk 1;exact rfl;kernel_rfl;(apply Ok1.move;exact rfl))<;>(apply A.tk 2;exact rfl;kernel_rfl;(apply Ok1.indexAddrP;(iterate 4 exact rfl);(exact hpe1);exact rfl;omega;omega))<;>(apply A.tk 3;exact rfl;kernel_rfl;(apply Ok1.load;exact rfl;(apply Ld.row0 H1;exact rfl;exact List.not_mem_nil;(iterate 3 exact rfl))))<;>(apply A.tk 4;exact rfl;kernel_rfl;(apply Ok1.move;exact rfl))<;>(apply A.tk 5;exact rfl;kernel_rfl;(apply Ok1.move;exact rfl))<;>(apply A.tk 6;exact rfl;kernel_rfl;(apply Ok1.indexAddrP;(iterate 4 exact rfl);(exact hpe2);exact rfl;omega;omega))<;>(apply A.tk 7;exact rfl;kernel_rfl;(apply Ok1.load;exact rfl;(apply Ld.row0 H2;exact rfl;exact List.not_mem_nil;(iterate 3 exact rfl))))<;>((apply A.tk 8;exact rfl;kernel_rfl;(apply Ok1.neq_t;exact rfl;exact rfl;omega)))<;>(apply A.done;kernel_rfl)))|apply T.seq|apply T.region|apply T.block|apply T.skip|apply T.ret|(apply T.cond_t;exact rfl)))
          all_goals (apply RetOk.t;exact rfl)
          all_goals rw [decide_eq_false]
          intro e
          rw [e,hy] at hx
          cases hx
          exact hxy rfl
      · repeat' (first|(apply R.is1;first|(apply R.isBin;(apply R.pure;exact rfl;(apply Ok1.lss_f;exact rfl;exact rfl;omega)))|(apply R.isCall;(apply R.pure;exact rfl;(apply Ok1.lenS;(iterate 3 exact rfl))))|(apply R.pure;exact rfl;first|(apply Ok1.move;exact rfl)|(apply Ok1.assign;exact rfl)))|apply R.nil|(apply T.is;first|apply T.seq|apply T.region|apply T.exit|apply T.ret|(apply T.cond_f;exact rfl)))
        (apply RetOk.t;exact rfl)
        rw [List.take_of_length_le hge,List.take_of_length_le (by omega)] at htk
        rw [decide_eq_true htk]
  · repeat' (first|(apply R.is1;first|(apply R.isBin;(apply R.pure;exact rfl;(apply Ok1.neq_t;exact rfl;exact rfl;omega)))|(apply R.isCall;(apply R.pure;exact rfl;(apply Ok1.lenS;(iterate 3 exact rfl))))|(apply R.pure;exact rfl;first|(apply Ok1.move;exact rfl)|(apply Ok1.assign;exact rfl)))|apply R.nil|(apply T.is;first|apply T.seq|apply T.region|apply T.ret|(apply T.cond_t;exact rfl)))
    all_goals (apply RetOk.t;exact rfl)
    all_goals rw [decide_eq_false]
    exact fun e=>hne (by rw [e])
section
variable {X:Cx} {σ:Env} {L:Lst} {ty t:TypeId} {pos:String} {af:Array Edge} {x y:Operand} {r:TRow}
theorem Ok1.eqlB2 {d:Option Nat} {g:Option (Nat × Bool)} {ty2:TypeId} {b:Bool} (ht:X.tb.row t=some r) (hk:r.k = .bool) (hx:ev σ x=some (.bool b)) (hy:ev σ y=some (.bool b)):Ok1 X ⟨d,.binOp .eql t x y ty2,ty,pos,af,g⟩ σ L (.bool true):=.mk fun a w ha hw=>by
  have hu:X.P.underlying t=some .bool:=by have:=(X.tb.get ht).is;rw [hk] at this;exact this
  have hE:∀ n,(Op.equalIn (n+1) t (.bool b) (.bool b)).run X.P w = .ok true w:=by
    intro n
    rw [Op.equalIn]
    simp [run_underlying hu]
  obtain ⟨n,hm⟩:∃ n,Op.maxDepth=n+1:=⟨_,rfl⟩
  simp [execOp,ha.ev hx,ha.ev hy,eqGuard,binOp,Op.equal,hm,hE]
end
section
variable {X:Cx} {σ:Env} {L:Lst} {ty t:TypeId} {pos:String} {af:Array Edge} {x y:Operand} {r:TRow} {xs ys:List Value} {ks:List TK}
theorem Ok1.eqlFq2 {d:Option Nat} {g:Option (Nat × Bool)} {ty2:TypeId} {q:Bool} (hx:ev σ x=some (.agg ⟨xs⟩)) (hy:ev σ y=some (.agg ⟨ys⟩)) (ht:X.tb.row t=some r) (hk:r.k.agg=some true) (hf:flatE X.tb 8 t=some ks) (h1:allOk ks xs=true) (h2:allOk ks ys=true) (hq:xs=ys ↔ q=true) :
    Ok1 X ⟨d,.binOp .eql t x y ty2,ty,pos,af,g⟩ σ L (.bool q):=by
  have h:=Ok1.eqlF (X:=X) (L:=L) (ty2:=ty2) (d:=d) (ty:=ty) (pos:=pos) (af:=af) (g:=g) hx hy ht hk hf h1 h2
  have e:∀ (i:Decidable (xs=ys)),@decide (xs=ys) i=q:=by intro i;cases q<;>simp_all
  rw [e] at h
  exact h
end
/-- The walk stops here. -/
structure Stop (p:Prop):Prop where
  of:p
section
variable {X:Cx} {Q:Post} {σ:Env} {L:Lst}
theorem T.stop (i:Nat) {ops:Array Oper} {g:Bool} {c d:Code} (h:Stop (T X (.seq (.seq (.region i ops g) c) d) Q σ L)):T X (.seq (.seq (.region i ops g) c) d) Q σ L:=h.of
theorem T.stop1 (i:Nat) {ops:Array Oper} {g:Bool} {d:Code} (h:Stop (T X (.seq (.region i ops g) d) Q σ L)):T X (.seq (.region i ops g) d) Q σ L:=h.of
end
theorem CallW.toM {P:Program} {f:FuncId} {vs:List Value} {w:World} {v:Value} (h:CallW P f vs w fun x _=>x=v):CallM P f vs [] w fun x L=>x=v∧L=[] :=
  ⟨fun _=>h.run.mono fun e w' ⟨x,h1,h2,h3⟩=>⟨x,[],h1,⟨h2,rfl⟩,⟨h3,by simp,by simp,by simp⟩⟩⟩

section
variable {X:Cx} {σ:Env} {L Lr:Lst} {d:Option Nat} {dd:Nat} {ty:TypeId} {pos:String} {af:Array Edge} {g:Option (Nat × Bool)} {x y:Operand} {t t2 e:TypeId} {r r2 re:TRow}
variable {all:Array Oper} {rest:List Oper} {K:Env→Lst→Prop} {p:Option Addr} {n cap i:Nat}
end
section
variable {X:Cx} {σ:Env} {L Lr:Lst} {d:Option Nat} {ty:TypeId} {pos:String} {af:Array Edge} {g:Option (Nat × Bool)} {x:Operand} {t e:TypeId} {r re:TRow} {p:Option Addr} {n m cap b o i:Nat}
theorem Ok1.sliceArrTo {hi:Operand} (ht:X.tb.row t=some r) (hk:r.k = .arr n e) (he:X.tb.row e=some re) (hx:ev σ x=some (.pointer (some ⟨b,o,none⟩))) (hh:ev σ hi=some (.int .i64 i)) (h1:i≤n) :
    Ok1 X ⟨d,.slice t x none (some hi) none,ty,pos,af,g⟩ σ L (.slice (some ⟨b,o,none⟩) i n):=.mk fun a w ha hw=>by
  have h2:=(X.tb.get ht).is
  rw [hk] at h2
  simp only [TK.is] at h2
  have h6:((i:Int)≤(n:Int)):=by omega
  simp [execOp,Instr.sliceAt,run_underlying h2,ha.ev hx,ha.ev hh,Instr.sureAddr,Instr.sliceBounds,Instr.sliceBound,asIntOf,(X.tb.get he).size,Addr.add_none,h1,h6]
theorem Ok1.arrAt (ht:X.tb.row t=some r) (hk:r.k = .arr n e) (hx:ev σ x=some (.slice p m cap)) (h1:n≤m) :
    Ok1 X ⟨d,.sliceToArrayPointer t x,ty,pos,af,g⟩ σ L (.pointer p):=.mk fun a w ha hw=>by
  have h2:=(X.tb.get ht).is
  rw [hk] at h2
  simp only [TK.is] at h2
  have h3:¬ (m < n):=by omega
  simp [execOp,Instr.arrayAt,run_underlying h2,ha.ev hx,h3]
end
section
variable {X:Cx} {σ:Env} {L:Lst} {d:Option Nat} {ty ty2 t:TypeId} {pos:String} {af:Array Edge} {g:Option (Nat × Bool)} {x y:Operand} {k:IntKind} {i j:Int}
theorem Ok1.orCh {a b c:Int} (hx:ev σ x=some (.int .u32 (andI .u32 a b))) (hy:ev σ y=some (.int .u32 (andI .u32 (xorI .u32 a 4294967295) c))):Ok1 X ⟨d,.binOp .or t x y ty2,ty,pos,af,g⟩ σ L (.int .u32 (chI a b c)):=by
  rw [← ch_eq];exact Ok1.orK hx hy
theorem Ok1.orMaj {a b c:Int} (hx:ev σ x=some (.int .u32 (orI .u32 (andI .u32 a b) (andI .u32 a c)))) (hy:ev σ y=some (.int .u32 (andI .u32 b c))):Ok1 X ⟨d,.binOp .or t x y ty2,ty,pos,af,g⟩ σ L (.int .u32 (majI a b c)):=by
  rw [← maj_eq];exact Ok1.orK hx hy
theorem Ok1.shlE {k2:IntKind} {m z:Int} (hx:ev σ x=some (.int k i)) (hy:ev σ y=some (.int k2 j)) (h:0≤j) (h2:j.toNat≤k.bits) (hm:pw j.toNat=m) (hz:k.wrap (i * m)=z):Ok1 X ⟨d,.binOp .shl t x y ty2,ty,pos,af,g⟩ σ L (.int k z):=by
  subst hz;exact Ok1.shl hx hy h h2 hm
end
theorem right1_ok (x n p q:Int) (h0:0 < n) (h1:n < 32) (hp:pw n.toNat=p) (hq:pw (32 - n).toNat=q):CallP Tryz.prog 215 [.int .u32 x,.int .i64 n] (.int .u32 (rotr x p q)):=by
  refine enterP (tb:=tb) Tryz.func215 rfl Tryz.ntmps215 rfl fun w=>?_
  have hn:n.toNat≤IntKind.u32.bits:=by show n.toNat≤32;omega
  have hn2:(32 - n).toNat≤IntKind.u32.bits:=by show (32 - n).toNat≤32;omega
  repeat' (first|(apply R.is1;(apply R.pure;exact rfl;(apply Ok1.assign;exact rfl)))|apply R.nil|(apply T.is;first|(apply T.drawC (id:=1) [] (by decide);((apply A.tk 0;exact rfl;kernel_rfl;(apply Ok1.move;exact rfl))<;>(apply A.tk 1;exact rfl;kernel_rfl;(apply Ok1.move;exact rfl))<;>(apply A.tk 2;exact rfl;kernel_rfl;(apply Ok1.shr;exact rfl;exact rfl;omega;exact hn;exact hp))<;>(apply A.tk 3;exact rfl;kernel_rfl;(apply Ok1.move;exact rfl))<;>(apply A.tk 4;exact rfl;kernel_rfl;(apply Ok1.move;exact rfl))<;>(apply A.tk 5;exact rfl;kernel_rfl;(apply Ok1.sub64;exact rfl;exact rfl;omega;omega))<;>(apply A.tk 6;exact rfl;kernel_rfl;(apply Ok1.shl;exact rfl;exact rfl;omega;exact hn2;exact hq))<;>(apply A.tk 7;exact rfl;kernel_rfl;(apply Ok1.orK;exact rfl;exact rfl))<;>(apply A.tk 8;exact rfl;kernel_rfl;(apply Ok1.assign;exact rfl))<;>(apply A.done;kernel_rfl)))|apply T.seq|apply T.region|apply T.ret))
  (apply RetOk.t;exact rfl)
  unfold rotr
  rw [orI_comm]
  rfl
def tabV:List Value:=u32s kI++h0I.v
theorem all_snoc (K:List Int) (i:Nat) (b:List Int) (s:H8):allI K (i+1) b s=mixI K ((b.drop (64 * i)).take 64) (allI K i b s):=by rw [allI_add K 1 i];rfl
theorem pad_byt (n:Nat):Byt (padI n):=by
  intro y hy
  rcases List.mem_cons.1 hy with rfl|hy
  · omega
  · rcases List.mem_append.1 hy with hy|hy
    · rw [List.eq_of_mem_replicate hy];omega
    · simp only [lenI,List.mem_cons,List.not_mem_nil,or_false] at hy
      rcases hy with rfl|rfl|rfl|rfl|rfl|rfl|rfl|rfl<;>omega
theorem pad_len (n:Nat):(padI n).length=9+(119 - n % 64) % 64:=by simp [padI,lenI];omega
theorem w4 {a b c d:Int} (ha:0≤a∧a≤255) (hb:0≤b∧b≤255) (hc:0≤c∧c≤255) (hd:0≤d∧d≤255):wr (wr (256 * wr (wr (256 * wr (wr (256 * wr (wr (256 * 0)+a))+b))+c))+d)=wordI a b c d:=by
  simp only [wr_mod,wordI];omega
def cL:Code→Code | .seq a _=>a|c=>c
def cR:Code→Code | .seq _ b=>b|c=>c
def cB:Code→Code | .block _ c=>c | .loop c=>c|c=>c
def codeOf (f:Func):Code:=match f.body with|some c=>c|none=>.skip
def atY (c:Code):Code:=cB (cL (cR (cB (cB (cR (cL (cR (cR (cR (cR (cR (cR c))))))))))))
def atL4 (c:Code):Code:=cB (cR (cL (cR (atY c))))
def atL8 (c:Code):Code:=cB (cR (cL (cR (cR (cR (cR (cR (cR (cR (cR c))))))))))
def atL6 (c:Code):Code:=cB (cR (cL (cR (cR (cR (atY c))))))
theorem sum_loop4 (w:World) (bT bO bm bh bw M jm j:Nat) (km tv:List Value) (bb bk:List Int) (st:H8) (hlen:bb.length=64 * M) (hbig:M≤100000000) (hlt:j < M) (hbl:bk.length=64) (hbb:Byt bk)
    (hgm:∀ k,k < 64→(u8s bb++km)[64 * j+k]? = some (.int .u8 (bk.getD k 0))) {Q:Post} {σ:Env} {L:Lst}
    (hs:Sub ([(2,.pointer (some ⟨bT,0,none⟩)),(4,.pointer (some ⟨bO,0,none⟩)),(5,.slice (some ⟨bm,0,none⟩) (64 * M) (64 * M+jm)),(8,.pointer (some ⟨bh,0,none⟩)),(9,.int .i64 (64 * (j:Int))),(10,.pointer (some ⟨bw,0,none⟩)),(11,.int .i64 0)]:Env) σ) (hL:Keep L [(bw,.cells ⟨List.replicate 64 (.int .u32 0)⟩ 53 (0,0)),(bh,.cells ⟨st.v⟩ 54 (0,0)),(bm,.cells ⟨u8s bb++km⟩ 5 (0,0)),(bT,.cells ⟨tv⟩ 56 (0,0)),(bO,.cells ⟨List.replicate 32 (.int .u8 0)⟩ 98 (0,0))])
    (hQ:∀ σ' L',Sub ([(2,.pointer (some ⟨bT,0,none⟩)),(4,.pointer (some ⟨bO,0,none⟩)),(5,.slice (some ⟨bm,0,none⟩) (64 * M) (64 * M+jm)),(8,.pointer (some ⟨bh,0,none⟩)),(9,.int .i64 (64 * (j:Int))),(10,.pointer (some ⟨bw,0,none⟩))]:Env) σ' → Keep L' [(bw,.cells ⟨u32s (schedI bk 64)⟩ 53 (0,0)),(bh,.cells ⟨st.v⟩ 54 (0,0)),(bm,.cells ⟨u8s bb++km⟩ 5 (0,0)),(bT,.cells ⟨tv⟩ 56 (0,0)),(bO,.cells ⟨List.replicate 32 (.int .u8 0)⟩ 98 (0,0))]→Q (.exit 6) σ' L') :
    T ⟨Tryz.prog,tb,266,w,[]⟩ (atL4 (codeOf Tryz.f167)) Q σ L:=by
  apply T.loopK (α:=Nat) (I:=fun i=>i≤64) (σi:=fun i=>[(2,.pointer (some ⟨bT,0,none⟩)),(4,.pointer (some ⟨bO,0,none⟩)),(5,.slice (some ⟨bm,0,none⟩) (64 * M) (64 * M+jm)),(8,.pointer (some ⟨bh,0,none⟩)),(9,.int .i64 (64 * (j:Int))),(10,.pointer (some ⟨bw,0,none⟩)),(11,.int .i64 i)])
    (Li:=fun i=>[(bw,.cells ⟨u32s (schedI bk i)++List.replicate (64 - i) (.int .u32 0)⟩ 53 (0,0)),(bh,.cells ⟨st.v⟩ 54 (0,0)),(bm,.cells ⟨u8s bb++km⟩ 5 (0,0)),(bT,.cells ⟨tv⟩ 56 (0,0)),(bO,.cells ⟨List.replicate 32 (.int .u8 0)⟩ 98 (0,0))]) (μ:=fun i=>64 - i) (i0:=0)
  · exact Nat.zero_le _
  · exact hs
  · exact hL
  · intro i hi
    have hsl:=sched_len bk i
    have hnn:schedI bk (i+1)=schedI bk i++[nextI bk (schedI bk i)]:=rfl
    have hnx:nextI bk (schedI bk i)=nextI bk (schedI bk i):=rfl
    conv at hnx=>rhs;unfold nextI
    rcases Nat.lt_or_ge i 64 with hlt2|hge2
    · generalize schedI bk i=l at *
      obtain ⟨k,hk⟩:∃ k,64 - i=k+1:=⟨63 - i,by omega⟩
      rw [hk]
      rcases Nat.lt_or_ge i 16 with h16|h16
      · rw [if_pos (by omega),hsl] at hnx
        have hq:=fun m (hm:m < 4)=>hgm (4 * i+m) (by omega)
        have hr:=fun m (hm:m < 4)=>hbb (bk.getD (4 * i+m) 0) (by rw [List.getD_eq_getElem?_getD,List.getElem?_eq_getElem (by omega)];exact List.getElem_mem _)
        have g0:(u8s bb++km)[0+(64 * (j:Int)+4 * (i:Int)+0).toNat * 1]? = some (.int .u8 (bk.getD (4 * i) 0)):=by rw [show 0+(64 * (j:Int)+4 * (i:Int)+0).toNat * 1=64 * j+(4 * i+0) by omega];exact hq 0 (by decide)
        have g1:(u8s bb++km)[0+(64 * (j:Int)+4 * (i:Int)+1).toNat * 1]? = some (.int .u8 (bk.getD (4 * i+1) 0)):=by rw [show 0+(64 * (j:Int)+4 * (i:Int)+1).toNat * 1=64 * j+(4 * i+1) by omega];exact hq 1 (by decide)
        have g2:(u8s bb++km)[0+(64 * (j:Int)+4 * (i:Int)+2).toNat * 1]? = some (.int .u8 (bk.getD (4 * i+2) 0)):=by rw [show 0+(64 * (j:Int)+4 * (i:Int)+2).toNat * 1=64 * j+(4 * i+2) by omega];exact hq 2 (by decide)
        have g3:(u8s bb++km)[0+(64 * (j:Int)+4 * (i:Int)+3).toNat * 1]? = some (.int .u8 (bk.getD (4 * i+3) 0)):=by rw [show 0+(64 * (j:Int)+4 * (i:Int)+3).toNat * 1=64 * j+(4 * i+3) by omega];exact hq 3 (by decide)
        have r0:=hr 0 (by decide)
        have r1:=hr 1 (by decide)
        have r2:=hr 2 (by decide)
        have r3:=hr 3 (by decide)
        rw [Nat.add_zero] at r0
        have hw4:=w4 r0 r1 r2 r3
        clear hq hr hgm
        generalize bk.getD (4 * i) 0=c0 at *
        generalize bk.getD (4 * i+1) 0=c1 at *
        generalize bk.getD (4 * i+2) 0=c2 at *
        generalize bk.getD (4 * i+3) 0=c3 at *
        have hgx:∀ x:Int,(u32s l ++ .int .u32 x::List.replicate k (.int .u32 0))[0+(i:Int).toNat * 1]? = some (.int .u32 x):=by
          intro x
          rw [List.getElem?_append_right (by rw [u32s_len];omega)]
          rw [show 0+(i:Int).toNat * 1 - (u32s l).length=0 by rw [u32s_len];omega]
          rfl
        have hpx:∀ x y:Int,setE (u32s l ++ .int .u32 x::List.replicate k (.int .u32 0)) (0+(i:Int).toNat * 1) [.int .u32 y]=some (u32s l ++ .int .u32 y::List.replicate k (.int .u32 0)):=by
          intro x y
          have:=setE_mid (u32s l) (vs:=[.int .u32 y]) (junk:=.int .u32 x::List.replicate k (.int .u32 0)) (by simp)
          rw [show 0+(i:Int).toNat * 1=(u32s l).length by rw [u32s_len];omega,this]
          simp
        rw [List.replicate_succ]
        repeat' (first|(apply R.is1;first|(apply R.isBin;(apply R.pure;exact rfl;first|(apply Ok1.add64;exact rfl;exact rfl;omega;omega)|(apply Ok1.lss_t;exact rfl;exact rfl;omega)|(apply Ok1.lss_f;exact rfl;exact rfl;omega)))|(apply R.pure;exact rfl;first|(apply Ok1.move;exact rfl)|(apply Ok1.assign;exact rfl)))|apply R.nil|(apply T.is;first|apply T.rounds 5|(apply T.drawC (id:=21) [2] (by decide);((apply A.tk 0;exact rfl;kernel_rfl;(apply Ok1.move;exact rfl))<;>(apply A.tk 1;exact rfl;kernel_rfl;(apply Ok1.move;exact rfl))<;>(apply A.tk 2;exact rfl;kernel_rfl;(apply Ok1.indexAddrA;(iterate 5 exact rfl);omega;omega))<;>(apply A.tk 5;exact rfl;kernel_rfl;(apply Ok1.move;exact rfl))<;>(apply A.tk 6;exact rfl;kernel_rfl;(apply Ok1.move;exact rfl))<;>(apply A.tk 7;exact rfl;kernel_rfl;(apply Ok1.move;exact rfl))<;>(apply A.tk 8;exact rfl;kernel_rfl;(apply Ok1.mul64;exact rfl;exact rfl;omega;omega))<;>(apply A.tk 9;exact rfl;kernel_rfl;(apply Ok1.add64;exact rfl;exact rfl;omega;omega))<;>(apply A.tk 10;exact rfl;kernel_rfl;(apply Ok1.move;exact rfl))<;>(apply A.tk 11;exact rfl;kernel_rfl;(apply Ok1.add64;exact rfl;exact rfl;omega;omega))<;>(apply A.tk 12;exact rfl;kernel_rfl;(apply Ok1.indexAddr;(iterate 5 exact rfl);omega;omega))<;>(apply A.tk 13;exact rfl;kernel_rfl;(apply Ok1.load;exact rfl;apply Ld.own1;exact rfl;exact rfl;exact At.head;first|exact g0|exact g1|exact g2|exact g3))<;>(apply A.tk 14;exact rfl;kernel_rfl;(apply Ok1.convU32;(iterate 5 exact rfl);omega;omega))<;>(apply A.one 3;kernel_rfl;exact rfl;(((apply R.pure;exact rfl;(apply Ok1.load;exact rfl;apply Ld.own1;exact rfl;exact rfl;exact At.head;exact hgx _))));apply R.nil;refine ⟨?_,?_⟩;(focus (repeat' first|exact trivial|exact At.head|apply At.tail|refine ⟨?_,?_⟩)))<;>(apply A.tk 4;exact rfl;kernel_rfl;(apply Ok1.mul32;exact rfl;exact rfl))<;>(apply A.tk 15;exact rfl;kernel_rfl;(apply Ok1.add32;exact rfl;exact rfl))<;>(apply A.tk 16;exact rfl;kernel_rfl;(apply Ok1.indexAddrA;(iterate 5 exact rfl);omega;omega))<;>(apply A.one 17;kernel_rfl;exact rfl;(((apply R.store;(iterate 6 exact rfl);exact Upd.head;exact hpx _ _)));apply R.nil;refine ⟨?_,?_⟩;(focus (repeat' first|exact trivial|exact At.head|apply At.tail|refine ⟨?_,?_⟩)))<;>(apply A.done;kernel_rfl)))|apply T.seq|apply T.region|apply T.block|apply T.skip|apply T.exit|(apply T.cond_t;exact rfl)|(apply T.cond_f;exact rfl)))
        refine ⟨i+1,by omega,by omega,⟨rfl,rfl,rfl,rfl,rfl,rfl,rfl,trivial⟩,?_⟩
        have hfin:u32s (l++[nextI bk l])++List.replicate k (.int .u32 0)=u32s l ++ .int .u32 (wr (wr (256 * wr (wr (256 * wr (wr (256 * wr (wr (256 * 0)+c0))+c1))+c2))+c3))::List.replicate k (.int .u32 0):=by rw [hw4,hnx,u32s_app,List.append_assoc];rfl
        rw [hnn,show 64 - (i+1)=k by omega,hfin]
        (focus (repeat' first|exact Keep.nil _|exact Ext.one _ _|apply Keep.cons);done)
      · rw [if_neg (by omega),hsl] at hnx
        have hput:=fun x=>arr_put l x (.int .u32 0) (k:=k)
        rw [hsl] at hput
        have e15:((i:Int) - 15).toNat=i - 15:=by omega
        have e2:((i:Int) - 2).toNat=i - 2:=by omega
        have e16:((i:Int) - 16).toNat=i - 16:=by omega
        have e7:((i:Int) - 7).toNat=i - 7:=by omega
        have g15:(u32s l++List.replicate (k+1) (.int .u32 0))[0+((i:Int) - 15).toNat * 1]? = some (.int .u32 (l.getD (i - 15) 0)):=by rw [e15];exact arr_get (by omega)
        have g2:(u32s l++List.replicate (k+1) (.int .u32 0))[0+((i:Int) - 2).toNat * 1]? = some (.int .u32 (l.getD (i - 2) 0)):=by rw [e2];exact arr_get (by omega)
        have g16:(u32s l++List.replicate (k+1) (.int .u32 0))[0+((i:Int) - 16).toNat * 1]? = some (.int .u32 (l.getD (i - 16) 0)):=by rw [e16];exact arr_get (by omega)
        have g7:(u32s l++List.replicate (k+1) (.int .u32 0))[0+((i:Int) - 7).toNat * 1]? = some (.int .u32 (l.getD (i - 7) 0)):=by rw [e7];exact arr_get (by omega)
        generalize l.getD (i - 15) 0=x15 at *
        generalize l.getD (i - 2) 0=x2 at *
        generalize l.getD (i - 16) 0=x16 at *
        generalize l.getD (i - 7) 0=x7 at *
        repeat' (first|(apply R.is1;first|(apply R.isBin;(apply R.pure;exact rfl;first|(apply Ok1.add64;exact rfl;exact rfl;omega;omega)|(apply Ok1.lss_t;exact rfl;exact rfl;omega)|(apply Ok1.lss_f;exact rfl;exact rfl;omega)))|(apply R.pure;exact rfl;first|(apply Ok1.move;exact rfl)|(apply Ok1.assign;exact rfl)))|apply R.nil|(apply T.is;first|(apply T.drawC (id:=22) [0] (by decide);((apply A.tk 0;exact rfl;kernel_rfl;(apply Ok1.move;exact rfl))<;>(apply A.tk 1;exact rfl;kernel_rfl;(apply Ok1.sub64;exact rfl;exact rfl;omega;omega))<;>(apply A.tk 2;exact rfl;kernel_rfl;(apply Ok1.indexAddrA;(iterate 5 exact rfl);omega;omega))<;>(apply A.tk 3;exact rfl;kernel_rfl;(apply Ok1.load;exact rfl;apply Ld.own1;exact rfl;exact rfl;exact At.head;with_reducible (exact g15)))<;>(apply A.call 4;exact rfl;exact rfl;kernel_rfl;kernel_rfl;kernel_rfl;exact rfl;exact rfl;(exact fun w1 _=>(right1_ok x15 7 128 33554432 (by decide) (by decide) rfl rfl).w w1))<;>(apply A.tk 5;exact rfl;kernel_rfl;(apply Ok1.move;exact rfl))<;>(apply A.tk 6;exact rfl;kernel_rfl;(apply Ok1.sub64;exact rfl;exact rfl;omega;omega))<;>(apply A.tk 7;exact rfl;kernel_rfl;(apply Ok1.indexAddrA;(iterate 5 exact rfl);omega;omega))<;>(apply A.tk 8;exact rfl;kernel_rfl;(apply Ok1.load;exact rfl;apply Ld.own1;exact rfl;exact rfl;exact At.head;with_reducible (exact g15)))<;>(apply A.call 9;exact rfl;exact rfl;kernel_rfl;kernel_rfl;kernel_rfl;exact rfl;exact rfl;(exact fun w1 _=>(right1_ok x15 18 262144 16384 (by decide) (by decide) rfl rfl).w w1))<;>(apply A.tk 10;exact rfl;kernel_rfl;(apply Ok1.xorK;exact rfl;exact rfl))<;>(apply A.tk 11;exact rfl;kernel_rfl;(apply Ok1.move;exact rfl))<;>(apply A.tk 12;exact rfl;kernel_rfl;(apply Ok1.sub64;exact rfl;exact rfl;omega;omega))<;>(apply A.tk 13;exact rfl;kernel_rfl;(apply Ok1.indexAddrA;(iterate 5 exact rfl);omega;omega))<;>(apply A.tk 14;exact rfl;kernel_rfl;(apply Ok1.load;exact rfl;apply Ld.own1;exact rfl;exact rfl;exact At.head;with_reducible (exact g15)))<;>(apply A.tk 15;exact rfl;kernel_rfl;(apply Ok1.shr;exact rfl;exact rfl;omega;exact Nat.le_of_ble_eq_true rfl;(exact pwE3)))<;>(apply A.tk 16;exact rfl;kernel_rfl;(apply Ok1.xorK;exact rfl;exact rfl))<;>(apply A.tk 17;exact rfl;kernel_rfl;(apply Ok1.assign;exact rfl))<;>(apply A.done;kernel_rfl)))|(apply T.drawC (id:=23) [0] (by decide);((apply A.tk 0;exact rfl;kernel_rfl;(apply Ok1.move;exact rfl))<;>(apply A.tk 1;exact rfl;kernel_rfl;(apply Ok1.sub64;exact rfl;exact rfl;omega;omega))<;>(apply A.tk 2;exact rfl;kernel_rfl;(apply Ok1.indexAddrA;(iterate 5 exact rfl);omega;omega))<;>(apply A.tk 3;exact rfl;kernel_rfl;(apply Ok1.load;exact rfl;apply Ld.own1;exact rfl;exact rfl;exact At.head;with_reducible (exact g2)))<;>(apply A.call 4;exact rfl;exact rfl;kernel_rfl;kernel_rfl;kernel_rfl;exact rfl;exact rfl;(exact fun w1 _=>(right1_ok x2 17 131072 32768 (by decide) (by decide) rfl rfl).w w1))<;>(apply A.tk 5;exact rfl;kernel_rfl;(apply Ok1.move;exact rfl))<;>(apply A.tk 6;exact rfl;kernel_rfl;(apply Ok1.sub64;exact rfl;exact rfl;omega;omega))<;>(apply A.tk 7;exact rfl;kernel_rfl;(apply Ok1.indexAddrA;(iterate 5 exact rfl);omega;omega))<;>(apply A.tk 8;exact rfl;kernel_rfl;(apply Ok1.load;exact rfl;apply Ld.own1;exact rfl;exact rfl;exact At.head;with_reducible (exact g2)))<;>(apply A.call 9;exact rfl;exact rfl;kernel_rfl;kernel_rfl;kernel_rfl;exact rfl;exact rfl;(exact fun w1 _=>(right1_ok x2 19 524288 8192 (by decide) (by decide) rfl rfl).w w1))<;>(apply A.tk 10;exact rfl;kernel_rfl;(apply Ok1.xorK;exact rfl;exact rfl))<;>(apply A.tk 11;exact rfl;kernel_rfl;(apply Ok1.move;exact rfl))<;>(apply A.tk 12;exact rfl;kernel_rfl;(apply Ok1.sub64;exact rfl;exact rfl;omega;omega))<;>(apply A.tk 13;exact rfl;kernel_rfl;(apply Ok1.indexAddrA;(iterate 5 exact rfl);omega;omega))<;>(apply A.tk 14;exact rfl;kernel_rfl;(apply Ok1.load;exact rfl;apply Ld.own1;exact rfl;exact rfl;exact At.head;with_reducible (exact g2)))<;>(apply A.tk 15;exact rfl;kernel_rfl;(apply Ok1.shr;exact rfl;exact rfl;omega;exact Nat.le_of_ble_eq_true rfl;(exact rfl)))<;>(apply A.tk 16;exact rfl;kernel_rfl;(apply Ok1.xorK;exact rfl;exact rfl))<;>(apply A.tk 17;exact rfl;kernel_rfl;(apply Ok1.assign;exact rfl))<;>(apply A.done;kernel_rfl)))|(apply T.drawC (id:=24) [] (by decide);((apply A.tk 0;exact rfl;kernel_rfl;(apply Ok1.move;exact rfl))<;>(apply A.tk 1;exact rfl;kernel_rfl;(apply Ok1.move;exact rfl))<;>(apply A.tk 2;exact rfl;kernel_rfl;(apply Ok1.sub64;exact rfl;exact rfl;omega;omega))<;>(apply A.tk 3;exact rfl;kernel_rfl;(apply Ok1.indexAddrA;(iterate 5 exact rfl);omega;omega))<;>(apply A.tk 5;exact rfl;kernel_rfl;(apply Ok1.move;exact rfl))<;>(apply A.tk 7;exact rfl;kernel_rfl;(apply Ok1.move;exact rfl))<;>(apply A.tk 8;exact rfl;kernel_rfl;(apply Ok1.sub64;exact rfl;exact rfl;omega;omega))<;>(apply A.tk 9;exact rfl;kernel_rfl;(apply Ok1.indexAddrA;(iterate 5 exact rfl);omega;omega))<;>(apply A.tk 12;exact rfl;kernel_rfl;(apply Ok1.move;exact rfl))<;>(apply A.two 4 10;kernel_rfl;exact rfl;exact rfl;rotate_left 1;(focus (((((apply R.pure;exact rfl;(apply Ok1.load;exact rfl;apply Ld.own1;exact rfl;exact rfl;exact At.head;with_reducible (exact g7)))));apply R.nil;refine ⟨?_,?_⟩;(focus ((repeat' (exact trivial)))))<;>(apply A.one 4;kernel_rfl;exact rfl;(((apply R.pure;exact rfl;(apply Ok1.load;exact rfl;apply Ld.own1;exact rfl;exact rfl;exact At.head;with_reducible (exact g16)))));apply R.nil;refine ⟨?_,?_⟩;(focus ((repeat' (exact trivial)))))<;>(apply A.tk 6;exact rfl;kernel_rfl;(apply Ok1.add32;exact rfl;exact rfl))<;>(apply A.tk 11;exact rfl;kernel_rfl;(apply Ok1.add32;exact rfl;exact rfl))<;>(apply A.tk 13;exact rfl;kernel_rfl;(apply Ok1.add32;exact rfl;exact rfl))<;>(apply A.tk 14;exact rfl;kernel_rfl;(apply Ok1.indexAddrA;(iterate 5 exact rfl);omega;omega))<;>(apply A.one 15;kernel_rfl;exact rfl;(((apply R.store;(iterate 6 exact rfl);exact Upd.head;exact hput _)));apply R.nil;refine ⟨?_,?_⟩;(focus ((repeat' (exact trivial)))))<;>(apply A.done;kernel_rfl)));rotate_right 1;(focus (((((apply R.pure;exact rfl;(apply Ok1.load;exact rfl;apply Ld.own1;exact rfl;exact rfl;exact At.head;with_reducible (exact g16)))));apply R.nil;refine ⟨?_,?_⟩;(focus ((repeat' (exact trivial)))))<;>(apply A.tk 6;exact rfl;kernel_rfl;(apply Ok1.add32;exact rfl;exact rfl))<;>(apply A.one 10;kernel_rfl;exact rfl;(((apply R.pure;exact rfl;(apply Ok1.load;exact rfl;apply Ld.own1;exact rfl;exact rfl;exact At.head;with_reducible (exact g7)))));apply R.nil;refine ⟨?_,?_⟩;(focus ((repeat' (exact trivial)))))<;>(apply A.tk 11;exact rfl;kernel_rfl;(apply Ok1.add32;exact rfl;exact rfl))<;>(apply A.tk 13;exact rfl;kernel_rfl;(apply Ok1.add32;exact rfl;exact rfl))<;>(apply A.tk 14;exact rfl;kernel_rfl;(apply Ok1.indexAddrA;(iterate 5 exact rfl);omega;omega))<;>(apply A.one 15;kernel_rfl;exact rfl;(((apply R.store;(iterate 6 exact rfl);exact Upd.head;exact hput _)));apply R.nil;refine ⟨?_,?_⟩;(focus ((repeat' (exact trivial)))))<;>(apply A.done;kernel_rfl))))))|apply T.seq|apply T.region|apply T.block|apply T.skip|(apply T.cond_t;exact rfl)|(apply T.cond_f;exact rfl)))
        all_goals refine ⟨i+1,by omega,by omega,⟨rfl,rfl,rfl,rfl,rfl,rfl,rfl,trivial⟩,?_⟩
        all_goals rw [hnn,hnx,show 64 - (i+1)=k by omega]
        all_goals (focus (repeat' first|exact Keep.nil _|exact Ext.one _ _|apply Keep.cons);done)
    · have him:i=64:=by omega
      subst him
      rw [Nat.sub_self,List.replicate_zero,List.append_nil]
      repeat' (first|(apply R.is1;first|(apply R.isBin;(apply R.pure;exact rfl;(apply Ok1.lss_f;exact rfl;exact rfl;omega)))|(apply R.pure;exact rfl;(apply Ok1.move;exact rfl)))|apply R.nil|(apply T.is;first|apply T.seq|apply T.region|apply T.exit|(apply T.cond_f;exact rfl)))
      exact hQ _ _ ⟨rfl,rfl,rfl,rfl,rfl,rfl,trivial⟩ (by (focus (repeat' first|exact Keep.nil _|exact Ext.one _ _|apply Keep.cons);done))
theorem sum_loop6 (w:World) (bT bO bm bh bw bv M jm j:Nat) (km tv us:List Value) (bb W:List Int) (st:H8) (rs:Nat→H8)
    (hgk:∀ i,i < 64→tv[0+i * 1]? = some (.int .u32 (kI.getD i 0))) (hgw:∀ i,i < 64→us[0+i * 1]? = some (.int .u32 (W.getD i 0))) (hr0:rs 0=st) (hrs:∀ i,rs (i+1)=stepI (rs i) (kI.getD i 0) (W.getD i 0)) {Q:Post} {σ:Env} {L:Lst}
    (hs:Sub ([(2,.pointer (some ⟨bT,0,none⟩)),(4,.pointer (some ⟨bO,0,none⟩)),(5,.slice (some ⟨bm,0,none⟩) (64 * M) (64 * M+jm)),(8,.pointer (some ⟨bh,0,none⟩)),(9,.int .i64 (64 * (j:Int))),(10,.pointer (some ⟨bw,0,none⟩)),(15,.pointer (some ⟨bv,0,none⟩)),(16,.int .i64 0)]:Env) σ) (hL:Keep L [(bv,.cells ⟨st.v⟩ 54 (0,0)),(bw,.cells ⟨us⟩ 53 (0,0)),(bh,.cells ⟨st.v⟩ 54 (0,0)),(bm,.cells ⟨u8s bb++km⟩ 5 (0,0)),(bT,.cells ⟨tv⟩ 56 (0,0)),(bO,.cells ⟨List.replicate 32 (.int .u8 0)⟩ 98 (0,0))])
    (hQ:∀ σ' L',Sub ([(2,.pointer (some ⟨bT,0,none⟩)),(4,.pointer (some ⟨bO,0,none⟩)),(5,.slice (some ⟨bm,0,none⟩) (64 * M) (64 * M+jm)),(8,.pointer (some ⟨bh,0,none⟩)),(9,.int .i64 (64 * (j:Int))),(10,.pointer (some ⟨bw,0,none⟩)),(15,.pointer (some ⟨bv,0,none⟩))]:Env) σ' → Keep L' [(bv,.cells ⟨(rs 64).v⟩ 54 (0,0)),(bh,.cells ⟨st.v⟩ 54 (0,0)),(bm,.cells ⟨u8s bb++km⟩ 5 (0,0)),(bT,.cells ⟨tv⟩ 56 (0,0)),(bO,.cells ⟨List.replicate 32 (.int .u8 0)⟩ 98 (0,0))]→Q (.exit 10) σ' L') :
    T ⟨Tryz.prog,tb,266,w,[]⟩ (atL6 (codeOf Tryz.f167)) Q σ L:=by
  apply T.loopK (α:=Nat) (I:=fun i=>i≤64) (σi:=fun i=>[(2,.pointer (some ⟨bT,0,none⟩)),(4,.pointer (some ⟨bO,0,none⟩)),(5,.slice (some ⟨bm,0,none⟩) (64 * M) (64 * M+jm)),(8,.pointer (some ⟨bh,0,none⟩)),(9,.int .i64 (64 * (j:Int))),(10,.pointer (some ⟨bw,0,none⟩)),(15,.pointer (some ⟨bv,0,none⟩)),(16,.int .i64 i)])
    (Li:=fun i=>[(bv,.cells ⟨(rs i).v⟩ 54 (0,0)),(bw,.cells ⟨us⟩ 53 (0,0)),(bh,.cells ⟨st.v⟩ 54 (0,0)),(bm,.cells ⟨u8s bb++km⟩ 5 (0,0)),(bT,.cells ⟨tv⟩ 56 (0,0)),(bO,.cells ⟨List.replicate 32 (.int .u8 0)⟩ 98 (0,0))]) (μ:=fun i=>64 - i) (i0:=0)
  · exact Nat.zero_le _
  · exact hs
  · rw [hr0];exact hL
  · intro i hi
    rcases Nat.lt_or_ge i 64 with hlt3|hge3
    · have g1:=hgk i hlt3
      have g2:=hgw i hlt3
      have hst:=hrs i
      generalize kI.getD i 0=ki at *
      generalize W.getD i 0=wi at *
      generalize rs i=s1 at *
      simp only [H8.v,H8.l,u32s,List.map_cons,List.map_nil]
      repeat' (first|(apply R.is1;first|(apply R.isBin;(apply R.pure;exact rfl;first|(apply Ok1.orCh;exact rfl;exact rfl)|(apply Ok1.orMaj;exact rfl;exact rfl)|(apply Ok1.xorK;exact rfl;exact rfl)|(apply Ok1.andK;exact rfl;exact rfl)|(apply Ok1.orK;exact rfl;exact rfl)|(apply Ok1.add32;exact rfl;exact rfl)|(apply Ok1.add64;exact rfl;exact rfl;omega;omega)|(apply Ok1.lss_t;exact rfl;exact rfl;omega)))|(apply R.pure;exact rfl;first|(apply Ok1.move;exact rfl)|(apply Ok1.load;exact rfl;(apply Ld.own1;exact rfl;exact rfl;exact At.head;exact rfl))|(apply Ok1.assign;exact rfl)|(apply Ok1.indexAddrA;(iterate 5 exact rfl);omega;omega)|(apply Ok1.buildA;(iterate 6 exact rfl))))|(apply R.is0;(apply R.store;(iterate 6 exact rfl);exact Upd.head;exact setE_all rfl))|apply R.nil|(apply T.is;first|(apply T.drawC (id:=29) [0] (by decide);((apply A.tk 0;exact rfl;kernel_rfl;(apply Ok1.indexAddrA;(iterate 5 exact rfl);omega;omega))<;>(apply A.tk 1;exact rfl;kernel_rfl;(apply Ok1.load;exact rfl;(apply Ld.own1;exact rfl;exact rfl;exact At.head;exact rfl)))<;>(apply A.call 2;exact rfl;exact rfl;kernel_rfl;kernel_rfl;kernel_rfl;exact rfl;exact rfl;(exact fun w1 _=>(right1_ok s1.e 6 64 67108864 (by decide) (by decide) rfl rfl).w w1))<;>(apply A.tk 3;exact rfl;kernel_rfl;(apply Ok1.indexAddrA;(iterate 5 exact rfl);omega;omega))<;>(apply A.tk 4;exact rfl;kernel_rfl;(apply Ok1.load;exact rfl;(apply Ld.own1;exact rfl;exact rfl;exact At.head;exact rfl)))<;>(apply A.call 5;exact rfl;exact rfl;kernel_rfl;kernel_rfl;kernel_rfl;exact rfl;exact rfl;(exact fun w1 _=>(right1_ok s1.e 11 2048 2097152 (by decide) (by decide) rfl rfl).w w1))<;>(apply A.tk 6;exact rfl;kernel_rfl;(apply Ok1.xorK;exact rfl;exact rfl))<;>(apply A.tk 7;exact rfl;kernel_rfl;(apply Ok1.indexAddrA;(iterate 5 exact rfl);omega;omega))<;>(apply A.tk 8;exact rfl;kernel_rfl;(apply Ok1.load;exact rfl;(apply Ld.own1;exact rfl;exact rfl;exact At.head;exact rfl)))<;>(apply A.call 9;exact rfl;exact rfl;kernel_rfl;kernel_rfl;kernel_rfl;exact rfl;exact rfl;(exact fun w1 _=>(right1_ok s1.e 25 33554432 128 (by decide) (by decide) rfl rfl).w w1))<;>(apply A.tk 10;exact rfl;kernel_rfl;(apply Ok1.xorK;exact rfl;exact rfl))<;>(apply A.tk 11;exact rfl;kernel_rfl;(apply Ok1.assign;exact rfl))<;>(apply A.done;kernel_rfl)))|(apply T.drawC (id:=31) [0,1,4] (by decide);((apply A.tk 0;exact rfl;kernel_rfl;(apply Ok1.indexAddrA;(iterate 5 exact rfl);omega;omega))<;>(apply A.tk 1;exact rfl;kernel_rfl;(apply Ok1.load;exact rfl;(apply Ld.own1;exact rfl;exact rfl;exact At.head;exact rfl)))<;>(apply A.tk 2;exact rfl;kernel_rfl;(apply Ok1.move;exact rfl))<;>(apply A.tk 3;exact rfl;kernel_rfl;(apply Ok1.add32;exact rfl;exact rfl))<;>(apply A.tk 4;exact rfl;kernel_rfl;(apply Ok1.move;exact rfl))<;>(apply A.tk 5;exact rfl;kernel_rfl;(apply Ok1.add32;exact rfl;exact rfl))<;>(apply A.tk 6;exact rfl;kernel_rfl;(apply Ok1.move;exact rfl))<;>(apply A.tk 7;exact rfl;kernel_rfl;(apply Ok1.fieldAddr;(iterate 5 exact rfl)))<;>(apply A.tk 8;exact rfl;kernel_rfl;(apply Ok1.indexAddrA;(iterate 5 exact rfl);omega;omega))<;>(apply A.tk 9;exact rfl;kernel_rfl;(apply Ok1.load;exact rfl;apply Ld.own1;exact rfl;exact rfl;(focus (repeat' first|exact At.head|apply At.tail);done);exact g1))<;>(apply A.tk 10;exact rfl;kernel_rfl;(apply Ok1.add32;exact rfl;exact rfl))<;>(apply A.tk 11;exact rfl;kernel_rfl;(apply Ok1.move;exact rfl))<;>(apply A.tk 12;exact rfl;kernel_rfl;(apply Ok1.indexAddrA;(iterate 5 exact rfl);omega;omega))<;>(apply A.tk 13;exact rfl;kernel_rfl;(apply Ok1.load;exact rfl;apply Ld.own1;exact rfl;exact rfl;(focus (repeat' first|exact At.head|apply At.tail);done);exact g2))<;>(apply A.tk 14;exact rfl;kernel_rfl;(apply Ok1.add32;exact rfl;exact rfl))<;>(apply A.tk 15;exact rfl;kernel_rfl;(apply Ok1.assign;exact rfl))<;>(apply A.done;kernel_rfl)))|(apply T.drawC (id:=32) [0] (by decide);((apply A.tk 0;exact rfl;kernel_rfl;(apply Ok1.indexAddrA;(iterate 5 exact rfl);omega;omega))<;>(apply A.tk 1;exact rfl;kernel_rfl;(apply Ok1.load;exact rfl;(apply Ld.own1;exact rfl;exact rfl;exact At.head;exact rfl)))<;>(apply A.call 2;exact rfl;exact rfl;kernel_rfl;kernel_rfl;kernel_rfl;exact rfl;exact rfl;(exact fun w1 _=>(right1_ok s1.a 2 4 1073741824 (by decide) (by decide) rfl rfl).w w1))<;>(apply A.tk 3;exact rfl;kernel_rfl;(apply Ok1.indexAddrA;(iterate 5 exact rfl);omega;omega))<;>(apply A.tk 4;exact rfl;kernel_rfl;(apply Ok1.load;exact rfl;(apply Ld.own1;exact rfl;exact rfl;exact At.head;exact rfl)))<;>(apply A.call 5;exact rfl;exact rfl;kernel_rfl;kernel_rfl;kernel_rfl;exact rfl;exact rfl;(exact fun w1 _=>(right1_ok s1.a 13 8192 524288 (by decide) (by decide) rfl rfl).w w1))<;>(apply A.tk 6;exact rfl;kernel_rfl;(apply Ok1.xorK;exact rfl;exact rfl))<;>(apply A.tk 7;exact rfl;kernel_rfl;(apply Ok1.indexAddrA;(iterate 5 exact rfl);omega;omega))<;>(apply A.tk 8;exact rfl;kernel_rfl;(apply Ok1.load;exact rfl;(apply Ld.own1;exact rfl;exact rfl;exact At.head;exact rfl)))<;>(apply A.call 9;exact rfl;exact rfl;kernel_rfl;kernel_rfl;kernel_rfl;exact rfl;exact rfl;(exact fun w1 _=>(right1_ok s1.a 22 4194304 1024 (by decide) (by decide) rfl rfl).w w1))<;>(apply A.tk 10;exact rfl;kernel_rfl;(apply Ok1.xorK;exact rfl;exact rfl))<;>(apply A.tk 11;exact rfl;kernel_rfl;(apply Ok1.assign;exact rfl))<;>(apply A.done;kernel_rfl)))|apply T.seq|apply T.region|apply T.block|apply T.skip|(apply T.cond_t;exact rfl)))
      refine ⟨i+1,by omega,by omega,⟨rfl,rfl,rfl,rfl,rfl,rfl,rfl,rfl,trivial⟩,?_⟩
      rw [hst]
      (focus (repeat' first|exact Keep.nil _|exact Ext.one _ _|apply Keep.cons);done)
    · have him:i=64:=by omega
      subst him
      generalize rs 64=t at *
      repeat' (first|(apply R.is1;first|(apply R.isBin;(apply R.pure;exact rfl;(apply Ok1.lss_f;exact rfl;exact rfl;omega)))|(apply R.pure;exact rfl;(apply Ok1.move;exact rfl)))|apply R.nil|(apply T.is;first|apply T.seq|apply T.region|apply T.exit|(apply T.cond_f;exact rfl)))
      exact hQ _ _ ⟨rfl,rfl,rfl,rfl,rfl,rfl,rfl,trivial⟩ (by (focus (repeat' first|exact Keep.nil _|exact Ext.one _ _|apply Keep.cons|apply Ext.cons);done))
theorem sum_loop8 (w:World) (bO bh bo:Nat) (st:H8) {Q:Post} {σ:Env} {L:Lst}
    (hs:Sub ([(4,.pointer (some ⟨bO,0,none⟩)),(8,.pointer (some ⟨bh,0,none⟩)),(24,.pointer (some ⟨bo,0,none⟩)),(25,.int .i64 0)]:Env) σ) (hL:Keep L [(bo,.cells ⟨List.replicate 32 (.int .u8 0)⟩ 98 (0,0)),(bh,.cells ⟨st.v⟩ 54 (0,0)),(bO,.cells ⟨List.replicate 32 (.int .u8 0)⟩ 98 (0,0))])
    (hQ:∀ σ' L',Sub ([(4,.pointer (some ⟨bO,0,none⟩)),(24,.pointer (some ⟨bo,0,none⟩))]:Env) σ' → Keep L' [(bo,.cells ⟨u8s (outI st)⟩ 98 (0,0)),(bO,.cells ⟨List.replicate 32 (.int .u8 0)⟩ 98 (0,0))]→Q (.exit 14) σ' L') :
    T ⟨Tryz.prog,tb,266,w,[]⟩ (atL8 (codeOf Tryz.f167)) Q σ L:=by
  refine T.weakK ?_ hL hs
  simp only [H8.v,H8.l,u32s,List.map_cons,List.map_nil]
  repeat' (first|(apply R.is1;first|(apply R.isBin;(apply R.pure;exact rfl;first|(apply Ok1.add64;exact rfl;exact rfl;omega;omega)|(apply Ok1.sub64;exact rfl;exact rfl;omega;omega)|(apply Ok1.lss_t;exact rfl;exact rfl;omega)|(apply Ok1.lss_f;exact rfl;exact rfl;omega)|(apply Ok1.mul64;exact rfl;exact rfl;omega;omega)|(apply Ok1.shr;exact rfl;exact rfl;omega;exact Nat.le_of_ble_eq_true rfl;(first|exact pwE8|exact pwE16|exact pwE24|exact rfl))|(apply Ok1.quo64;exact rfl;exact rfl;omega;omega;omega)|(apply Ok1.remN;exact rfl;exact rfl;omega;omega)))|(apply R.pure;exact rfl;first|(apply Ok1.move;exact rfl)|(apply Ok1.load;exact rfl;(apply Ld.own1;exact rfl;exact rfl;(focus (repeat' first|exact At.head|apply At.tail);done);exact rfl))|(apply Ok1.assign;exact rfl)|(apply Ok1.indexAddrA;(iterate 5 exact rfl);omega;omega)|(apply Ok1.conv;(iterate 5 exact rfl))))|(apply R.is0;(apply R.store;(iterate 6 exact rfl);exact Upd.head;exact rfl))|apply R.nil|(apply T.is;first|apply T.rounds 33|apply T.seq|apply T.region|apply T.block|apply T.skip|apply T.exit|(apply T.cond_t;exact rfl)|(apply T.cond_f;exact rfl)))
  refine hQ _ _ ⟨rfl,rfl,trivial⟩ ?_
  have p0:pw 0=1:=rfl
  simp only [Int.reduceAdd,Int.reduceMul,Int.reduceSub,Int.reduceMod,Int.reduceToNat,p0,u8_mod,Int.ediv_one,outI,H8.l,u8s,List.flatMap_cons,List.flatMap_nil,List.map_cons,List.map_nil,List.cons_append,List.nil_append,List.append_nil]
  (focus (repeat' first|exact Keep.nil _|exact Ext.one _ _|apply Keep.cons|apply Ext.cons);done)
theorem sum_ok (p : Option Addr) (n cap:Nat) (b:List Int) (hn:n=b.length) (hbig:n≤999999000) (hb:Byt b) (w:World) (hp:RdSl w p u8V b) :
    CallW Tryz.prog 167 [.agg ⟨tabV⟩,.slice p n cap] w fun v _=>v = .agg ⟨u8s (shaI b)⟩:=by
  subst hn
  have hgk:∀ i,i < 64→tabV[0+i * 1]? = some (.int .u32 (kI.getD i 0)):=fun i hi=>arr_get (l:=kI) (zs:=h0I.v) (by rw [kI_len];exact hi)
  have hgh:subE tabV 64 8=some h0I.v:=rfl
  have htl:tabV.length=72:=rfl
  have hto:tabV.all Value.oneCell'=true:=rfl
  have hx0:OvOk 1 (none:Ov) 0 []:=OvOk.start 1
  generalize tabV=tv at *
  refine enterW (tb:=tb) Tryz.func167 rfl Tryz.ntmps167 rfl ?_
  repeat' (first|(apply R.is1;first|(apply R.buildSlice0;(iterate 4 exact rfl);intro b0)|(apply R.isCall;first|(apply R.appendRd (xs:=b) (v:=u8V) (sz:=1) (ov:=some (b0,0,[])) (n:=0) (old:=[]);(iterate 12 exact rfl);exact ⟨rfl,rfl⟩;(focus ((repeat' (exact Ext.one _ _));done));exact rfl;exact u8V_len;exact rfl;(intro w1 hw1;exact hp.chg hw1.chg (Off.nil _));(focus (rw [fl_u8];exact u8s_one b));omega;intro ov1 hov1 hsome;rw [fl_u8,List.nil_append,Nat.zero_add] at hov1;rw [fl_u8,List.nil_append,Nat.zero_add])|(apply R.append1;(iterate 12 exact rfl);(focus (repeat' first|exact OwnAt.mid hov1|apply OwnAt.tail);done);exact At.head;exact rfl;exact rfl;omega;omega;intro b2 j2 k2 hj2))|(apply R.pure;exact rfl;first|(apply Ok1.move;exact rfl)|(apply Ok1.assign;exact rfl))|(apply R.box;(iterate 3 exact rfl);intro)|(apply R.alloc;(iterate 3 exact rfl);intro)|(apply R.buildSlice;(iterate 12 exact rfl);intro))|apply R.nil|(apply T.is;first|apply T.seq|apply T.region|apply T.block))
  rename_i bT bO bS
  have hovm:=hov1.some (b:=b2) (ys:=[.int .u8 128]) (m:=1) rfl hj2
  obtain ⟨Z,hZ⟩:∃ Z,Z=(119 - b.length % 64) % 64:=⟨_,rfl⟩
  apply T.loopK (α:=Nat × Ov) (I:=fun x=>x.1≤Z∧OvOk 1 x.2 (b.length+1+x.1) (u8s (b++128::List.replicate x.1 0))) (σi:=fun x=>[(1,.slice p b.length cap),(2,.pointer (some ⟨bT,0,none⟩)),(4,.pointer (some ⟨bO,0,none⟩)),(5,slV x.2 (b.length+1+x.1))])
    (Li:=fun x=>(bT,.cells ⟨tv⟩ 56 (0,0))::(bO,.cells ⟨List.replicate 32 (.int .u8 0)⟩ 98 (0,0))::blkL 5 x.2 (u8s (b++128::List.replicate x.1 0))) (μ:=fun x=>Z - x.1) (i0:=(0,some (b2,j2,k2)))
  · refine ⟨Nat.zero_le _,?_⟩
    simp only [List.replicate_zero,u8s_app]
    exact hovm
  · exact ⟨rfl,rfl,rfl,rfl,trivial⟩
  · simp only [blkL,List.replicate_zero,u8s_app]
    (focus (repeat' first|exact Keep.nil _|exact Ext.one _ _|apply Keep.cons|apply Ext.cons);done)
  · clear hov1 hovm hj2
    rintro ⟨j,ov⟩ ⟨hj,hov⟩
    simp only at hj hov ⊢
    rcases Nat.lt_or_ge j Z with hlt|hge
    · have hne:((b.length+1+j:Nat):Int) % 64≠56:=by omega
      repeat' (first|(apply R.is1;first|(apply R.isBin;(apply R.pure;exact rfl;first|(apply Ok1.neq_t;exact rfl;exact rfl;omega)|(apply Ok1.remN;exact rfl;exact rfl;omega;omega)))|(apply R.isCall;first|(apply R.pure;exact rfl;apply Ok1.lenOv;(iterate 3 exact rfl);exact hov)|(apply R.append1;(iterate 12 exact rfl);(focus (repeat' first|exact OwnAt.base hov|apply OwnAt.tail);done);exact At.head;exact rfl;exact rfl;omega;omega;intro b2 j2 k2 hj2))|(apply R.pure;exact rfl;first|(apply Ok1.move;exact rfl)|(apply Ok1.assign;exact rfl))|(apply R.buildSlice;(iterate 12 exact rfl);intro))|apply R.nil|(apply T.is;first|apply T.seq|apply T.region|apply T.block|apply T.skip|(apply T.cond_t;exact rfl)))
      have hov':=hov.some (b:=b2) (ys:=[.int .u8 0]) (m:=1) rfl hj2
      have hu:u8s (b++128::List.replicate (j+1) 0)=u8s (b++128::List.replicate j 0)++[.int .u8 0]:=by rw [List.replicate_succ'];simp [u8s]
      refine ⟨(j+1,some (b2,j2,k2)),⟨by simp only;omega,by simp only [hu];exact hov'⟩,by simp only;omega,⟨rfl,rfl,rfl,rfl,trivial⟩,?_⟩
      simp only [hu,blkL,List.cons_append,List.nil_append]
      (focus (repeat' first|exact Keep.nil _|exact Ext.one _ _|apply Keep.cons|apply Ext.cons);done)
    · have hjZ:j=Z:=by omega
      subst j
      have hne:((b.length+1+Z:Nat):Int) % 64=56:=by omega
      repeat' (first|(apply R.is1;first|(apply R.isBin;(apply R.pure;exact rfl;first|(apply Ok1.mulU;exact rfl;exact rfl;omega;omega)|(apply Ok1.neq_f;exact rfl;exact rfl;omega)|(apply Ok1.remN;exact rfl;exact rfl;omega;omega)))|(apply R.isCall;first|(apply R.pure;exact rfl;apply Ok1.lenOv;(iterate 3 exact rfl);exact hov)|(apply R.pure;exact rfl;(apply Ok1.lenS;(iterate 3 exact rfl))))|(apply R.pure;exact rfl;first|(apply Ok1.convU64;(iterate 5 exact rfl);omega;omega)|(apply Ok1.move;exact rfl)|(apply Ok1.assign;exact rfl)))|apply R.nil|(apply T.is;first|apply T.seq|apply T.region|apply T.block|apply T.exit|(apply T.cond_f;exact rfl)))
      apply T.loopK (α:=Nat × Ov) (I:=fun x=>x.1≤8∧OvOk 1 x.2 (b.length+1+Z+x.1) (u8s (b++128::(List.replicate Z 0++(lenI (8 * (b.length:Int))).take x.1)))) (σi:=fun x=>[(2,.pointer (some ⟨bT,0,none⟩)),(4,.pointer (some ⟨bO,0,none⟩)),(5,slV x.2 (b.length+1+Z+x.1)),(6,.int .u64 (8 * (b.length:Int))),(7,.int .i64 x.1)])
        (Li:=fun x=>(bT,.cells ⟨tv⟩ 56 (0,0))::(bO,.cells ⟨List.replicate 32 (.int .u8 0)⟩ 98 (0,0))::blkL 5 x.2 (u8s (b++128::(List.replicate Z 0++(lenI (8 * (b.length:Int))).take x.1)))) (μ:=fun x=>8 - x.1) (i0:=(0,ov))
      · exact ⟨Nat.zero_le _,by simpa using hov⟩
      · exact ⟨rfl,rfl,rfl,rfl,rfl,trivial⟩
      · simp only [List.take_zero,List.append_nil]
        (focus (repeat' first|exact Ext.one _ _|exact Ext.all _|apply Keep.cons|apply Keep.last);done)
      · clear hov
        rintro ⟨m,ov⟩ ⟨hm,hov⟩
        simp only at hm hov ⊢
        rcases Nat.lt_or_ge m 8 with hlt|hge
        · have hmz:m=0 ∨ m=1 ∨ m=2 ∨ m=3 ∨ m=4 ∨ m=5 ∨ m=6 ∨ m=7:=by omega
          have hu:u8s (b++128::(List.replicate Z 0++(lenI (8 * (b.length:Int))).take (m+1)))=u8s (b++128::(List.replicate Z 0++(lenI (8 * (b.length:Int))).take m))++[.int .u8 ((lenI (8 * (b.length:Int))).getD m 0)]:=by
            rcases hmz with rfl|rfl|rfl|rfl|rfl|rfl|rfl|rfl<;>simp [lenI,u8s]
          obtain ⟨sh,hsh⟩:∃ sh:Int,sh=pw (8 * (7 - m)):=⟨_,rfl⟩
          have hval:IntKind.u8.wrap (8 * (b.length:Int) / sh)=(lenI (8 * (b.length:Int))).getD m 0:=by
            rw [u8_mod]
            subst hsh
            rcases hmz with rfl|rfl|rfl|rfl|rfl|rfl|rfl|rfl<;>first|rfl|(simp [lenI,pw])
          have hj8:(56 - 8 * (m:Int)).toNat=8 * (7 - m):=by omega
          have hsh2:pw (56 - 8 * (m:Int)).toNat=sh:=by rw [hj8];exact hsh.symm
          have hb64:(56 - 8 * (m:Int)).toNat≤IntKind.u64.bits:=by rw [hj8];show 8 * (7 - m)≤64;omega
          have hsh3:IntKind.u64.wrap (1 * sh)=sh∧0 < sh:=by
            subst hsh
            rcases hmz with rfl|rfl|rfl|rfl|rfl|rfl|rfl|rfl<;>exact ⟨rfl,by decide⟩
          clear hsh
          repeat' (first|(apply R.is1;first|(apply R.isBin;(apply R.pure;exact rfl;first|(apply Ok1.shlE;exact rfl;exact rfl;omega;exact hb64;exact hsh2;exact hsh3.1)|(apply Ok1.quoU;exact rfl;exact rfl;omega;exact hsh3.2;omega)|(apply Ok1.add64;exact rfl;exact rfl;omega;omega)|(apply Ok1.sub64;exact rfl;exact rfl;omega;omega)|(apply Ok1.lss_t;exact rfl;exact rfl;omega)|(apply Ok1.mul64;exact rfl;exact rfl;omega;omega)))|(apply R.isCall;(apply R.append1;(iterate 12 exact rfl);(focus (repeat' first|exact OwnAt.base hov|apply OwnAt.tail);done);exact At.head;exact rfl;exact rfl;omega;omega;intro b2 j2 k2 hj2))|(apply R.pure;exact rfl;first|(apply Ok1.move;exact rfl)|(apply Ok1.assign;exact rfl)|(apply Ok1.conv;(iterate 5 exact rfl)))|(apply R.buildSlice;(iterate 12 exact rfl);intro))|apply R.nil|(apply T.is;first|apply T.seq|apply T.region|apply T.block|apply T.skip|(apply T.cond_t;exact rfl)))
          have hov':=hov.some (b:=b2) (ys:=[.int .u8 (IntKind.u8.wrap (8 * (b.length:Int) / sh))]) (m:=1) rfl hj2
          rw [hval,← hu] at hov'
          rw [hval,← hu]
          refine ⟨(m+1,some (b2,j2,k2)),⟨by simp only;omega,hov'⟩,by simp only;omega,⟨rfl,rfl,rfl,rfl,rfl,trivial⟩,?_⟩
          simp only [blkL,List.cons_append,List.nil_append]
          (focus (repeat' first|exact Keep.nil _|exact Ext.one _ _|apply Keep.cons|apply Ext.cons);done)
        · have hm8:m=8:=by omega
          subst hm8
          have hpad:b++(128::(List.replicate Z 0++(lenI (8 * (b.length:Int))).take 8))=b++padI b.length:=by subst hZ;rfl
          rw [hpad] at hov ⊢
          have hpl:b.length+1+Z+8=(b++padI b.length).length:=by rw [List.length_append,pad_len];omega
          have hbp:Byt (b++padI b.length):=hb.app (pad_byt _)
          have hpb:(b++padI b.length).length≤999999100:=by omega
          have hmod:(b++padI b.length).length % 64=0:=by rw [List.length_append,pad_len];omega
          rw [hpl] at hov ⊢
          obtain ⟨M,hM⟩:∃ M,M=(b++padI b.length).length / 64:=⟨_,rfl⟩
          have hsha:shaI b=outI (allI kI M (b++padI b.length) h0I):=by rw [hM];rfl
          rw [hsha]
          have hlen:(b++padI b.length).length=64 * M:=by omega
          rw [hlen] at hov ⊢
          generalize b++padI b.length=bb at *
          obtain ⟨bm,jm,km,rfl⟩:=ovsome hov (by omega)
          simp only [slV,blkL]
          repeat' (first|(apply R.is1;first|(apply R.isBin;(apply R.pure;exact rfl;(apply Ok1.lss_f;exact rfl;exact rfl;omega)))|(apply R.pure;exact rfl;first|(apply Ok1.load;exact rfl;apply Ld.ownk;exact rfl;exact rfl;exact At.head;exact hgh)|(apply Ok1.move;exact rfl)|(apply Ok1.fieldAddr;(iterate 5 exact rfl))|(apply Ok1.assign;exact rfl))|(apply R.alloc;(iterate 3 exact rfl);intro))|(apply R.is0;(apply R.store;(iterate 6 exact rfl);exact Upd.head;exact setE_all rfl))|apply R.nil|(apply T.is;first|apply T.seq|apply T.region|apply T.block|apply T.exit|(apply T.cond_f;exact rfl)))
          repeat' (fail)
          rename_i bh
          apply T.loopK (α:=Nat) (I:=fun j=>j≤M) (σi:=fun j=>[(2,.pointer (some ⟨bT,0,none⟩)),(4,.pointer (some ⟨bO,0,none⟩)),(5,.slice (some ⟨bm,0,none⟩) (64 * M) (64 * M+jm)),(8,.pointer (some ⟨bh,0,none⟩)),(9,.int .i64 (64 * (j:Int)))])
            (Li:=fun j=>[(bh,.cells ⟨(allI kI j bb h0I).v⟩ 54 (0,0)),(bm,.cells ⟨u8s bb++km⟩ 5 (0,0)),(bT,.cells ⟨tv⟩ 56 (0,0)),(bO,.cells ⟨List.replicate 32 (.int .u8 0)⟩ 98 (0,0))]) (μ:=fun j=>M - j) (i0:=0)
          · exact Nat.zero_le _
          · exact ⟨rfl,rfl,rfl,rfl,rfl,trivial⟩
          · (focus (repeat' first|exact Keep.nil _|exact Ext.one _ _|apply Keep.cons|apply Ext.cons);done)
          · intro j hj
            have hsn:=all_snoc kI j bb h0I
            generalize hst0:allI kI j bb h0I=st at *
            rcases Nat.lt_or_ge j M with hlt|hge
            · repeat' (first|(apply R.is1;first|(apply R.isBin;(apply R.pure;exact rfl;(apply Ok1.lss_t;exact rfl;exact rfl;omega)))|(apply R.isCall;(apply R.pure;exact rfl;(apply Ok1.lenS;(iterate 3 exact rfl))))|(apply R.pure;exact rfl;first|(apply Ok1.move;exact rfl)|(apply Ok1.assign;exact rfl)|(apply Ok1.buildA;(iterate 6 exact rfl)))|(apply R.alloc;(iterate 3 exact rfl);intro))|(apply R.is0;(apply R.store;(iterate 6 exact rfl);exact Upd.head;exact rfl))|apply R.nil|(apply T.is;first|apply T.seq|apply T.region|apply T.block|apply T.skip|(apply T.cond_t;exact rfl)))
              rename_i bw
              obtain ⟨bk,hbk⟩:∃ bk,bk=(bb.drop (64 * j)).take 64:=⟨_,rfl⟩
              have hbl:bk.length=64:=by rw [hbk,List.length_take,List.length_drop];omega
              have hbb:Byt bk:=by rw [hbk];exact (hbp.drop _).take _
              rw [← hbk] at hsn
              have hgm:∀ k,k < 64→(u8s bb++km)[64 * j+k]? = some (.int .u8 (bk.getD k 0)):=by
                intro k hk
                rw [List.getElem?_append_left (by rw [u8s_len];omega)]
                simp only [u8s,List.getElem?_map,hbk,List.getD_eq_getElem?_getD,List.getElem?_take,List.getElem?_drop,hk,if_true]
                rw [List.getElem?_eq_getElem (by omega)]
                rfl
              clear hbk
              have hM8:M≤100000000:=by omega
              repeat' ((apply T.is;(refine sum_loop4 w bT bO bm bh bw M jm j km tv bb bk st hlen hM8 hlt hbl hbb hgm ?_ ?_ ?_)))
              · exact ⟨rfl,rfl,rfl,rfl,rfl,rfl,rfl,trivial⟩
              · (focus (repeat' first|exact Keep.nil _|exact Ext.one _ _|apply Keep.cons);done)
              · intro σ' L' hs hk
                refine T.weakK (σ':=[(2,.pointer (some ⟨bT,0,none⟩)),(4,.pointer (some ⟨bO,0,none⟩)),(5,.slice (some ⟨bm,0,none⟩) (64 * M) (64 * M+jm)),(8,.pointer (some ⟨bh,0,none⟩)),(9,.int .i64 (64 * (j:Int))),(10,.pointer (some ⟨bw,0,none⟩))]) ?_ hk hs
                have hsl:=sched_len bk 64
                have hgw:∀ i,i < 64→(u32s (schedI bk 64))[0+i * 1]? = some (.int .u32 ((schedI bk 64).getD i 0)):=fun i hi=>by have:=arr_get (l:=schedI bk 64) (zs:=[]) (k:=i) (by omega);rwa [List.append_nil] at this
                have hmix:mixI kI bk st=addH st (roundsI kI (schedI bk 64) st 64):=rfl
                have hr0:roundsI kI (schedI bk 64) st 0=st:=rfl
                have hrs:∀ i,roundsI kI (schedI bk 64) st (i+1)=stepI (roundsI kI (schedI bk 64) st i) (kI.getD i 0) ((schedI bk 64).getD i 0):=fun _=>rfl
                have hsv:subE st.v 0 8=some st.v:=subE_all rfl
                clear hgm
                generalize roundsI kI (schedI bk 64) st=rs at *
                generalize hW:u32s (schedI bk 64)=us at *
                repeat' (first|(apply R.is1;first|(apply R.pure;exact rfl;first|(apply Ok1.load;exact rfl;apply Ld.ownk;exact rfl;exact rfl;(focus (repeat' first|exact At.head|apply At.tail);done);exact hsv)|(apply Ok1.assign;exact rfl))|(apply R.alloc;(iterate 3 exact rfl);intro))|(apply R.is0;(apply R.store;(iterate 6 exact rfl);exact Upd.head;exact setE_all rfl))|apply R.nil|(apply T.is;first|apply T.seq|apply T.region|apply T.block))
                rename_i bv
                repeat' ((apply T.is;(refine sum_loop6 w bT bO bm bh bw bv M jm j km tv us bb (schedI bk 64) st rs hgk hgw hr0 hrs ?_ ?_ ?_)))
                · exact ⟨rfl,rfl,rfl,rfl,rfl,rfl,rfl,rfl,trivial⟩
                · (focus (repeat' first|exact Keep.nil _|exact Ext.one _ _|apply Keep.cons);done)
                · intro σ' L' hs hk
                  refine T.weakK (σ':=[(2,.pointer (some ⟨bT,0,none⟩)),(4,.pointer (some ⟨bO,0,none⟩)),(5,.slice (some ⟨bm,0,none⟩) (64 * M) (64 * M+jm)),(8,.pointer (some ⟨bh,0,none⟩)),(9,.int .i64 (64 * (j:Int))),(10,.pointer (some ⟨bw,0,none⟩)),(15,.pointer (some ⟨bv,0,none⟩))]) ?_ hk hs
                  rw [hmix] at hsn
                  generalize rs 64=t at *
                  clear hgk hgw hrs
                  simp only [H8.v,H8.l,u32s,List.map_cons,List.map_nil]
                  repeat' (first|(apply R.is1;first|(apply R.isBin;(apply R.pure;exact rfl;first|(apply Ok1.add64;exact rfl;exact rfl;omega;omega)|(apply Ok1.lss_t;exact rfl;exact rfl;omega)|(apply Ok1.lss_f;exact rfl;exact rfl;omega)))|(apply R.pure;exact rfl;first|(apply Ok1.move;exact rfl)|(apply Ok1.assign;exact rfl)))|apply R.nil|(apply T.is;first|apply T.rounds 9|(apply T.drawC (id:=39) [0] (by decide);((apply A.tk 0;exact rfl;kernel_rfl;(apply Ok1.move;exact rfl))<;>(apply A.tk 1;exact rfl;kernel_rfl;(apply Ok1.move;exact rfl))<;>(apply A.tk 2;exact rfl;kernel_rfl;(apply Ok1.indexAddrA;(iterate 5 exact rfl);omega;omega))<;>(apply A.tk 4;exact rfl;kernel_rfl;(apply Ok1.move;exact rfl))<;>(apply A.tk 5;exact rfl;kernel_rfl;(apply Ok1.indexAddrA;(iterate 5 exact rfl);omega;omega))<;>(apply A.tk 6;exact rfl;kernel_rfl;(apply Ok1.load;exact rfl;(apply Ld.own1;exact rfl;exact rfl;exact At.head;exact rfl)))<;>(apply A.one 3;kernel_rfl;exact rfl;(((apply R.pure;exact rfl;(apply Ok1.load;exact rfl;(apply Ld.own1;exact rfl;exact rfl;(focus (repeat' first|exact At.head|apply At.tail);done);exact rfl)))));apply R.nil;refine ⟨?_,?_⟩;(focus ((repeat' (first|exact trivial|(refine ⟨?_,?_⟩;exact At.head))))))<;>(apply A.tk 7;exact rfl;kernel_rfl;(apply Ok1.add32;exact rfl;exact rfl))<;>(apply A.tk 8;exact rfl;kernel_rfl;(apply Ok1.indexAddrA;(iterate 5 exact rfl);omega;omega))<;>(apply A.one 9;kernel_rfl;exact rfl;(((apply R.store;(iterate 6 exact rfl);(focus (repeat' first|exact Upd.head|apply Upd.tail);done);exact rfl)));apply R.nil;refine ⟨?_,?_⟩;(focus ((repeat' (first|exact trivial|(refine ⟨?_,?_⟩;exact At.head))))))<;>(apply A.done;kernel_rfl)))|apply T.seq|apply T.region|apply T.block|apply T.skip|apply T.exit|(apply T.cond_t;exact rfl)|(apply T.cond_f;exact rfl)))
                  refine ⟨j+1,by omega,by omega,⟨rfl,rfl,rfl,rfl,?_,trivial⟩,?_⟩
                  · rw [show (64:Int) * ((j+1:Nat):Int)=64 * (j:Int)+64 by omega];rfl
                  · rw [hsn];(focus (repeat' first|exact Keep.nil _|exact Ext.one _ _|apply Keep.cons|apply Ext.cons);done)
            · have hjM:j=M:=by omega
              subst hjM
              rw [hst0]
              clear hgk hgh hsn
              have hol:(u8s (outI st)).length=32:=by rw [u8s_len,out_len]
              have hoo:=u8s_one (outI st)
              repeat' (first|(apply R.is1;first|(apply R.isBin;(apply R.pure;exact rfl;(apply Ok1.lss_f;exact rfl;exact rfl;omega)))|(apply R.isCall;(apply R.pure;exact rfl;(apply Ok1.lenS;(iterate 3 exact rfl))))|(apply R.pure;exact rfl;first|(apply Ok1.move;exact rfl)|(apply Ok1.assign;exact rfl)|(apply Ok1.buildA;(iterate 6 exact rfl)))|(apply R.alloc;(iterate 3 exact rfl);intro))|(apply R.is0;(apply R.store;(iterate 6 exact rfl);exact Upd.head;exact rfl))|apply R.nil|(apply T.is;first|apply T.seq|apply T.region|apply T.block|apply T.exit|(apply T.cond_f;exact rfl)))
              rename_i bo
              refine sum_loop8 w bO bh bo st ?_ ?_ ?_
              · exact ⟨rfl,rfl,rfl,rfl,trivial⟩
              · (focus (repeat' first|exact Keep.nil _|exact Ext.one _ _|apply Keep.cons|apply Ext.cons);done)
              · intro σ' L' hs hk
                refine T.weakK (σ':=[(4,.pointer (some ⟨bO,0,none⟩)),(24,.pointer (some ⟨bo,0,none⟩))]) ?_ hk hs
                repeat' (first|(apply R.is1;(apply R.pure;exact rfl;(apply Ok1.load;exact rfl;apply Ld.ownk;exact rfl;exact rfl;exact At.head;exact subE_all hol)))|(apply R.is0;(apply R.store;(iterate 4 exact rfl);exact hol;exact hoo;(focus (repeat' first|exact Upd.head|apply Upd.tail);done);exact setE_all hol))|apply R.nil|(apply T.is;first|apply T.seq|apply T.region|apply T.ret))
                apply RetOk.c
                exact rfl
                apply Ld.ownk
                exact rfl
                exact rfl
                (focus (repeat' first|exact At.head|apply At.tail);done)
                exact subE_all hol
                rfl
def iV (x:Int):List Value:=[.int .i64 x]
theorem iV_len (x:Int):(iV x).length=1:=rfl
def iis (xs:List Int):List Value:=xs.map fun x=>.int .i64 x
theorem iis_len (xs:List Int):(iis xs).length=xs.length:=by simp [iis]
theorem iis_one (xs:List Int):(iis xs).all Value.oneCell'=true:=by simp [iis,Value.oneCell']
theorem iis_app (xs ys:List Int):iis (xs++ys)=iis xs++iis ys:=by simp [iis]
theorem fl_i (xs:List Int):fl iV xs=iis xs:=by
  unfold fl iis
  induction xs with
  | nil=>rfl
  | cons a l ih=>simp only [List.map_cons,List.flatten_cons,ih];rfl
theorem irdown {ov:Ov} {xs:List Int} {e:Nat} (hov:OvOk 1 ov xs.length (iis xs)) {w0 w:World} {S:List Nat} {L:Lst} (hw:Hp w0 S L w) (hin:∀ x∈blkL e ov (iis xs),x∈L):RdSl w (ovp ov) iV xs:=by
  rw [← fl_i] at hov hin
  exact RdSl.own' hw hin hov iV_len
/-- A log: nothing,or a slice of one's own. -/
structure Lg where
  ov:Ov
  xs:List Int
def Lg.v (g:Lg):Value:=slV g.ov g.xs.length
def Lg.L (g:Lg):Lst:=blkL 3 g.ov (iis g.xs)
def Lg.ok (g:Lg):Prop:=OvOk 1 g.ov g.xs.length (iis g.xs)
theorem Lg.v_eq {g:Lg} (h:g.ok):g.v = .slice (ovp g.ov) g.xs.length (ovc g.ov g.xs.length):=slV_eq h
def lg0:Lg:=⟨none,[]⟩
theorem lg0_ok:lg0.ok:=⟨rfl,rfl⟩
theorem Lg.rd {g:Lg} (h:g.ok) {w0 w:World} {S:List Nat} {L:Lst} (hw:Hp w0 S L w) (hin:∀ x∈g.L,x∈L):RdSl w (ovp g.ov) iV g.xs:=irdown h hw hin
theorem irdnone {n:Nat} {xs:List Int} {w:World} (hn:n=xs.length) (h:RdSl w none iV xs):n=0:=by
  rcases h with h|⟨b,o,h,_⟩
  · rw [hn,h];rfl
  · cases h
theorem iclone_ok (p:Option Addr) (n cap:Nat) (xs:List Int) (hn:n=xs.length) (hbig:n≤1000000000) (w:World) (hp:RdSl w p iV xs):CallM Tryz.prog 168 [.slice p n cap] [] w fun v L=>∃ ov,OvOk 1 ov n (iis xs)∧ov.isSome=p.isSome∧v=slV ov n∧L=blkL 3 ov (iis xs):=by
  refine enterK (tb:=tb) Tryz.func168 rfl Tryz.ntmps168 rfl ?_
  cases p with
  | none =>
    have h0:=irdnone hn hp
    have hx:xs=[]:=List.eq_nil_of_length_eq_zero (by omega)
    subst hx
    repeat' (first|(apply R.is1;first|(apply R.isBin;(apply R.pure;exact rfl;(apply Ok1.eqlS;(iterate 5 exact rfl))))|(apply R.pure;exact rfl;first|(apply Ok1.move;exact rfl)|(apply Ok1.assign;exact rfl)))|apply R.nil|(apply T.is;first|apply T.seq|apply T.region|apply T.ret|(apply T.cond_t;exact rfl)))
    (apply RetOk.t;exact rfl)
    exact ⟨_,by (focus ((repeat' (exact Keep.nil _));done)),none,by rw [h0];exact OvOk.start 1,rfl,rfl,rfl⟩
  | some a =>
    repeat' (first|(apply R.is1;first|(apply R.buildSlice0;(iterate 4 exact rfl);intro b0)|(apply R.isBin;(apply R.pure;exact rfl;(apply Ok1.eqlS;(iterate 5 exact rfl))))|(apply R.isCall;(apply R.appendRd (xs:=xs) (v:=iV) (sz:=1) (ov:=some (b0,0,[])) (n:=0) (old:=[]);(iterate 12 exact rfl);exact ⟨rfl,rfl⟩;(focus ((repeat' (exact Ext.one _ _));done));exact hn;exact iV_len;exact rfl;(intro w1 hw1;exact hp.chg hw1.chg (Off.nil _));(focus (rw [fl_i];exact iis_one xs));omega;intro ov1 hov1 hsome))|(apply R.pure;exact rfl;first|(apply Ok1.move;exact rfl)|(apply Ok1.assign;exact rfl)))|apply R.nil|(apply T.is;first|apply T.seq|apply T.region|apply T.skip|apply T.ret|(apply T.cond_f;exact rfl)))
    rw [Nat.zero_add,List.nil_append,fl_i] at hov1
    rw [Nat.zero_add,List.nil_append,fl_i]
    repeat' (fail)
    (apply RetOk.t;exact rfl)
    refine ⟨_,?_,ov1,hov1,by rw [hsome rfl];rfl,rfl,rfl⟩
    (focus (repeat' first|exact Ext.here _ _|apply Keep.last);done)
theorem igrow_ok (n:Nat) (hbig:n≤1000000000) (w:World):CallM Tryz.prog 159 [.slice none 0 0,.int .i64 n] [] w fun v L=>∃ ov,OvOk 1 ov 0 []∧v=slV ov 0∧L=blkL 3 ov []:=by
  refine enterK (tb:=tb) Tryz.func159 rfl Tryz.ntmps159 rfl ?_
  rcases Nat.eq_zero_or_pos n with h0|h0
  · subst h0
    repeat' (first|(apply R.is1;first|(apply R.isBin;(apply R.pure;exact rfl;first|(apply Ok1.sub64;exact rfl;exact rfl;omega;omega)|(apply Ok1.lss_f;exact rfl;exact rfl;omega)|(apply Ok1.gtr_f;exact rfl;exact rfl;omega)))|(apply R.isCall;(apply R.pure;exact rfl;(apply Ok1.lenS;(iterate 3 exact rfl))))|(apply R.pure;exact rfl;first|(apply Ok1.capS;(iterate 3 exact rfl))|(apply Ok1.move;exact rfl)|(apply Ok1.assign;exact rfl)))|apply R.nil|(apply T.is;first|apply T.seq|apply T.region|apply T.skip|apply T.ret|(apply T.cond_f;exact rfl)))
    (apply RetOk.t;exact rfl)
    exact ⟨_,by (focus ((repeat' (exact Keep.nil _));done)),none,OvOk.start 1,rfl,rfl⟩
  · repeat' (first|(apply R.is1;first|(apply R.isBin;(apply R.pure;exact rfl;first|(apply Ok1.sub64;exact rfl;exact rfl;omega;omega)|(apply Ok1.lss_f;exact rfl;exact rfl;omega)|(apply Ok1.gtr_t;exact rfl;exact rfl;omega)))|(apply R.isCall;first|(apply R.growMk (n:=n);(iterate 12 exact rfl);omega;omega;intro b0 j0)|(apply R.pure;exact rfl;(apply Ok1.lenS;(iterate 3 exact rfl))))|(apply R.pure;exact rfl;first|(apply Ok1.capS;(iterate 3 exact rfl))|(apply Ok1.move;exact rfl)|(apply Ok1.assign;exact rfl)|(apply Ok1.slice0;(iterate 7 exact rfl);(refine ⟨?_,?_,?_⟩<;>omega);(exact Or.inl rfl))|(apply Ok1.sliceTo;(iterate 6 exact rfl);omega;omega;omega;(exact Or.inl rfl))))|apply R.nil|(apply T.is;first|apply T.seq|apply T.region|apply T.skip|apply T.ret|(apply T.cond_t;exact rfl)|(apply T.cond_f;exact rfl)))
    (apply RetOk.t;exact rfl)
    refine ⟨_,?_,some (b0,n+j0,List.replicate (n+j0) (.int .i64 0)),⟨rfl,by simp⟩,by simp [slV];omega,rfl⟩
    simp only [blkL,List.nil_append]
    (focus (repeat' first|exact Keep.nil _|exact Ext.one _ _|apply Keep.cons);done)
/-- A part: a slice of integers. -/
structure Pi where
  p:Option Addr
  cap:Nat
  xs:List Int
deriving Inhabited
def Pi.v (x:Pi):List Value:=[.slice x.p x.xs.length x.cap]
theorem Pi.v_len (x:Pi):x.v.length=1:=rfl
def icat (ps:List Pi):List Int:=ps.flatMap (·.xs)
theorem icat_nil:icat []=[]:=rfl
theorem icat_snoc {ps:List Pi} {i:Nat} {x:Pi} (h:ps[i]? = some x):icat (ps.take (i+1))=icat (ps.take i)++x.xs:=by
  unfold icat
  rw [List.take_add_one,h,List.flatMap_append]
  simp
theorem icat_le (ps:List Pi) (i:Nat):(icat (ps.take i)).length≤(icat ps).length:=by
  conv=>rhs;rw [← List.take_append_drop i ps]
  unfold icat
  rw [List.flatMap_append,List.length_append]
  omega
theorem iconcat_ok (p:Option Addr) (n cap:Nat) (ps:List Pi) (hn:n=ps.length) (hbig:(icat ps).length≤1000000000) (hbig2:n≤1000000000) (w:World) (hp:RdSl w p Pi.v ps) (hall:∀ x∈ps,RdSl w x.p iV x.xs) :
    CallM Tryz.prog 87 [.slice p n cap] [] w fun v L=>∃ ov,OvOk 1 ov (icat ps).length (iis (icat ps))∧v=slV ov (icat ps).length∧L=blkL 3 ov (iis (icat ps)):=by
  subst hn
  refine enterK (tb:=tb) Tryz.func87 rfl Tryz.ntmps87 rfl ?_
  repeat' (first|(apply R.is1;first|(apply R.isCall;(apply R.pure;exact rfl;(apply Ok1.lenS;(iterate 3 exact rfl))))|(apply R.pure;exact rfl;first|(apply Ok1.move;exact rfl)|(apply Ok1.assign;exact rfl)))|apply R.nil|(apply T.is;first|apply T.seq|apply T.region|apply T.block))
  apply T.loopK (α:=Nat) (I:=fun i=>i≤ps.length) (σi:=fun i=>[(0,.slice p ps.length cap),(3,.int .i64 (icat (ps.take i)).length),(9,.slice p ps.length cap),(10,.int .i64 ps.length),(11,.int .i64 i)]) (Li:=fun _=>[]) (μ:=fun i=>ps.length - i) (i0:=0)
  · exact Nat.zero_le _
  · exact ⟨rfl,rfl,rfl,rfl,rfl,trivial⟩
  · (focus ((repeat' (exact Keep.nil _));done))
  · intro i hi
    have hle:=icat_le ps i
    rcases Nat.lt_or_ge i ps.length with hlt|hge
    · obtain ⟨x,hx⟩:∃ x,ps[i]? = some x:=⟨_,List.getElem?_eq_getElem (by omega)⟩
      obtain ⟨b,o,hpe,H⟩:=hp.at hx
      replace H:=H 1 Pi.v_len
      have hs:=icat_snoc hx
      have hl:=congrArg List.length hs
      rw [List.length_append] at hl
      have hle2:=icat_le ps (i+1)
      repeat' (first|(apply R.is1;first|(apply R.isBin;(apply R.pure;exact rfl;first|(apply Ok1.add64;exact rfl;exact rfl;omega;omega)|(apply Ok1.lss_t;exact rfl;exact rfl;omega)|(apply Ok1.lss_f;exact rfl;exact rfl;omega)))|(apply R.isCall;(apply R.pure;exact rfl;(apply Ok1.lenS;(iterate 3 exact rfl))))|(apply R.pure;exact rfl;first|(apply Ok1.indexAddrP;(iterate 4 exact rfl);exact hpe;exact rfl;omega;omega)|(apply Ok1.load;exact rfl;apply Ld.row0 H;exact rfl;exact List.not_mem_nil;(iterate 3 exact rfl))|(apply Ok1.move;exact rfl)|(apply Ok1.assign;exact rfl)))|apply R.nil|(apply T.is;first|apply T.seq|apply T.region|apply T.block|apply T.skip|(apply T.cond_t;exact rfl)|(apply T.cond_f;exact rfl)))
      refine ⟨i+1,by omega,by omega,⟨rfl,?_,rfl,rfl,rfl,trivial⟩,by (focus ((repeat' (exact Keep.nil _));done))⟩
      rw [hl]
      rfl
    · have him:i=ps.length:=by omega
      subst him
      rw [List.take_length]
      have hgr:=fun w1=>igrow_ok (icat ps).length hbig w1
      repeat' (first|(apply R.is1;first|(apply R.isBin;(apply R.pure;exact rfl;(apply Ok1.lss_f;exact rfl;exact rfl;omega)))|(apply R.isCall;first|(apply R.callE;(iterate 3 exact rfl);exact Ext.none _;intro w1 hw1;exact hgr w1;rintro v Lo ⟨ov0,hov0,rfl,rfl⟩)|(apply R.pure;exact rfl;(apply Ok1.lenS;(iterate 3 exact rfl))))|(apply R.pure;exact rfl;first|(apply Ok1.move;exact rfl)|(apply Ok1.assign;exact rfl)))|apply R.nil|(apply T.is;first|apply T.seq|apply T.region|apply T.block|apply T.exit|(apply T.cond_f;exact rfl)))
      apply T.loopK (α:=Nat × Ov) (I:=fun y=>y.1≤ps.length∧OvOk 1 y.2 (icat (ps.take y.1)).length (iis (icat (ps.take y.1)))) (σi:=fun y=>[(6,slV y.2 (icat (ps.take y.1)).length),(25,.slice p ps.length cap),(26,.int .i64 ps.length),(27,.int .i64 y.1)]) (Li:=fun y=>blkL 3 y.2 (iis (icat (ps.take y.1)))) (μ:=fun y=>ps.length - y.1) (i0:=(0,ov0))
      · exact ⟨Nat.zero_le _,hov0⟩
      · exact ⟨rfl,rfl,rfl,rfl,trivial⟩
      · simp only [List.take_zero,icat_nil]
        change Keep _ (blkL 3 ov0 [])
        (focus (repeat' first|exact Ext.here _ _|apply Keep.last);done)
      · rintro ⟨i,ov⟩ ⟨hi,hov⟩
        simp only at hi hov ⊢
        rcases Nat.lt_or_ge i ps.length with hlt|hge
        · obtain ⟨x,hx⟩:∃ x,ps[i]? = some x:=⟨_,List.getElem?_eq_getElem (by omega)⟩
          obtain ⟨b,o,hpe,H⟩:=hp.at hx
          replace H:=H 1 Pi.v_len
          have hs:=icat_snoc hx
          have hl:=congrArg List.length hs
          rw [List.length_append] at hl
          have hle2:=icat_le ps (i+1)
          have hrd:=hall x (List.mem_of_getElem? hx)
          repeat' (first|(apply R.is1;first|(apply R.isBin;(apply R.pure;exact rfl;first|(apply Ok1.add64;exact rfl;exact rfl;omega;omega)|(apply Ok1.lss_t;exact rfl;exact rfl;omega)))|(apply R.isCall;(apply R.appendRd (xs:=x.xs) (v:=iV) (sz:=1) (ov:=ov) (n:=(icat (ps.take i)).length) (old:=iis (icat (ps.take i)));(iterate 12 exact rfl);exact hov;(focus ((repeat' (exact Ext.all _));done));exact rfl;exact iV_len;exact rfl;(intro w1 hw1;exact hrd.chg hw1.chg (Off.nil _));(focus (rw [fl_i];exact iis_one x.xs));omega;intro ov1 hov1 hsome))|(apply R.pure;exact rfl;first|(apply Ok1.indexAddrP;(iterate 4 exact rfl);exact hpe;exact rfl;omega;omega)|(apply Ok1.load;exact rfl;apply Ld.row0 H;exact rfl;exact List.not_mem_nil;(iterate 3 exact rfl))|(apply Ok1.move;exact rfl)|(apply Ok1.assign;exact rfl)))|apply R.nil|(apply T.is;first|apply T.seq|apply T.region|apply T.block|apply T.skip|(apply T.cond_t;exact rfl)))
          rw [fl_i,← iis_app,← hs,← hl] at hov1
          rw [fl_i,← iis_app,← hs,← hl]
          repeat' (fail)
          exact ⟨(i+1,ov1),⟨by simp only;omega,hov1⟩,by simp only;omega,⟨rfl,rfl,rfl,rfl,trivial⟩,by (focus (repeat' first|exact Ext.here _ _|apply Keep.last);done)⟩
        · have him:i=ps.length:=by omega
          subst him
          rw [List.take_length] at hov ⊢
          repeat' (first|(apply R.is1;first|(apply R.isBin;(apply R.pure;exact rfl;(apply Ok1.lss_f;exact rfl;exact rfl;omega)))|(apply R.pure;exact rfl;first|(apply Ok1.move;exact rfl)|(apply Ok1.assign;exact rfl)))|apply R.nil|(apply T.is;first|apply T.seq|apply T.region|apply T.exit|apply T.ret|(apply T.cond_f;exact rfl)))
          (apply RetOk.t;exact rfl)
          exact ⟨_,by (focus (repeat' first|exact Ext.all _|apply Keep.last);done),ov,hov,rfl,rfl⟩
theorem idxF_ok (p:Option Addr) (n cap:Nat) (xs:List Int) (hn:n=xs.length) (hbig:n≤1000000000) (g:Nat) (hgc:tb.fns.contains g=true) (bad:Int→Bool) (hg:∀ x,CallP Tryz.prog g [.int .i64 x] (.bool (bad x))) (w:World) (hp:RdSl w p iV xs) :
    CallW Tryz.prog 207 [.slice p n cap,.func (.func g) #[] #[]] w fun v _=>∃ r,v = .int .i64 r∧(0≤r ↔ ∃ x∈xs,bad x=true):=by
  subst hn
  refine enterW (tb:=tb) Tryz.func207 rfl Tryz.ntmps207 rfl ?_
  repeat' (first|(apply R.is1;first|(apply R.isCall;(apply R.pure;exact rfl;(apply Ok1.lenS;(iterate 3 exact rfl))))|(apply R.pure;exact rfl;first|(apply Ok1.move;exact rfl)|(apply Ok1.assign;exact rfl)))|apply R.nil|(apply T.is;first|apply T.seq|apply T.region|apply T.block))
  apply T.loopK (α:=Nat) (I:=fun i=>i≤xs.length∧∀ x∈xs.take i,bad x=false) (σi:=fun i=>[(0,.slice p xs.length cap),(1,.func (.func g) #[] #[]),(7,.int .i64 xs.length),(8,.int .i64 i)]) (Li:=fun _=>[]) (μ:=fun i=>xs.length - i) (i0:=0)
  · exact ⟨Nat.zero_le _,by simp⟩
  · exact ⟨rfl,rfl,rfl,rfl,trivial⟩
  · (focus ((repeat' (exact Keep.nil _));done))
  · intro i ⟨hi,hall⟩
    rcases Nat.lt_or_ge i xs.length with hlt|hge
    · obtain ⟨x,hx⟩:∃ x,xs[i]? = some x:=⟨_,List.getElem?_eq_getElem (by omega)⟩
      obtain ⟨b,o,hpe,H⟩:=hp.at hx
      replace H:=H 1 iV_len
      have hgx:=hg x
      cases hb:bad x with
      | true =>
        rw [hb] at hgx
        repeat' (first|(apply R.is1;first|(apply R.isBin;(apply R.pure;exact rfl;(apply Ok1.lss_t;exact rfl;exact rfl;omega)))|(apply R.isCall;(apply R.callFP (fa:=[]) (cb:=[]);exact rfl;exact hgc;exact rfl;exact rfl;exact hgx))|(apply R.pure;exact rfl;first|(apply Ok1.indexAddrP;(iterate 4 exact rfl);exact hpe;exact rfl;omega;omega)|(apply Ok1.load;exact rfl;apply Ld.row0 H;exact rfl;exact List.not_mem_nil;(iterate 3 exact rfl))|(apply Ok1.move;exact rfl)|(apply Ok1.assign;exact rfl)))|apply R.nil|(apply T.is;first|apply T.seq|apply T.region|apply T.block|apply T.skip|apply T.ret|(apply T.cond_t;exact rfl)))
        (apply RetOk.t;exact rfl)
        exact ⟨_,rfl,⟨fun _=>⟨x,List.mem_of_getElem? hx,hb⟩,fun _=>by omega⟩⟩
      | false =>
        rw [hb] at hgx
        repeat' (first|(apply R.is1;first|(apply R.isBin;(apply R.pure;exact rfl;first|(apply Ok1.add64;exact rfl;exact rfl;omega;omega)|(apply Ok1.lss_t;exact rfl;exact rfl;omega)))|(apply R.isCall;(apply R.callFP (fa:=[]) (cb:=[]);exact rfl;exact hgc;exact rfl;exact rfl;exact hgx))|(apply R.pure;exact rfl;first|(apply Ok1.indexAddrP;(iterate 4 exact rfl);exact hpe;exact rfl;omega;omega)|(apply Ok1.load;exact rfl;apply Ld.row0 H;exact rfl;exact List.not_mem_nil;(iterate 3 exact rfl))|(apply Ok1.move;exact rfl)|(apply Ok1.assign;exact rfl)))|apply R.nil|(apply T.is;first|apply T.seq|apply T.region|apply T.block|apply T.skip|(apply T.cond_t;exact rfl)|(apply T.cond_f;exact rfl)))
        refine ⟨i+1,⟨by omega,?_⟩,by omega,⟨rfl,rfl,rfl,rfl,trivial⟩,by (focus ((repeat' (exact Keep.nil _));done))⟩
        intro y hy
        rw [List.take_add_one,hx,List.mem_append] at hy
        rcases hy with hy|hy
        · exact hall y hy
        · simp only [Option.toList_some,List.mem_singleton] at hy
          rw [hy];exact hb
    · have him:i=xs.length:=by omega
      subst him
      rw [List.take_length] at hall
      repeat' (first|(apply R.is1;first|(apply R.isBin;(apply R.pure;exact rfl;(apply Ok1.lss_f;exact rfl;exact rfl;omega)))|(apply R.pure;exact rfl;(apply Ok1.assign;exact rfl)))|apply R.nil|(apply T.is;first|apply T.seq|apply T.region|apply T.exit|apply T.ret|(apply T.cond_f;exact rfl)))
      (apply RetOk.t;exact rfl)
      refine ⟨_,rfl,⟨fun h=>absurd h (by decide),?_⟩⟩
      rintro ⟨x,hx,hb⟩
      rw [hall x hx] at hb
      cases hb
theorem conF_ok (p:Option Addr) (n cap:Nat) (xs:List Int) (hn:n=xs.length) (hbig:n≤1000000000) (g:Nat) (hgc:tb.fns.contains g=true) (bad:Int→Bool) (hg:∀ x,CallP Tryz.prog g [.int .i64 x] (.bool (bad x))) (w:World) (hp:RdSl w p iV xs) :
    CallW Tryz.prog 157 [.slice p n cap,.func (.func g) #[] #[]] w fun v _=>v = .bool (xs.any bad):=by
  have h:=fun w1 (hc:Chg [] w w1)=>idxF_ok p n cap xs hn hbig g hgc bad hg w1 (hp.chg' hc (fun _=>Off.nil _))
  refine enterW (tb:=tb) Tryz.func157 rfl Tryz.ntmps157 rfl ?_
  repeat' (first|(apply R.is1;first|(apply R.isBin;(apply R.geq rfl rfl rfl<;>intro))|(apply R.isCall;(apply R.callW (vs:=[.slice p n cap,.func (.func g) #[] #[]]);(iterate 3 exact rfl);intro w1 hw1;exact h w1 hw1.chg;rintro v ⟨r,rfl,hr⟩))|(apply R.pure;exact rfl;first|(apply Ok1.move;exact rfl)|(apply Ok1.assign;exact rfl)))|apply R.nil|(apply T.is;first|apply T.seq|apply T.region|apply T.ret))
  all_goals have hq:0≤r ↔ xs.any bad=true:=hr.trans List.any_eq_true.symm
  all_goals (apply RetOk.t;exact rfl)
  all_goals cases hqq:xs.any bad with
    | true=>first|rfl|(have:=hq.2 hqq;omega)
    | false=>first|rfl|(have h5:=hq.1 ‹0≤r›;rw [hqq] at h5;cases h5)
/-- Serials are as they must be. -/
def SR (xs:List Int):Prop:=∀ x∈xs,1≤x∧x≤65535
instance (xs:List Int):Decidable (SR xs):=by unfold SR;infer_instance
theorem serials1_ok (x:Int):CallP Tryz.prog 158 [.int .i64 x] (.bool (decide (x < 1 ∨ 65535 < x))):=by
  refine enterP (tb:=tb) Tryz.func158 rfl Tryz.ntmps158 rfl fun w=>?_
  by_cases h1:x < 1
  · repeat' (first|(apply R.is1;first|(apply R.isBin;(apply R.pure;exact rfl;(apply Ok1.lss_t;exact rfl;exact rfl;omega)))|(apply R.pure;exact rfl;first|(apply Ok1.move;exact rfl)|(apply Ok1.assign;exact rfl)|(apply Ok1.pick_t;exact rfl;exact rfl)))|(apply R.isG;(apply R.guard_not;(iterate 3 exact rfl)))|apply R.nil|(apply T.is;first|apply T.seq|apply T.region|apply T.ret))
    (apply RetOk.t;exact rfl)
    rw [decide_eq_true (.inl h1)]
  · by_cases h2:65535 < x
    · repeat' (first|(apply R.is1;first|(apply R.isBin;(apply R.pure;exact rfl;first|(apply Ok1.lss_f;exact rfl;exact rfl;omega)|(apply Ok1.gtr_t;exact rfl;exact rfl;omega)))|(apply R.pure;exact rfl;first|(apply Ok1.move;exact rfl)|(apply Ok1.assign;exact rfl)|(apply Ok1.pick_f;exact rfl;exact rfl)))|(apply R.isG;(apply R.guard_run;exact rfl;exact rfl))|apply R.nil|(apply T.is;first|apply T.seq|apply T.region|apply T.ret))
      (apply RetOk.t;exact rfl)
      rw [decide_eq_true (.inr h2)]
    · repeat' (first|(apply R.is1;first|(apply R.isBin;(apply R.pure;exact rfl;first|(apply Ok1.lss_f;exact rfl;exact rfl;omega)|(apply Ok1.gtr_f;exact rfl;exact rfl;omega)))|(apply R.pure;exact rfl;first|(apply Ok1.move;exact rfl)|(apply Ok1.assign;exact rfl)|(apply Ok1.pick_f;exact rfl;exact rfl)))|(apply R.isG;(apply R.guard_run;exact rfl;exact rfl))|apply R.nil|(apply T.is;first|apply T.seq|apply T.region|apply T.ret))
      (apply RetOk.t;exact rfl)
      rw [decide_eq_false (by omega)]
theorem serials_ok (p:Option Addr) (n cap:Nat) (xs:List Int) (hn:n=xs.length) (hbig:n≤1000000000) (w:World) (hp:RdSl w p iV xs) :
    CallW Tryz.prog 86 [.slice p n cap] w fun v _=>v = .bool (decide (SR xs)):=by
  have h:=fun w1 (hc:Chg [] w w1)=>conF_ok p n cap xs hn hbig 158 rfl _ serials1_ok w1 (hp.chg' hc (fun _=>Off.nil _))
  have he:(xs.any fun x=>decide (x < 1 ∨ 65535 < x)) = !decide (SR xs):=by
    by_cases hs:SR xs
    · rw [decide_eq_true hs]
      cases h4:xs.any fun x=>decide (x < 1 ∨ 65535 < x) with
      | false=>rfl
      | true =>
        obtain ⟨x,hx,hb⟩:=List.any_eq_true.1 h4
        have:=hs x hx
        have:=of_decide_eq_true hb
        omega
    · rw [decide_eq_false hs]
      cases h4:xs.any fun x=>decide (x < 1 ∨ 65535 < x) with
      | true=>rfl
      | false =>
        refine absurd (fun x hx=>?_) hs
        have:=List.any_eq_false.1 h4 x hx
        simp only [decide_eq_true_eq] at this
        omega
  rw [he] at h
  generalize decide (SR xs)=q at *
  refine enterW (tb:=tb) Tryz.func86 rfl Tryz.ntmps86 rfl ?_
  cases q
  · repeat' (first|(apply R.is1;first|(apply R.isCall;(apply R.callV (vs:=[.slice p n cap,.func (.func 158) #[] #[]]);(iterate 3 exact rfl);intro w1 hw1;exact h w1 hw1.chg))|(apply R.pure;exact rfl;first|(apply Ok1.move;exact rfl)|(apply Ok1.assign;exact rfl)|(apply Ok1.not_t;exact rfl)))|apply R.nil|(apply T.is;first|apply T.seq|apply T.region|apply T.ret))
    (apply RetOk.t;exact rfl)
    rfl
  · repeat' (first|(apply R.is1;first|(apply R.isCall;(apply R.callV (vs:=[.slice p n cap,.func (.func 158) #[] #[]]);(iterate 3 exact rfl);intro w1 hw1;exact h w1 hw1.chg))|(apply R.pure;exact rfl;first|(apply Ok1.move;exact rfl)|(apply Ok1.assign;exact rfl)|(apply Ok1.not_f;exact rfl)))|apply R.nil|(apply T.is;first|apply T.seq|apply T.region|apply T.ret))
    (apply RetOk.t;exact rfl)
    rfl
theorem ieqs_ok (p1 p2:Option Addr) (n1 n2 c1 c2:Nat) (xs ys:List Int) (hn1:n1=xs.length) (hn2:n2=ys.length) (hbig:n1≤1000000000) (w:World) (h1:RdSl w p1 iV xs) (h2:RdSl w p2 iV ys):CallW Tryz.prog 201 [.slice p1 n1 c1,.slice p2 n2 c2] w fun v _=>v = .bool (decide (xs=ys)):=by
  subst hn1 hn2
  refine enterW (tb:=tb) Tryz.func201 rfl Tryz.ntmps201 rfl ?_
  by_cases hne:xs.length=ys.length
  · repeat' (first|(apply R.is1;first|(apply R.isBin;(apply R.pure;exact rfl;(apply Ok1.neq_f;exact rfl;exact rfl;omega)))|(apply R.isCall;(apply R.pure;exact rfl;(apply Ok1.lenS;(iterate 3 exact rfl))))|(apply R.pure;exact rfl;first|(apply Ok1.move;exact rfl)|(apply Ok1.assign;exact rfl)))|apply R.nil|(apply T.is;first|apply T.seq|apply T.region|apply T.block|apply T.skip|(apply T.cond_f;exact rfl)))
    apply T.loopK (α:=Nat) (I:=fun i=>i≤xs.length∧xs.take i=ys.take i) (σi:=fun i=>[(0,.slice p1 xs.length c1),(1,.slice p2 ys.length c2),(12,.int .i64 xs.length),(13,.int .i64 i)]) (Li:=fun _=>[]) (μ:=fun i=>xs.length - i) (i0:=0)
    · exact ⟨Nat.zero_le _,rfl⟩
    · exact ⟨rfl,rfl,rfl,rfl,trivial⟩
    · (focus ((repeat' (exact Keep.nil _));done))
    · intro i ⟨hi,htk⟩
      rcases Nat.lt_or_ge i xs.length with hlt|hge
      · obtain ⟨x,hx⟩:∃ x,xs[i]? = some x:=⟨_,List.getElem?_eq_getElem (by omega)⟩
        obtain ⟨y,hy⟩:∃ y,ys[i]? = some y:=⟨_,List.getElem?_eq_getElem (by omega)⟩
        obtain ⟨b1,o1,hpe1,H1⟩:=h1.at hx
        obtain ⟨b2,o2,hpe2,H2⟩:=h2.at hy
        replace H1:=H1 1 iV_len
        replace H2:=H2 1 iV_len
        by_cases hxy:x=y
        · repeat' (first|(apply R.is1;first|(apply R.isBin;(apply R.pure;exact rfl;first|(apply Ok1.add64;exact rfl;exact rfl;omega;omega)|(apply Ok1.lss_t;exact rfl;exact rfl;omega)))|(apply R.pure;exact rfl;first|(apply Ok1.move;exact rfl)|(apply Ok1.assign;exact rfl)))|apply R.nil|(apply T.is;first|(apply T.drawC (id:=6) [] (by decide);((apply A.tk 0;exact rfl;kernel_rfl;(apply Ok1.move;exact rfl))<;>(apply A.tk 1;exact rfl;kernel_rfl;(apply Ok1.move;exact rfl))<;>(apply A.tk 2;exact rfl;kernel_rfl;(apply Ok1.indexAddrP;(iterate 4 exact rfl);(exact hpe1);exact rfl;omega;omega))<;>(apply A.tk 3;exact rfl;kernel_rfl;(apply Ok1.load;exact rfl;(apply Ld.row0 H1;exact rfl;exact List.not_mem_nil;(iterate 3 exact rfl))))<;>(apply A.tk 4;exact rfl;kernel_rfl;(apply Ok1.move;exact rfl))<;>(apply A.tk 5;exact rfl;kernel_rfl;(apply Ok1.move;exact rfl))<;>(apply A.tk 6;exact rfl;kernel_rfl;(apply Ok1.indexAddrP;(iterate 4 exact rfl);(exact hpe2);exact rfl;omega;omega))<;>(apply A.tk 7;exact rfl;kernel_rfl;(apply Ok1.load;exact rfl;(apply Ld.row0 H2;exact rfl;exact List.not_mem_nil;(iterate 3 exact rfl))))<;>((apply A.tk 8;exact rfl;kernel_rfl;(apply Ok1.neq_f;exact rfl;exact rfl;omega)))<;>(apply A.done;kernel_rfl)))|apply T.seq|apply T.region|apply T.block|apply T.skip|(apply T.cond_t;exact rfl)|(apply T.cond_f;exact rfl)))
          refine ⟨i+1,⟨by omega,?_⟩,by omega,⟨rfl,rfl,rfl,rfl,trivial⟩,by (focus ((repeat' (exact Keep.nil _));done))⟩
          rw [List.take_add_one,List.take_add_one,htk,hx,hy,hxy]
        · repeat' (first|(apply R.is1;first|(apply R.isBin;(apply R.pure;exact rfl;(apply Ok1.lss_t;exact rfl;exact rfl;omega)))|(apply R.pure;exact rfl;first|(apply Ok1.move;exact rfl)|(apply Ok1.assign;exact rfl)))|apply R.nil|(apply T.is;first|(apply T.drawC (id:=6) [] (by decide);((apply A.tk 0;exact rfl;kernel_rfl;(apply Ok1.move;exact rfl))<;>(apply A.tk 1;exact rfl;kernel_rfl;(apply Ok1.move;exact rfl))<;>(apply A.tk 2;exact rfl;kernel_rfl;(apply Ok1.indexAddrP;(iterate 4 exact rfl);(exact hpe1);exact rfl;omega;omega))<;>(apply A.tk 3;exact rfl;kernel_rfl;(apply Ok1.load;exact rfl;(apply Ld.row0 H1;exact rfl;exact List.not_mem_nil;(iterate 3 exact rfl))))<;>(apply A.tk 4;exact rfl;kernel_rfl;(apply Ok1.move;exact rfl))<;>(apply A.tk 5;exact rfl;kernel_rfl;(apply Ok1.move;exact rfl))<;>(apply A.tk 6;exact rfl;kernel_rfl;(apply Ok1.indexAddrP;(iterate 4 exact rfl);(exact hpe2);exact rfl;omega;omega))<;>(apply A.tk 7;exact rfl;kernel_rfl;(apply Ok1.load;exact rfl;(apply Ld.row0 H2;exact rfl;exact List.not_mem_nil;(iterate 3 exact rfl))))<;>((apply A.tk 8;exact rfl;kernel_rfl;(apply Ok1.neq_t;exact rfl;exact rfl;omega)))<;>(apply A.done;kernel_rfl)))|apply T.seq|apply T.region|apply T.block|apply T.skip|apply T.ret|(apply T.cond_t;exact rfl)))
          all_goals (apply RetOk.t;exact rfl)
          all_goals rw [decide_eq_false]
          intro e
          rw [e,hy] at hx
          cases hx
          exact hxy rfl
      · repeat' (first|(apply R.is1;first|(apply R.isBin;(apply R.pure;exact rfl;(apply Ok1.lss_f;exact rfl;exact rfl;omega)))|(apply R.pure;exact rfl;(apply Ok1.assign;exact rfl)))|apply R.nil|(apply T.is;first|apply T.seq|apply T.region|apply T.exit|apply T.ret|(apply T.cond_f;exact rfl)))
        (apply RetOk.t;exact rfl)
        rw [List.take_of_length_le hge,List.take_of_length_le (by omega)] at htk
        rw [decide_eq_true htk]
  · repeat' (first|(apply R.is1;first|(apply R.isBin;(apply R.pure;exact rfl;(apply Ok1.neq_t;exact rfl;exact rfl;omega)))|(apply R.isCall;(apply R.pure;exact rfl;(apply Ok1.lenS;(iterate 3 exact rfl))))|(apply R.pure;exact rfl;first|(apply Ok1.move;exact rfl)|(apply Ok1.assign;exact rfl)))|apply R.nil|(apply T.is;first|apply T.seq|apply T.region|apply T.ret|(apply T.cond_t;exact rfl)))
    all_goals (apply RetOk.t;exact rfl)
    all_goals rw [decide_eq_false]
    exact fun e=>hne (by rw [e])
def numsI (s:Nat) (xs:List Int):List Int:=xs.flatMap (numI s)
theorem nums_take {s:Nat} {xs:List Int} {i:Nat} {x:Int} (h:xs[i]? = some x):numsI s (xs.take (i+1))=numsI s (xs.take i)++numI s x:=by
  unfold numsI
  rw [List.take_add_one,h,List.flatMap_append]
  simp
theorem nums_le (s:Nat) (xs:List Int):(numsI s xs).length≤4 * xs.length:=by
  induction xs with
  | nil=>exact Nat.le_refl _
  | cons x l ih =>
    have:=(num_len s x).2
    simp only [numsI,List.flatMap_cons,List.length_append,List.length_cons] at *
    omega
theorem numbers_ok (bw:Nat) (ov:Ov) (bs:List Int) (hov:OvOk 1 ov bs.length (u8s bs)) (s:Nat) (p:Option Addr) (n cap:Nat) (xs:List Int) (hn:n=xs.length) (hf:∀ x∈xs,Fits s x) (hbig:bs.length+4 * xs.length≤1000) (w:World) (hp:RdSl w p iV xs) (hoff:xs≠[]→Off p (blks (WL bw ov bs))) :
    CallM Tryz.prog 147 [.pointer (some ⟨bw,0,none⟩),.int .i64 s,.slice p n cap] (WL bw ov bs) w (WRes bw (bs++numsI s xs)):=by
  subst hn
  refine enterK (tb:=tb) Tryz.func147 rfl Tryz.ntmps147 rfl ?_
  repeat' (first|(apply R.is1;first|(apply R.isCall;(apply R.pure;exact rfl;(apply Ok1.lenS;(iterate 3 exact rfl))))|(apply R.pure;exact rfl;first|(apply Ok1.move;exact rfl)|(apply Ok1.assign;exact rfl)))|apply R.nil|(apply T.is;first|apply T.seq|apply T.region|apply T.block))
  apply T.loopK (α:=Nat × Ov) (I:=fun y=>y.1≤xs.length∧OvOk 1 y.2 (bs++numsI s (xs.take y.1)).length (u8s (bs++numsI s (xs.take y.1)))) (σi:=fun y=>[(0,.pointer (some ⟨bw,0,none⟩)),(1,.int .i64 s),(9,.slice p xs.length cap),(10,.int .i64 xs.length),(11,.int .i64 y.1)]) (Li:=fun y=>WL bw y.2 (bs++numsI s (xs.take y.1))) (μ:=fun y=>xs.length - y.1) (i0:=(0,ov))
  · refine ⟨Nat.zero_le _,?_⟩
    simpa [numsI] using hov
  · exact ⟨rfl,rfl,rfl,rfl,rfl,trivial⟩
  · simp only [List.take_zero,numsI,List.flatMap_nil,List.append_nil]
    (focus (repeat' first|exact Ext.one _ _|exact Ext.all _|apply Keep.cons|apply Keep.last);done)
  · rintro ⟨i,ov1⟩ ⟨hi,hov1⟩
    simp only at hi hov1 ⊢
    rcases Nat.lt_or_ge i xs.length with hlt|hge
    · obtain ⟨x,hx⟩:∃ x,xs[i]? = some x:=⟨_,List.getElem?_eq_getElem (by omega)⟩
      obtain ⟨b,o,hpe,H⟩:=hp.at hx
      replace H:=H 1 iV_len
      have hxf:=hf x (List.mem_of_getElem? hx)
      have htk:(xs.take i).length=i:=by rw [List.length_take];omega
      have hnl:=nums_le s (xs.take i)
      have hput:=fun bf fz e w1=>put_ok bw ov1 (bs++numsI s (xs.take i)) hov1 s x hxf (by rw [List.length_append];omega) bf fz e w1
      have hoff1:=hoff (by rintro rfl;cases hx)
      unfold WRes at hput
      rw [List.append_assoc,← nums_take hx] at hput
      repeat' (first|(apply R.is1;first|(apply R.isBin;(apply R.pure;exact rfl;first|(apply Ok1.add64;exact rfl;exact rfl;omega;omega)|(apply Ok1.lss_t;exact rfl;exact rfl;omega)))|(apply R.isCall;(apply R.callE (Li:=WL bw ov1 (bs++numsI s (xs.take i)));(iterate 3 exact rfl);(focus (repeat' first|exact Ext.all _|apply Ext.cons);done);intro w1 hw1;exact hput _ _ _ w1 (hw1.get _ _ (At.mem (by exact At.head))) (RdSl.off hw1 (by (focus (repeat' first|exact Ext.all _|apply Ext.cons);done)) (At.mem (by exact At.head)));rintro v Lo ⟨ov2,rfl,hov2,rfl⟩))|(apply R.pure;exact rfl;first|(apply Ok1.indexAddrP;(iterate 4 exact rfl);exact hpe;exact rfl;omega;omega)|(apply Ok1.load;exact rfl;apply Ld.row1 (f:=0) H;exact rfl;exact hoff1 _ hpe;(iterate 3 exact rfl))|(apply Ok1.move;exact rfl)|(apply Ok1.assign;exact rfl)|(apply Ok1.build;(iterate 5 exact rfl)))|(apply R.buildSlice;(iterate 12 exact rfl);intro))|apply R.nil|(apply T.is;first|apply T.seq|apply T.region|apply T.block|apply T.skip|(apply T.cond_t;exact rfl)))
      exact ⟨(i+1,ov2),⟨by simp only;omega,hov2⟩,by simp only;omega,⟨rfl,rfl,rfl,rfl,rfl,trivial⟩,by (focus (repeat' first|exact Ext.one _ _|exact Ext.here _ _|apply Keep.cons|apply Keep.last);done)⟩
    · have him:i=xs.length:=by omega
      subst him
      rw [List.take_length] at hov1 ⊢
      repeat' (first|(apply R.is1;first|(apply R.isBin;(apply R.pure;exact rfl;(apply Ok1.lss_f;exact rfl;exact rfl;omega)))|(apply R.pure;exact rfl;first|(apply Ok1.move;exact rfl)|(apply Ok1.assign;exact rfl)))|apply R.nil|(apply T.is;first|apply T.seq|apply T.region|apply T.exit|apply T.ret|(apply T.cond_f;exact rfl)))
      (apply RetOk.t;exact rfl)
      exact ⟨_,by (focus (repeat' first|exact Ext.one _ _|exact Ext.all _|apply Keep.cons|apply Keep.last);done),ov1,rfl,hov1,rfl⟩
theorem dwidth_ok (s:Nat) (k:Int) (hs:s=0 ∨ s=1 ∨ s=2 ∨ s=3) (hk:(pw s:Int)=k):CallP Tryz.prog 156 [.int .i64 s] (.int .i64 k):=by
  subst hk
  rcases hs with rfl|rfl|rfl|rfl
  all_goals
    refine enterP (tb:=tb) Tryz.func156 rfl Tryz.ntmps156 rfl fun w=>?_
    repeat' (first|(apply R.is1;(apply R.pure;exact rfl;first|(apply Ok1.move;exact rfl)|(apply Ok1.assign;exact rfl)|(apply Ok1.index1;(iterate 6 exact rfl);omega;omega;exact rfl)|(apply Ok1.buildA;(iterate 6 exact rfl))))|apply R.nil|(apply T.is;first|apply T.seq|apply T.region|apply T.ret))
    (apply RetOk.t;exact rfl)
    rfl
theorem dout_ok (s:Nat) (n:Int) (h:Fits s n) (w:World):CallM Tryz.prog 85 [.agg ⟨fldV s n⟩] [] w fun v L=>∃ ov,OvOk 1 ov (numI s n).length (u8s (numI s n))∧v=slV ov (numI s n).length∧L=blkL 5 ov (u8s (numI s n)):=by
  have hn:n≤4294967295:=by unfold Fits at h;omega
  have h0:=h.1
  have hs:s=0 ∨ s=1 ∨ s=2:=by unfold Fits at h;omega
  unfold fldV
  rcases hs with rfl|rfl|rfl
  · refine enterK (tb:=tb) Tryz.func85 rfl Tryz.ntmps85 rfl ?_
    repeat' (first|(apply R.is1;first|(apply R.isBin;(apply R.pure;exact rfl;first|(apply Ok1.add64;exact rfl;exact rfl;omega;omega)|(apply Ok1.lss_t;exact rfl;exact rfl;omega)|(apply Ok1.lss_f;exact rfl;exact rfl;omega)|(apply Ok1.eql_f;exact rfl;exact rfl;omega)|(apply Ok1.quo64;exact rfl;exact rfl;omega;omega;omega)|(apply Ok1.remN;exact rfl;exact rfl;omega;omega)))|(apply R.isCall;first|apply R.callP rfl rfl rfl (dwidth_ok 0 1 (by decide) rfl)|(apply R.appendSl (ov:=some (_,0,[])) (n:=1) (old:=[_]) (ov2:=none) (m:=0) (news:=[]) (e3:=5);(iterate 12 exact rfl);exact ⟨rfl,rfl⟩;exact ⟨rfl,rfl⟩;exact Ext.one _ _;exact (by simp [blkL]);exact rfl;omega;intro ov1 hov1))|(apply R.pure;exact rfl;first|(apply Ok1.move;exact rfl)|(apply Ok1.fieldAddr;(iterate 5 exact rfl))|(apply Ok1.load;exact rfl;(apply Ld.own1;exact rfl;exact rfl;(focus (repeat' first|exact At.head|apply At.right);done);exact rfl))|(apply Ok1.assign;exact rfl)|(apply Ok1.convU8;(iterate 5 exact rfl);omega;omega))|(apply R.box;(iterate 3 exact rfl);intro)|(apply R.buildSlice;(iterate 12 exact rfl);intro))|apply R.nil|(apply T.is;first|apply T.rounds 2|apply T.seq|apply T.region|apply T.block|apply T.skip|apply T.exit|apply T.ret|(apply T.cond_t;exact rfl)|(apply T.cond_f;exact rfl)))
    (apply RetOk.t;exact rfl)
    exact ⟨_,by (focus (repeat' first|exact Ext.here _ _|apply Keep.last);done),ov1,hov1,rfl,rfl⟩
  · refine enterK (tb:=tb) Tryz.func85 rfl Tryz.ntmps85 rfl ?_
    repeat' (first|(apply R.is1;first|(apply R.isBin;(apply R.pure;exact rfl;first|(apply Ok1.add64;exact rfl;exact rfl;omega;omega)|(apply Ok1.lss_t;exact rfl;exact rfl;omega)|(apply Ok1.lss_f;exact rfl;exact rfl;omega)|(apply Ok1.eql_f;exact rfl;exact rfl;omega)|(apply Ok1.quo64;exact rfl;exact rfl;omega;omega;omega)|(apply Ok1.remN;exact rfl;exact rfl;omega;omega)))|(apply R.isCall;first|apply R.callP rfl rfl rfl (dwidth_ok 1 2 (by decide) rfl)|(apply R.appendSl (ov:=some (_,0,[])) (n:=1) (old:=[_]) (ov2:=none) (m:=0) (news:=[]) (e3:=5);(iterate 12 exact rfl);exact ⟨rfl,rfl⟩;exact ⟨rfl,rfl⟩;exact Ext.one _ _;exact (by simp [blkL]);exact rfl;omega;intro ov1 hov1)|(apply R.appendSl (ov:=some (_,0,[])) (n:=1) (old:=[_]);(iterate 12 exact rfl);exact ⟨rfl,rfl⟩;assumption;exact Ext.one _ _;exact Ext.mem (by (focus (repeat' first|exact Ext.here _ _|apply Ext.cons);done));exact rfl;omega;intro ov1 hov1))|(apply R.pure;exact rfl;first|(apply Ok1.move;exact rfl)|(apply Ok1.fieldAddr;(iterate 5 exact rfl))|(apply Ok1.load;exact rfl;(apply Ld.own1;exact rfl;exact rfl;(focus (repeat' first|exact At.head|apply At.right);done);exact rfl))|(apply Ok1.assign;exact rfl)|(apply Ok1.convU8;(iterate 5 exact rfl);omega;omega))|(apply R.box;(iterate 3 exact rfl);intro)|(apply R.buildSlice;(iterate 12 exact rfl);intro))|apply R.nil|(apply T.is;first|apply T.rounds 3|apply T.seq|apply T.region|apply T.block|apply T.skip|apply T.exit|apply T.ret|(apply T.cond_t;exact rfl)|(apply T.cond_f;exact rfl)))
    (apply RetOk.t;exact rfl)
    exact ⟨_,by (focus (repeat' first|exact Ext.here _ _|apply Keep.last);done),ov1,hov1,rfl,rfl⟩
  · refine enterK (tb:=tb) Tryz.func85 rfl Tryz.ntmps85 rfl ?_
    repeat' (first|(apply R.is1;first|(apply R.isBin;(apply R.pure;exact rfl;first|(apply Ok1.add64;exact rfl;exact rfl;omega;omega)|(apply Ok1.lss_t;exact rfl;exact rfl;omega)|(apply Ok1.lss_f;exact rfl;exact rfl;omega)|(apply Ok1.eql_f;exact rfl;exact rfl;omega)|(apply Ok1.quo64;exact rfl;exact rfl;omega;omega;omega)|(apply Ok1.remN;exact rfl;exact rfl;omega;omega)))|(apply R.isCall;first|apply R.callP rfl rfl rfl (dwidth_ok 2 4 (by decide) rfl)|(apply R.appendSl (ov:=some (_,0,[])) (n:=1) (old:=[_]) (ov2:=none) (m:=0) (news:=[]) (e3:=5);(iterate 12 exact rfl);exact ⟨rfl,rfl⟩;exact ⟨rfl,rfl⟩;exact Ext.one _ _;exact (by simp [blkL]);exact rfl;omega;intro ov1 hov1)|(apply R.appendSl (ov:=some (_,0,[])) (n:=1) (old:=[_]);(iterate 12 exact rfl);exact ⟨rfl,rfl⟩;assumption;exact Ext.one _ _;exact Ext.mem (by (focus (repeat' first|exact Ext.here _ _|apply Ext.cons);done));exact rfl;omega;intro ov1 hov1))|(apply R.pure;exact rfl;first|(apply Ok1.move;exact rfl)|(apply Ok1.fieldAddr;(iterate 5 exact rfl))|(apply Ok1.load;exact rfl;(apply Ld.own1;exact rfl;exact rfl;(focus (repeat' first|exact At.head|apply At.right);done);exact rfl))|(apply Ok1.assign;exact rfl)|(apply Ok1.convU8;(iterate 5 exact rfl);omega;omega))|(apply R.box;(iterate 3 exact rfl);intro)|(apply R.buildSlice;(iterate 12 exact rfl);intro))|apply R.nil|(apply T.is;first|apply T.rounds 5|apply T.seq|apply T.region|apply T.block|apply T.skip|apply T.exit|apply T.ret|(apply T.cond_t;exact rfl)|(apply T.cond_f;exact rfl)))
    have e:u8s (numI 2 n)=[.int .u8 (n / 256 / 256 / 256 % 256),.int .u8 (n / 256 / 256 % 256),.int .u8 (n / 256 % 256),.int .u8 (n % 256)]:=by
      simp only [u8s,numI,len4,List.map_cons,List.map_nil,List.cons.injEq,Value.int.injEq,true_and,and_true]
      omega
    rw [e]
    (apply RetOk.t;exact rfl)
    exact ⟨_,by (focus (repeat' first|exact Ext.here _ _|apply Keep.last);done),ov1,hov1,rfl,rfl⟩
end Go.Proofs.YtolnagbahceebaaGreat
set_option linter.unusedSimpArgs false
set_option linter.unusedVariables false
namespace Go.Proofs.YtolnagbahceebaaGreat
open Go.Lib
def srt (l:List Int):List Int:=l.mergeSort fun x y=>decide (x≤y)
theorem srt_perm (l:List Int):(srt l).Perm l:=List.mergeSort_perm _ _
theorem srt_asc (l:List Int):(srt l).Pairwise (· ≤ ·):=by
  have:=List.pairwise_mergeSort (le:=fun x y:Int=>decide (x≤y)) (fun a b c h1 h2=>by simp only [decide_eq_true_eq] at *;omega) (fun a b=>by simp only [Bool.or_eq_true,decide_eq_true_eq];omega) l
  exact this.imp fun h=>of_decide_eq_true h
theorem compactUpTo_congr {d d':Array Int} {m:Nat} (h:∀ j,j < m→d[j]! = d'[j]!):compactUpTo d m=compactUpTo d' m:=by
  induction m with
  | zero=>rfl
  | succ m ih =>
    rw [compactUpTo_succ,compactUpTo_succ,ih fun j hj=>h j (by omega),h m (by omega)]
    congr 1
    have hk:keeps d m=keeps d' m:=by
      unfold keeps
      rcases Nat.eq_zero_or_pos m with h0|h0
      · simp [h0]
      · rw [h m (by omega),h (m - 1) (by omega)]
    rw [hk]
theorem compact_nil:compact ([]:List Int)=[]:=rfl
theorem compact_snoc (zs:List Int) (x:Int):compact (zs++[x])=compact zs++(if zs.getLast? = some x then [] else [x]):=by
  unfold compact
  rw [List.length_append,List.length_singleton,compactUpTo_succ]
  have h1:compactUpTo (zs++[x]).toArray zs.length=compactUpTo zs.toArray zs.length:=compactUpTo_congr fun j hj=>by
    rw [getElem!_pos _ j (by simp;omega),getElem!_pos _ j (by simp;omega)]
    simp [List.getElem_append_left,hj]
  rw [h1]
  congr 1
  have h2:(zs++[x]).toArray[zs.length]! = x:=by rw [getElem!_pos _ _ (by simp)];simp
  rw [h2]
  unfold keeps
  rcases Nat.eq_zero_or_pos zs.length with h0|h0
  · have:zs=[]:=List.eq_nil_of_length_eq_zero h0
    subst this
    simp
  · rw [h2]
    have h3:(zs++[x]).toArray[zs.length - 1]! = zs.getLast (by intro e;rw [e] at h0;simp at h0):=by
      rw [getElem!_pos _ _ (by simp;omega)]
      simp only [List.getElem_toArray]
      rw [List.getElem_append_left (by omega),List.getLast_eq_getElem]
    rw [h3,List.getLast?_eq_some_getLast (by intro e;rw [e] at h0;simp at h0)]
    have h4:¬ zs.length=0:=by omega
    simp only [h4,false_or,ne_eq,decide_not,Bool.not_eq_true',decide_eq_false_iff_not,Option.some.injEq]
    by_cases he:x=zs.getLast (by intro e;rw [e] at h0;simp at h0)
    · simp [← he]
    · have he2:¬ zs.getLast (by intro e;rw [e] at h0;simp at h0)=x:=fun h=>he h.symm
      simp [he,he2]
theorem compact_facts (n:Nat):∀ zs:List Int,zs.length=n→zs.Pairwise (· ≤ ·)→(∀ y,y∈compact zs ↔ y∈zs)∧(compact zs).Pairwise (· < ·)∧((compact zs).length=zs.length ↔ zs.Nodup):=by
  induction n with
  | zero =>
    intro zs h _
    have:zs=[]:=List.eq_nil_of_length_eq_zero h
    subst this
    rw [compact_nil]
    simp
  | succ n ih =>
    intro zs h hs
    have hne:zs≠[]:=by intro e;rw [e] at h;simp at h
    obtain ⟨ws,x,rfl⟩:∃ ws x,zs=ws++[x]:=⟨_,_,(List.dropLast_concat_getLast hne).symm⟩
    have hl:ws.length=n:=by simpa using h
    rw [List.pairwise_append] at hs
    obtain ⟨hs1,_,hs3⟩:=hs
    have hle:∀ a∈ws,a≤x:=fun a ha=>hs3 a ha x (List.mem_singleton.2 rfl)
    obtain ⟨h1,h2,h3⟩:=ih ws hl hs1
    have hcl:=compact_length_le ws
    rw [compact_snoc]
    by_cases hx:ws.getLast? = some x
    · have hmem:x∈ws:=List.mem_of_getLast? hx
      rw [if_pos hx,List.append_nil]
      refine ⟨fun y=>?_,h2,?_⟩
      · rw [h1,List.mem_append,List.mem_singleton]
        constructor
        · exact .inl
        · rintro (h|rfl)
          · exact h
          · exact hmem
      · rw [List.length_append,List.length_singleton]
        constructor
        · intro h;omega
        · intro h
          exact absurd rfl ((List.nodup_append.1 h).2.2 x hmem x (List.mem_singleton.2 rfl))
    · have hlt:∀ a∈ws,a < x:=by
        intro a ha
        have h5:=hle a ha
        have hwne:ws≠[]:=List.ne_nil_of_mem ha
        have h6:a≤ws.getLast hwne:=by
          have h8:=List.dropLast_concat_getLast hwne
          rw [← h8] at ha hs1
          rcases List.mem_append.1 ha with h|h
          · exact (List.pairwise_append.1 hs1).2.2 a h _ (List.mem_singleton.2 rfl)
          · rw [List.mem_singleton.1 h];exact Int.le_refl _
        have h7:ws.getLast hwne≠x:=by
          intro e
          rw [List.getLast?_eq_some_getLast hwne,e] at hx
          exact hx rfl
        have h9:=hle _ (List.getLast_mem hwne)
        omega
      rw [if_neg hx]
      refine ⟨fun y=>?_,?_,?_⟩
      · rw [List.mem_append,List.mem_append,h1]
      · rw [List.pairwise_append]
        refine ⟨h2,by simp,fun a ha b hb=>?_⟩
        rw [List.mem_singleton.1 hb]
        exact hlt a ((h1 a).1 ha)
      · rw [List.length_append,List.length_append,List.length_singleton]
        rw [List.nodup_append]
        constructor
        · intro h
          refine ⟨h3.1 (by omega),by simp,fun a ha b hb=>?_⟩
          rw [List.mem_singleton.1 hb]
          have:=hlt a ha
          omega
        · rintro ⟨h,_⟩
          have:=h3.2 h
          omega
/-- The sorted list of those that are in it. -/
def uniq (l:List Int):List Int:=compact (srt l)
theorem uniq_len (l:List Int):(uniq l).length=l.length ↔ l.Nodup:=by
  have h:=(compact_facts _ _ rfl (srt_asc l)).2.2
  rw [(srt_perm l).length_eq,(srt_perm l).nodup_iff] at h
  exact h
theorem uniq_le (l:List Int):(uniq l).length≤l.length:=by
  have:=compact_length_le (srt l)
  rw [(srt_perm l).length_eq] at this
  exact this
end Go.Proofs.YtolnagbahceebaaGreat
set_option linter.unusedSimpArgs false
set_option linter.unusedVariables false
namespace Go.Proofs.YtolnagbahceebaaGreat
open Go.RowKit Go.Shelf
set_option maxRecDepth 100000
theorem putRow_own {w:World} {b m:Nat} {d:List Int} {os:Array Obj} {old junk:List Value} {e:TypeId} {fz:Nat × Nat} (hb:w.heap[b]? = some (.cells ⟨old++junk⟩ e fz)) (ho:old.length=d.length) :
    Chg [b] w (Go.Sort.grow (Go.Sort.putRow (Value.int .i64) (Go.Sort.ahead w m) b 0 d.toArray) os)∧(Go.Sort.grow (Go.Sort.putRow (Value.int .i64) (Go.Sort.ahead w m) b 0 d.toArray) os).heap[b]? = some (.cells ⟨iis d++junk⟩ e fz):=by
  have hlt:=(Array.getElem?_eq_some_iff.1 hb).1
  refine ⟨⟨rfl,rfl,rfl,?_,?_,?_⟩,?_⟩
  · simp [Go.Sort.grow,Go.Sort.putRow,Go.Sort.mapBlock,Go.Sort.ahead]
  · simp [Go.Sort.grow,Go.Sort.putRow,Go.Sort.mapBlock,Go.Sort.ahead]
  · intro i hi hs
    have hne:b≠i:=fun h=>hs (by simp [h])
    simp [Go.Sort.grow,Go.Sort.putRow,Go.Sort.mapBlock,Go.Sort.ahead,Array.getElem?_append,hi,Array.getElem_modify,hne]
  · simp only [Go.Sort.grow,Go.Sort.putRow,Go.Sort.mapBlock,Go.Sort.ahead]
    rw [Array.getElem?_append_left (by simpa using hlt),Array.getElem?_modify,if_pos rfl,hb]
    simp only [Option.map_some,Go.Sort.onCells]
    congr 2
    apply Array.ext_getElem?
    intro t
    simp only [Go.Sort.putCells,Array.getElem?_mapIdx,Nat.zero_le,true_and,Nat.zero_add,Nat.sub_zero,List.size_toArray,List.getElem?_toArray]
    by_cases ht:t < d.length
    · rw [List.getElem?_append_left (by omega),List.getElem?_append_left (by rw [iis_len];omega),List.getElem?_eq_getElem (by omega)]
      simp [ht,iis]
    · rw [List.getElem?_append_right (by omega),List.getElem?_append_right (by rw [iis_len];omega),ho,iis_len]
      cases junk[t - d.length]? with
      | none=>rfl
      | some v=>simp [ht]
theorem sortHolds {w:World} {b:Nat} {xs:List Int} {junk:List Value} {e:TypeId} (hb:w.heap[b]? = some (.cells ⟨iis xs++junk⟩ e (0,0))):Go.Sort.Holds (Value.int .i64) w b 0 xs.toArray:=by
  intro j hj
  have hj':j < xs.length:=by simpa using hj
  refine ⟨?_,?_⟩
  · simp only [World.cell?,hb,Nat.zero_add]
    rw [getElem!_pos _ j hj]
    simp [List.getElem?_append_left,iis_len,hj',iis]
  · simp [World.frozen?,hb]
theorem isort_ok (xs:List Int) (hbig:xs.length≤1000000000) (ov:Ov) (hov:OvOk 1 ov xs.length (iis xs)) (w:World) :
    CallM Tryz.prog 107 [slV ov xs.length] (blkL 3 ov (iis xs)) w fun v L=>v = .tuple #[]∧L=blkL 3 ov (iis (srt xs)):=by
  cases ov with
  | none =>
    have h0:xs.length=0:=hov.2
    have:xs=[]:=List.eq_nil_of_length_eq_zero h0
    subst this
    exact ⟨fun hw=>Calls.mono (AnyM.slices_Sort_int_none Tryz.sortI none 0 w) fun e w' ⟨h1,h2⟩=>⟨_,_,h1,⟨rfl,rfl⟩,by rw [h2];exact hw⟩⟩
  | some q =>
    obtain ⟨b,j,junk⟩:=q
    refine ⟨fun hw=>?_⟩
    have hb:=hw.get b _ List.mem_cons_self
    have hlt:=(Array.getElem?_eq_some_iff.1 hb).1
    refine Calls.mono (AnyM.slices_Sort_int Tryz.sortI b 0 (xs.length+j) xs w (sortHolds hb) hlt (by omega)) ?_
    rintro e w' ⟨h1,n,os,rfl⟩
    obtain ⟨g1,g2⟩:=putRow_own (m:=n) (d:=srt xs) (os:=os) hb (by rw [iis_len,(srt_perm xs).length_eq])
    exact ⟨_,_,h1,⟨rfl,rfl⟩,hw.upd .head g1 g2⟩
theorem icompact_ok (xs:List Int) (hbig:xs.length≤1000000000) (ov:Ov) (hov:OvOk 1 ov xs.length (iis xs)) (w:World) :
    CallM Tryz.prog 108 [slV ov xs.length] (blkL 3 ov (iis xs)) w fun v L=>∃ ov',OvOk 1 ov' (Go.Lib.compact xs).length (iis (Go.Lib.compact xs))∧v=slV ov' (Go.Lib.compact xs).length∧L=blkL 3 ov' (iis (Go.Lib.compact xs)):=by
  cases ov with
  | none =>
    have h0:xs.length=0:=hov.2
    have:xs=[]:=List.eq_nil_of_length_eq_zero h0
    subst this
    exact ⟨fun hw=>Calls.mono (AnyG.slices_Compact_int_empty Tryz.cmpI none 0 w) fun e w' ⟨h1,h2⟩=>⟨_,_,h1,⟨none,hov,rfl,rfl⟩,by rw [h2];exact hw⟩⟩
  | some q =>
    obtain ⟨b,j,junk⟩:=q
    refine ⟨fun hw=>?_⟩
    have hb:=hw.get b _ List.mem_cons_self
    have hle:=Go.Lib.compact_length_le xs
    refine Calls.mono (AnyG.slices_Compact_int Tryz.cmpI b 0 (xs.length+j) xs w (sortHolds hb) (by omega) (by omega)) ?_
    rintro e w' ⟨h1,n,rfl⟩
    obtain ⟨g1,g2⟩:=putRow_own (m:=n) (d:=Go.Lib.compact xs++List.replicate (xs.length - (Go.Lib.compact xs).length) 0) (os:=#[]) hb (by rw [iis_len,List.length_append,List.length_replicate];omega)
    simp only [Go.Sort.grow_empty] at g1 g2
    rw [iis_app,List.append_assoc] at g2
    have hj:junk.length=j:=by have:=hov.2;simpa using this
    refine ⟨_,_,h1,⟨some (b,(xs.length - (Go.Lib.compact xs).length)+j,iis (List.replicate (xs.length - (Go.Lib.compact xs).length) 0)++junk),⟨by rw [iis_len,Nat.mul_one],by simp only [List.length_append,iis_len,List.length_replicate,hj,Nat.mul_one]⟩,?_,rfl⟩,hw.upd .head g1 g2⟩
    simp only [slV]
    congr 1
    omega
theorem CallM.to {P:Program} {f:FuncId} {vs:List Value} {L:Lst} {w:World} {R R':Value→Lst→Prop} (h:CallM P f vs L w R) (hr:∀ v L,R v L→R' v L):CallM P f vs L w R' :=
  ⟨fun hw=>(h.run hw).mono fun e w' ⟨v,L',h1,h2,h3⟩=>⟨v,L',h1,hr _ _ h2,h3⟩⟩
theorem ivalues_ok (p:Option Addr) (n cap:Nat) (w:World):CallM Tryz.prog 161 [.slice p n cap] [] w fun v L=>∃ cb,v = .func (.func 209) #[] #[.pointer (some ⟨cb,0,none⟩)]∧L=[(cb,.cells ⟨[.slice p n cap]⟩ 39 (0,0))]:=by
  refine enterK (tb:=tb) Tryz.func161 rfl Tryz.ntmps161 rfl ?_
  repeat' (first|(apply R.is1;first|(apply R.pure;exact rfl;first|(apply Ok1.assign;exact rfl)|(apply Ok1.makeFunc;exact rfl;exact rfl))|(apply R.box;(iterate 3 exact rfl);intro))|apply R.nil|(apply T.is;first|apply T.seq|apply T.region|apply T.ret))
  (apply RetOk.t;exact rfl)
  exact ⟨_,by (focus (repeat' first|exact Keep.nil _|exact Ext.one _ _|apply Keep.cons);done),_,rfl,rfl⟩
theorem ivalues1_ok {β:Type} (I:Nat→β→Prop) (Li:Nat→β→Lst) (l:Nat) (o:Obj) (cb:Nat) (p:Option Addr) (n cap:Nat) (xs:List Int) (hn:n=xs.length) (hbig:n≤1000000000) (y0:β) (h0:I 0 y0)
    (hY:∀ i y x w,I i y→xs[i]? = some x→YieldM Tryz.prog l [.int .i64 x] ((l,o)::Li i y) w fun v L=>v = .bool true∧∃ L5,(∃ y',I (i+1) y' ∧ L5=Li (i+1) y')∧L=(l,o)::L5) (w:World) (hp:RdSl w p iV xs) (hoff:xs≠[]→Off p (blks ((l,o)::(cb,.cells ⟨[.slice p n cap]⟩ 39 (0,0))::Li 0 y0))) :
    CallM Tryz.prog 209 [.func (.yield l) #[] #[],.pointer (some ⟨cb,0,none⟩)] ((l,o)::(cb,.cells ⟨[.slice p n cap]⟩ 39 (0,0))::Li 0 y0) w fun v L=>∃ y,I n y∧L=(l,o)::(cb,.cells ⟨[.slice p n cap]⟩ 39 (0,0))::Li n y:=by
  subst hn
  refine enterK (tb:=tb) Tryz.func209 rfl Tryz.ntmps209 rfl ?_
  repeat' (first|(apply R.is1;first|(apply R.isCall;(apply R.pure;exact rfl;(apply Ok1.lenS;(iterate 3 exact rfl))))|(apply R.pure;exact rfl;first|(apply Ok1.move;exact rfl)|(apply Ok1.load;exact rfl;(apply Ld.own1;exact rfl;exact rfl;(focus (repeat' first|exact At.head|apply At.tail);done);exact rfl))))|apply R.nil|(apply T.is;first|apply T.seq|apply T.region|apply T.block))
  apply T.loopK (α:=Nat × β) (I:=fun x=>x.1≤xs.length∧I x.1 x.2) (σi:=fun x=>[(0,.func (.yield l) #[] #[]),(5,.slice p xs.length cap),(6,.int .i64 xs.length),(7,.int .i64 x.1)])
    (Li:=fun x=>(l,o)::(cb,.cells ⟨[.slice p xs.length cap]⟩ 39 (0,0))::(Li x.1 x.2++[])) (μ:=fun x=>xs.length - x.1) (i0:=(0,y0))
  · exact ⟨Nat.zero_le _,h0⟩
  · exact ⟨rfl,rfl,rfl,rfl,trivial⟩
  · simp only [List.append_nil]
    (focus (repeat' first|exact Ext.one _ _|exact Ext.all _|apply Keep.cons|apply Keep.last);done)
  · rintro ⟨i,y⟩ ⟨hi,hI⟩
    simp only at hi hI ⊢
    rcases Nat.lt_or_ge i xs.length with hlt|hge
    · obtain ⟨x,hx⟩:∃ x,xs[i]? = some x:=⟨_,List.getElem?_eq_getElem (by omega)⟩
      have hne:xs≠[]:=by intro e;rw [e] at hlt;simp at hlt
      obtain ⟨b,ob,hpe,H⟩:=hp.at hx
      replace H:=H 1 iV_len
      have hnb:b ∉ blks ((l,o)::(cb,.cells ⟨[.slice p xs.length cap]⟩ 39 (0,0))::Li 0 y0):=by
        have:=hoff hne
        rw [hpe] at this
        exact this _ rfl
      repeat' (first|(apply RI.yield;(iterate 3 exact rfl);(focus (exact Ext.two _ (Ext.one _ _) (Ext.cons _ (Ext.here _ _))));intro w1 hw1;exact hY i y x w1 hI hx;rintro v Lo ⟨rfl,L5,⟨y',hI',rfl⟩,rfl⟩)|(apply R.is1;first|(apply R.isBin;(apply R.pure;exact rfl;first|(apply Ok1.add64;exact rfl;exact rfl;omega;omega)|(apply Ok1.lss_t;exact rfl;exact rfl;omega)))|(apply R.pure;exact rfl;first|(apply Ok1.indexAddrP;(iterate 4 exact rfl);exact hpe;exact rfl;omega;omega)|(apply Ok1.load;exact rfl;apply Ld.row0 H;exact rfl;exact hnb;(iterate 3 exact rfl))|(apply Ok1.move;exact rfl)|(apply Ok1.assign;exact rfl)|(apply Ok1.not_t;exact rfl)))|apply R.nil|(apply T.is;first|apply T.regionIn (id:=3)|apply T.seq|apply T.region|apply T.block|apply T.skip|(apply T.cond_t;exact rfl)|(apply T.cond_f;exact rfl))|(apply RI.step;exact rfl)|apply RI.nil)
      refine ⟨(i+1,y'),⟨by simp only;omega,hI'⟩,by simp only;omega,⟨rfl,rfl,rfl,rfl,trivial⟩,?_⟩
      simp only [List.append_nil,List.cons_append]
      (focus (repeat' first|exact Ext.one _ _|exact Ext.here _ _|apply Keep.cons|apply Keep.last|apply Ext.app);done)
    · have him:i=xs.length:=by omega
      subst him
      repeat' (first|(apply R.is1;(apply R.isBin;(apply R.pure;exact rfl;(apply Ok1.lss_f;exact rfl;exact rfl;omega))))|apply R.nil|(apply T.is;first|apply T.seq|apply T.region|apply T.exit|(apply T.cond_f;exact rfl)))
      (apply RetOk.n)
      exact ⟨_,by simp only [List.append_nil];(focus (repeat' first|exact Ext.one _ _|exact Ext.all _|apply Keep.cons|apply Keep.last);done),y,hI,rfl⟩
theorem appendSeq_ok (cb:Nat) (p:Option Addr) (n cap:Nat) (xs:List Int) (hn:n=xs.length) (hbig:n≤1000000) (w:World) (hp:RdSl w p iV xs) (hoff:xs≠[]→Off p [cb]) :
    CallM Tryz.prog 250 [.slice none 0 0,.func (.func 209) #[] #[.pointer (some ⟨cb,0,none⟩)]] [(cb,.cells ⟨[.slice p n cap]⟩ 39 (0,0))] w fun v L=>∃ ov,OvOk 1 ov n (iis xs)∧v=slV ov n∧L=(cb,.cells ⟨[.slice p n cap]⟩ 39 (0,0))::blkL 3 ov (iis xs):=by
  subst hn
  refine enterF (tb:=tb) Tryz.func250 rfl Tryz.ntmps250 rfl ?_
  repeat' (first|(apply TF.range (gf:=209);exact rfl;exact rfl)|apply TF.seq|(apply R.is1;first|(apply R.pure;exact rfl;first|(apply Ok1.move;exact rfl)|(apply Ok1.assign;exact rfl))|(apply R.box;(iterate 3 exact rfl);intro))|apply R.nil|(apply T.is;apply T.region))
  rename_i out
  obtain ⟨Li,hLi⟩:∃ Li:Nat→Ov→Lst,Li=fun i ov=>(out,.cells ⟨[slV ov i]⟩ 39 (0,0))::blkL 3 ov (iis (xs.take i)):=⟨_,rfl⟩
  refine ⟨⟨_,(cb,.cells ⟨[.slice p xs.length cap]⟩ 39 (0,0))::Li 0 none,[],fun Lb=>∃ ov,OvOk 1 ov xs.length (iis xs)∧Lb=(cb,.cells ⟨[.slice p xs.length cap]⟩ 39 (0,0))::Li xs.length ov,?_,rfl,?_,?_⟩⟩
  · subst hLi
    rw [List.append_nil]
    change Keep _ [_,_]
    (focus (repeat' first|exact Keep.nil _|exact Ext.one _ _|apply Keep.cons|apply Ext.cons);done)
  · rintro l rec w1 hok ⟨L2,hw1⟩
    have hrd:=hp.chg' hw1.chg hoff
    have hof2:=RdSl.old iV_len (by decide) hp hoff hw1 (Ext.here _ _)
    refine (ivalues1_ok (fun i ov=>i≤xs.length∧OvOk 1 ov i (iis (xs.take i))) Li l _ cb p xs.length cap xs rfl (by omega) none ⟨Nat.zero_le _,OvOk.start 1⟩ ?_ w1 hrd hof2).to ?_
    · intro i ov x w2 ⟨hi,hI⟩ hx
      have hlt:i < xs.length:=(List.getElem?_eq_some_iff.1 hx).1
      subst hLi
      apply YieldM.of (tb:=tb) hok.mod hok.params (blt_lt rfl) hok.assign hok.body hok.state hok.pending
      repeat' (first|(apply R.is1;(apply R.pure;exact rfl;(apply Ok1.assign;exact rfl)))|apply R.nil|(apply RI.step;exact rfl)|apply RI.nil)
      refine ⟨_,.cons (.one _ _) (.last (.all _)),?_⟩
      repeat' (first|(apply R.is1;first|(apply R.isCall;(apply R.append1;(iterate 12 exact rfl);(focus (repeat' first|exact OwnAt.base hI|apply OwnAt.tail);done);exact At.head;exact rfl;exact rfl;omega;omega;intro b2 j2 k2 hj2))|(apply R.pure;exact rfl;first|(apply Ok1.move;exact rfl)|(apply Ok1.load;exact rfl;(apply Ld.own1;exact rfl;exact rfl;(focus (repeat' first|exact At.head|apply At.tail);done);exact rfl)))|(apply R.buildSlice;(iterate 12 exact rfl);intro))|(apply R.is0;(apply R.store;(iterate 6 exact rfl);(focus (repeat' first|exact Upd.head|apply Upd.tail);done);exact rfl))|apply R.nil|(apply RI.step;exact rfl)|apply RI.nil)
      have hs:iis (xs.take (i+1))=iis (xs.take i)++[.int .i64 x]:=by rw [List.take_add_one,hx,iis_app];rfl
      refine ⟨(out,.cells ⟨[slV (some (b2,j2,k2)) (i+1)]⟩ 39 (0,0))::blkL 3 (some (b2,j2,k2)) (iis (xs.take (i+1))),?_,some (b2,j2,k2),⟨by omega,?_⟩,rfl⟩
      · rw [hs]
        (focus (repeat' first|exact Keep.nil _|exact Ext.one _ _|apply Keep.cons|apply Ext.cons);done)
      · rw [hs]
        exact hI.some (b:=b2) (ys:=[.int .i64 x]) (m:=1) rfl hj2
    · rintro v L ⟨ov,⟨_,h2⟩,rfl⟩
      rw [List.take_length] at h2
      exact ⟨_,⟨ov,h2,rfl⟩,rfl⟩
  · rintro D Lb ⟨ov,h2,rfl⟩
    subst hLi
    simp only [List.cons_append,List.append_nil,List.take_length]
    repeat' (first|apply TD.seq|apply TD.region|apply TD.ret|(apply R.is1;(apply R.pure;exact rfl;first|(apply Ok1.load;exact rfl;(apply Ld.own1;exact rfl;exact rfl;(focus (repeat' first|exact At.head|apply At.tail);done);exact rfl))|(apply Ok1.assign;exact rfl)))|apply R.nil)
    refine ⟨rfl,_,_,rfl,?_,ov,h2,rfl,rfl⟩
    (focus (repeat' first|exact Ext.one _ _|exact Ext.all _|apply Keep.cons|apply Keep.last|apply Ext.cons);done)
theorem collect_ok (cb:Nat) (p:Option Addr) (n cap:Nat) (xs:List Int) (hn:n=xs.length) (hbig:n≤1000000) (w:World) (hp:RdSl w p iV xs) (hoff:xs≠[]→Off p [cb]) :
    CallM Tryz.prog 208 [.func (.func 209) #[] #[.pointer (some ⟨cb,0,none⟩)]] [(cb,.cells ⟨[.slice p n cap]⟩ 39 (0,0))] w fun v L=>∃ ov,OvOk 1 ov n (iis xs)∧v=slV ov n∧L=(cb,.cells ⟨[.slice p n cap]⟩ 39 (0,0))::blkL 3 ov (iis xs):=by
  have h:=fun w1 (hc:Chg [cb] w w1)=>appendSeq_ok cb p n cap xs hn hbig w1 (hp.chg' hc hoff) hoff
  refine enterK (tb:=tb) Tryz.func208 rfl Tryz.ntmps208 rfl ?_
  repeat' (first|(apply R.is1;first|(apply R.isCall;(apply R.callE (vs:=[.slice none 0 0,.func (.func 209) #[] #[.pointer (some ⟨cb,0,none⟩)]]);(iterate 3 exact rfl);exact Ext.all _;intro w1 hw1;exact h w1 hw1.chg;rintro v Lo ⟨ov,hov,rfl,rfl⟩))|(apply R.pure;exact rfl;first|(apply Ok1.move;exact rfl)|(apply Ok1.assign;exact rfl)))|apply R.nil|(apply T.is;first|apply T.seq|apply T.region|apply T.ret))
  (apply RetOk.t;exact rfl)
  exact ⟨_,by (focus (repeat' first|exact Ext.one _ _|exact Ext.here _ _|apply Keep.cons|apply Keep.last);done),ov,hov,rfl,rfl⟩
theorem sorted_ok (cb:Nat) (p:Option Addr) (n cap:Nat) (xs:List Int) (hn:n=xs.length) (hbig:n≤1000000) (w:World) (hp:RdSl w p iV xs) (hoff:xs≠[]→Off p [cb]) :
    CallM Tryz.prog 160 [.func (.func 209) #[] #[.pointer (some ⟨cb,0,none⟩)]] [(cb,.cells ⟨[.slice p n cap]⟩ 39 (0,0))] w fun v L=>∃ ov,OvOk 1 ov n (iis (srt xs))∧v=slV ov n∧L=(cb,.cells ⟨[.slice p n cap]⟩ 39 (0,0))::blkL 3 ov (iis (srt xs)):=by
  subst hn
  have h:=fun w1 (hc:Chg [cb] w w1)=>collect_ok cb p xs.length cap xs rfl hbig w1 (hp.chg' hc hoff) hoff
  have hs:=fun ov hov w1=>isort_ok xs (by omega) ov hov w1
  have hl:(iis (srt xs)).length=xs.length:=by rw [iis_len,(srt_perm xs).length_eq]
  refine enterK (tb:=tb) Tryz.func160 rfl Tryz.ntmps160 rfl ?_
  repeat' (first|(apply R.is1;first|(apply R.isCall;first|(apply R.callE (vs:=[.func (.func 209) #[] #[.pointer (some ⟨cb,0,none⟩)]]);(iterate 3 exact rfl);exact Ext.all _;intro w1 hw1;exact h w1 hw1.chg;rintro v Lo ⟨ov,hov,rfl,rfl⟩)|(apply R.callE (vs:=[slV ov xs.length]);(iterate 3 exact rfl);exact Ext.cons _ (Ext.here _ _);intro w1 hw1;exact hs ov hov w1;rintro v Lo ⟨rfl,rfl⟩))|(apply R.pure;exact rfl;first|(apply Ok1.move;exact rfl)|(apply Ok1.assign;exact rfl)))|apply R.nil|(apply T.is;first|apply T.seq|apply T.region|apply T.ret))
  (apply RetOk.t;exact rfl)
  refine ⟨_,?_,ov,⟨by rw [hl,Nat.mul_one],hov.2⟩,rfl,rfl⟩
  (focus (repeat' first|exact Ext.one _ _|exact Ext.here _ _|apply Keep.cons|apply Keep.last|apply Ext.app);done)
theorem twice_ok (p:Option Addr) (n cap:Nat) (xs:List Int) (hn:n=xs.length) (hbig:n≤1000000) (w:World) (hp:RdSl w p iV xs) :
    CallM Tryz.prog 88 [.slice p n cap] [] w fun v L=>v = .bool (decide (¬ xs.Nodup))∧L=[]:=by
  subst hn
  have hc:=fun ys ov (hl:ys.length=xs.length) hov w1=>icompact_ok ys (by omega) ov hov w1
  have hu:(Go.Lib.compact (srt xs)).length≤xs.length:=uniq_le xs
  have hue:(Go.Lib.compact (srt xs)).length=xs.length ↔ xs.Nodup:=uniq_len xs
  have hsl:(srt xs).length=xs.length:=(srt_perm xs).length_eq
  have hss:=fun cb w1 hr ho=>sorted_ok cb p xs.length cap xs rfl hbig w1 hr ho
  generalize srt xs=ys at *
  replace hc:=fun ov hov w1=>hc ys ov hsl hov w1
  rw [hsl] at hc
  refine enterK (tb:=tb) Tryz.func88 rfl Tryz.ntmps88 rfl ?_
  by_cases hnd:xs.Nodup
  · have h2:=hue.2 hnd
    rw [decide_eq_false (by simp [hnd])]
    repeat' (first|(apply R.is1;first|(apply R.isBin;(apply R.pure;exact rfl;(apply Ok1.neq_f;exact rfl;exact rfl;omega)))|(apply R.isCall;first|(apply R.callE (vs:=[.slice p xs.length cap]);(iterate 3 exact rfl);exact Ext.none _;intro w1 hw1;exact ivalues_ok p xs.length cap w1;rintro v Lo ⟨cb,rfl,rfl⟩)|(apply R.callE (vs:=[.func (.func 209) #[] #[.pointer (some ⟨cb,0,none⟩)]]);(iterate 3 exact rfl);exact Ext.here _ _;intro w1 hw1;exact hss cb w1 (hp.chg' hw1.chg (fun _=>Off.nil _)) (RdSl.old iV_len (by decide) hp (fun _=>Off.nil _) hw1 (Li:=[(cb,.cells ⟨[.slice p xs.length cap]⟩ 39 (0,0))]) (by (focus ((repeat' (exact Ext.one _ _));done))));rintro v Lo ⟨ov,hov,rfl,rfl⟩)|(apply R.callE (vs:=[slV ov xs.length]);(iterate 3 exact rfl);exact Ext.cons _ (Ext.here _ _);intro w1 hw1;exact hc ov hov w1;rintro v Lo ⟨ov2,hov2,rfl,rfl⟩)|(apply R.pure;exact rfl;apply Ok1.lenOv;(iterate 3 exact rfl);exact hov2)|(apply R.pure;exact rfl;(apply Ok1.lenS;(iterate 3 exact rfl))))|(apply R.pure;exact rfl;first|(apply Ok1.move;exact rfl)|(apply Ok1.assign;exact rfl)))|apply R.nil|(apply T.is;first|apply T.seq|apply T.region|apply T.ret))
    all_goals (apply RetOk.t;exact rfl)
    all_goals exact ⟨_,by (focus ((repeat' (exact Keep.nil _));done)),rfl,rfl⟩
  · have h2:(Go.Lib.compact ys).length≠xs.length:=fun e=>hnd (hue.1 e)
    rw [decide_eq_true hnd]
    repeat' (first|(apply R.is1;first|(apply R.isBin;(apply R.pure;exact rfl;(apply Ok1.neq_t;exact rfl;exact rfl;omega)))|(apply R.isCall;first|(apply R.callE (vs:=[.slice p xs.length cap]);(iterate 3 exact rfl);exact Ext.none _;intro w1 hw1;exact ivalues_ok p xs.length cap w1;rintro v Lo ⟨cb,rfl,rfl⟩)|(apply R.callE (vs:=[.func (.func 209) #[] #[.pointer (some ⟨cb,0,none⟩)]]);(iterate 3 exact rfl);exact Ext.here _ _;intro w1 hw1;exact hss cb w1 (hp.chg' hw1.chg (fun _=>Off.nil _)) (RdSl.old iV_len (by decide) hp (fun _=>Off.nil _) hw1 (Li:=[(cb,.cells ⟨[.slice p xs.length cap]⟩ 39 (0,0))]) (by (focus ((repeat' (exact Ext.one _ _));done))));rintro v Lo ⟨ov,hov,rfl,rfl⟩)|(apply R.callE (vs:=[slV ov xs.length]);(iterate 3 exact rfl);exact Ext.cons _ (Ext.here _ _);intro w1 hw1;exact hc ov hov w1;rintro v Lo ⟨ov2,hov2,rfl,rfl⟩)|(apply R.pure;exact rfl;apply Ok1.lenOv;(iterate 3 exact rfl);exact hov2)|(apply R.pure;exact rfl;(apply Ok1.lenS;(iterate 3 exact rfl))))|(apply R.pure;exact rfl;first|(apply Ok1.move;exact rfl)|(apply Ok1.assign;exact rfl)))|apply R.nil|(apply T.is;first|apply T.seq|apply T.region|apply T.ret))
    all_goals (apply RetOk.t;exact rfl)
    all_goals exact ⟨_,by (focus ((repeat' (exact Keep.nil _));done)),rfl,rfl⟩
/-- A set: four logs. -/
def setV (gs:List Lg):List Value:=gs.map Lg.v
def LsL (gs:List Lg):Lst:=gs.flatMap Lg.L
def SetL (bs:Nat) (gs:List Lg):Lst:=(bs,.cells ⟨setV gs⟩ 191 (0,0))::LsL gs
structure GOk (gs:List Lg):Prop where
  len:gs.length=4
  ok:∀ g∈gs,g.ok
  le:∀ g∈gs,g.xs.length≤256
def lgs (gs:List Lg):List (List Int):=gs.map Lg.xs
structure SetR (w:World) (bs:Nat) (gs:List Lg):Prop where
  b:w.heap[bs]? = some (.cells ⟨setV gs⟩ 191 (0,0))
  rd:∀ g∈gs,RdSl w (ovp g.ov) iV g.xs
theorem mem_LsL {gs:List Lg} {g:Lg} (h:g∈gs) {x:Nat × Obj} (hx:x∈g.L):x∈LsL gs:=List.mem_flatMap.2 ⟨g,h,hx⟩
theorem SetR.of {bs:Nat} {gs:List Lg} (hg:GOk gs) {w0 w:World} {S:List Nat} {L:Lst} (hw:Hp w0 S L w) (hin:∀ x∈SetL bs gs,x∈L):SetR w bs gs :=
  ⟨hw.get _ _ (hin _ List.mem_cons_self),fun g h=>Lg.rd (hg.ok g h) hw fun x hx=>hin _ (List.mem_cons_of_mem _ (mem_LsL h hx))⟩
theorem SetR.chg {bs:Nat} {gs:List Lg} {w w':World} (h:SetR w bs gs) (hc:Chg [] w w'):SetR w' bs gs :=
  ⟨hc.heap h.b List.not_mem_nil,fun g hm=>(h.rd g hm).chg' hc (fun _=>Off.nil _)⟩
theorem setV_get {gs:List Lg} {i:Nat} {g:Lg} (h:gs[i]? = some g) (hk:g.ok):(setV gs)[0+i * 1]? = some (.slice (ovp g.ov) g.xs.length (ovc g.ov g.xs.length)):=by
  rw [Nat.zero_add,Nat.mul_one,setV,List.getElem?_map,h,Option.map_some,Lg.v_eq hk]
theorem log_ok (bs:Nat) (gs:List Lg) (hg:GOk gs) (i:Nat) (g:Lg) (hi:gs[i]? = some g) (w:World) (hs:SetR w bs gs) :
    CallM Tryz.prog 106 [.pointer (some ⟨bs,0,none⟩),.int .i64 i] [] w fun v L=>∃ ov,OvOk 1 ov g.xs.length (iis g.xs)∧v=slV ov g.xs.length∧L=blkL 3 ov (iis g.xs):=by
  have hlt:i < 4:=by rw [← hg.len];exact (List.getElem?_eq_some_iff.1 hi).1
  have hm:=List.mem_of_getElem? hi
  have hcell:=setV_get hi (hg.ok g hm)
  have hle:=hg.le g hm
  have hrd:=hs.rd g hm
  have hb:=hs.b
  have hcl:=fun w1 (hc:Chg [] w w1)=>iclone_ok (ovp g.ov) g.xs.length (ovc g.ov g.xs.length) g.xs rfl (by omega) w1 (hrd.chg' hc (fun _=>Off.nil _))
  refine enterK (tb:=tb) Tryz.func106 rfl Tryz.ntmps106 rfl ?_
  repeat' (first|(apply R.is1;first|(apply R.isBin;(apply R.pure;exact rfl;first|(apply Ok1.lss_f;exact rfl;exact rfl;omega)|(apply Ok1.geq_f;exact rfl;exact rfl;omega)|(apply Ok1.eqlP;(iterate 5 exact rfl))))|(apply R.isCall;(apply R.callE (vs:=[.slice (ovp g.ov) g.xs.length (ovc g.ov g.xs.length)]);(iterate 3 exact rfl);exact Ext.none _;intro w1 hw1;exact hcl w1 hw1.chg;rintro v Lo ⟨ov,hov,_,rfl,rfl⟩))|(apply R.pure;exact rfl;first|(apply Ok1.load;exact rfl;apply Ld.blk1;exact rfl;exact rfl;exact hb;exact List.not_mem_nil;exact hcell)|(apply Ok1.move;exact rfl)|(apply Ok1.fieldAddr;(iterate 5 exact rfl))|(apply Ok1.assign;exact rfl)|(apply Ok1.indexAddrA;(iterate 5 exact rfl);omega;omega)|(apply Ok1.pick_f;exact rfl;exact rfl)|(apply Ok1.nilCheck;exact rfl)))|(apply R.isG;(apply R.guard_run;exact rfl;exact rfl))|apply R.nil|(apply T.is;first|apply T.seq|apply T.region|apply T.skip|apply T.ret|(apply T.cond_f;exact rfl)))
  all_goals (apply RetOk.t;exact rfl)
  all_goals exact ⟨_,by (focus (repeat' first|exact Ext.here _ _|apply Keep.last);done),ov,hov,rfl,rfl⟩
def lens (gs:List Lg):List Value:=gs.map fun g=>.int .i64 g.xs.length
theorem versions_ok (bs:Nat) (gs:List Lg) (hg:GOk gs) (w:World) (hs:SetR w bs gs) :
    CallW Tryz.prog 70 [.pointer (some ⟨bs,0,none⟩)] w fun v _=>v = .agg ⟨lens gs⟩:=by
  have hlog:=fun i g hi w1 (hc:Chg [] w w1)=>log_ok bs gs hg i g hi w1 (hs.chg hc)
  match gs,hg.len with
  | [a,b,c,d],_ =>
  have h0:=hlog 0 a rfl
  have h1:=hlog 1 b rfl
  have h2:=hlog 2 c rfl
  have h3:=hlog 3 d rfl
  clear hlog
  refine enterW (tb:=tb) Tryz.func70 rfl Tryz.ntmps70 rfl ?_
  repeat' (first|(apply R.is1;first|(apply R.isBin;(apply R.pure;exact rfl;first|(apply Ok1.add64;exact rfl;exact rfl;omega;omega)|(apply Ok1.lss_t;exact rfl;exact rfl;omega)|(apply Ok1.lss_f;exact rfl;exact rfl;omega)))|(apply R.isCall;first|(apply R.callE;(iterate 3 exact rfl);exact Ext.none _;(first|(intro w1 hw1;exact h0 w1 hw1.chg)|(intro w1 hw1;exact h1 w1 hw1.chg)|(intro w1 hw1;exact h2 w1 hw1.chg)|(intro w1 hw1;exact h3 w1 hw1.chg));rintro v Lo ⟨ov,hov,rfl,rfl⟩)|(apply R.pure;exact rfl;apply Ok1.lenOv;(iterate 3 exact rfl);exact hov))|(apply R.pure;exact rfl;first|(apply Ok1.move;exact rfl)|(apply Ok1.load;exact rfl;(apply Ld.ownk;exact rfl;exact rfl;(focus (repeat' first|exact At.head|apply At.right);done);exact rfl))|(apply Ok1.assign;exact rfl)|(apply Ok1.indexAddrA;(iterate 5 exact rfl);omega;omega))|(apply R.alloc;(iterate 3 exact rfl);intro))|(apply R.is0;(apply R.store;(iterate 6 exact rfl);(focus (repeat' first|exact Upd.head|apply Upd.tail|apply Upd.right);done);exact rfl))|apply R.nil|(apply T.is;first|apply T.rounds 5|apply T.seq|apply T.region|apply T.block|apply T.skip|apply T.exit|apply T.ret|(apply T.cond_t;exact rfl)|(apply T.cond_f;exact rfl)))
  all_goals (apply RetOk.c;exact rfl;((apply Ld.ownk;exact rfl;exact rfl;(focus (repeat' first|exact At.head|apply At.tail|apply At.right);done);exact rfl)))
  all_goals rfl
theorem rnew_ok (w:World):CallM Tryz.prog 31 [] [] w fun v L=>∃ bs,v = .pointer (some ⟨bs,0,none⟩)∧L=SetL bs [lg0,lg0,lg0,lg0]:=by
  refine enterK (tb:=tb) Tryz.func31 rfl Tryz.ntmps31 rfl ?_
  repeat' (first|(apply R.is1;first|(apply R.pure;exact rfl;first|(apply Ok1.assign;exact rfl)|(apply Ok1.build;(iterate 5 exact rfl)))|(apply R.box;(iterate 3 exact rfl);intro))|apply R.nil|(apply T.is;first|apply T.seq|apply T.region|apply T.ret))
  (apply RetOk.t;exact rfl)
  exact ⟨_,Keep.last (.all _),_,rfl,rfl⟩
theorem GOk.new:GOk [lg0,lg0,lg0,lg0]:=⟨rfl,by intro g h;simp only [List.mem_cons,List.not_mem_nil,or_false,or_self] at h;rw [h];exact lg0_ok,by intro g h;simp only [List.mem_cons,List.not_mem_nil,or_false,or_self] at h;rw [h];decide⟩
theorem join_ok (a0 a1 a2 a3 b0 b1 b2 b3:Int):CallP Tryz.prog 150 [.agg ⟨[.int .i64 a0,.int .i64 a1,.int .i64 a2,.int .i64 a3]⟩,.agg ⟨[.int .i64 b0,.int .i64 b1,.int .i64 b2,.int .i64 b3]⟩] (.agg ⟨[.int .i64 (max a0 b0),.int .i64 (max a1 b1),.int .i64 (max a2 b2),.int .i64 (max a3 b3)]⟩):=by
  refine enterP (tb:=tb) Tryz.func150 rfl Tryz.ntmps150 rfl fun w=>?_
  repeat' (first|(apply R.is1;first|(apply R.isBin;(apply R.pure;exact rfl;first|(apply Ok1.add64;exact rfl;exact rfl;omega;omega)|(apply Ok1.lss_t;exact rfl;exact rfl;omega)|(apply Ok1.lss_f;exact rfl;exact rfl;omega)))|(apply R.pure;exact rfl;first|(apply Ok1.move;exact rfl)|(apply Ok1.load;exact rfl;(apply Ld.ownk;exact rfl;exact rfl;(focus (repeat' first|exact At.head|apply At.tail);done);exact rfl))|(apply Ok1.assign;exact rfl))|(apply R.box;(iterate 3 exact rfl);intro)|(apply R.alloc;(iterate 3 exact rfl);intro))|(apply R.is0;(apply R.store;(iterate 6 exact rfl);exact Upd.head;exact rfl))|apply R.nil|(apply T.is;first|apply T.rounds 5|(apply T.drawC (id:=4) [0,1] (by decide);((apply A.tk 0;exact rfl;kernel_rfl;(apply Ok1.move;exact rfl))<;>(apply A.tk 1;exact rfl;kernel_rfl;(apply Ok1.move;exact rfl))<;>(apply A.tk 2;exact rfl;kernel_rfl;(apply Ok1.indexAddrA;(iterate 5 exact rfl);omega;omega))<;>(apply A.tk 4;exact rfl;kernel_rfl;(apply Ok1.move;exact rfl))<;>(apply A.tk 5;exact rfl;kernel_rfl;(apply Ok1.indexAddrA;(iterate 5 exact rfl);omega;omega))<;>(apply A.tk 6;exact rfl;kernel_rfl;(apply Ok1.load;exact rfl;(apply Ld.own1;exact rfl;exact rfl;(focus (repeat' first|exact At.head|apply At.tail);done);exact rfl)))<;>(apply A.one 3;kernel_rfl;exact rfl;(((apply R.pure;exact rfl;(apply Ok1.load;exact rfl;(apply Ld.own1;exact rfl;exact rfl;(focus (repeat' first|exact At.head|apply At.tail);done);exact rfl)))));apply R.nil;refine ⟨?_,?_⟩;(focus (repeat' first|exact trivial|exact At.head|apply At.tail|refine ⟨?_,?_⟩)))<;>(apply A.tk 7;exact rfl;kernel_rfl;(apply Ok1.max2;exact rfl;exact rfl))<;>(apply A.tk 8;exact rfl;kernel_rfl;(apply Ok1.indexAddrA;(iterate 5 exact rfl);omega;omega))<;>(apply A.one 9;kernel_rfl;exact rfl;(((apply R.store;(iterate 6 exact rfl);(focus (repeat' first|exact Upd.head|apply Upd.tail);done);exact rfl)));apply R.nil;refine ⟨?_,?_⟩;(focus (repeat' first|exact trivial|exact At.head|apply At.tail|refine ⟨?_,?_⟩)))<;>(apply A.done;kernel_rfl)))|apply T.seq|apply T.region|apply T.block|apply T.skip|apply T.exit|apply T.ret|(apply T.cond_t;exact rfl)|(apply T.cond_f;exact rfl)))
  all_goals (apply RetOk.c;exact rfl;((apply Ld.ownk;exact rfl;exact rfl;exact At.head;exact rfl)))
  all_goals rfl
theorem covers_ok (a0 a1 a2 a3 b0 b1 b2 b3:Int):CallP Tryz.prog 75 [.agg ⟨[.int .i64 a0,.int .i64 a1,.int .i64 a2,.int .i64 a3]⟩,.agg ⟨[.int .i64 b0,.int .i64 b1,.int .i64 b2,.int .i64 b3]⟩] (.bool (decide (b0≤a0∧b1≤a1∧b2≤a2∧b3≤a3))):=by
  have hj:=join_ok a0 a1 a2 a3 b0 b1 b2 b3
  obtain ⟨q,hq⟩:∃ q,decide (b0≤a0∧b1≤a1∧b2≤a2∧b3≤a3)=q:=⟨_,rfl⟩
  have hq2:[Value.int .i64 (max a0 b0),.int .i64 (max a1 b1),.int .i64 (max a2 b2),.int .i64 (max a3 b3)]=[Value.int .i64 a0,.int .i64 a1,.int .i64 a2,.int .i64 a3] ↔ q=true:=by
    rw [← hq,decide_eq_true_iff]
    simp only [List.cons.injEq,Value.int.injEq,true_and,and_true]
    omega
  rw [hq]
  refine enterP (tb:=tb) Tryz.func75 rfl Tryz.ntmps75 rfl fun w=>?_
  repeat' (first|(apply R.is1;first|(apply R.pure;exact rfl;(apply Ok1.assign;exact rfl))|(apply R.box;(iterate 3 exact rfl);intro))|apply R.nil|(apply T.is;first|(apply T.drawC (id:=1) [0,1] (by decide);((apply A.tk 0;exact rfl;kernel_rfl;(apply Ok1.load;exact rfl;(apply Ld.ownk;exact rfl;exact rfl;(focus (repeat' first|exact At.head|apply At.tail);done);exact rfl)))<;>(apply A.tk 1;exact rfl;kernel_rfl;(apply Ok1.load;exact rfl;(apply Ld.ownk;exact rfl;exact rfl;exact At.head;exact rfl)))<;>(apply A.call 2;exact rfl;exact rfl;kernel_rfl;kernel_rfl;kernel_rfl;exact rfl;exact rfl;(exact fun w1 _=>hj.w w1))<;>(apply A.tk 3;exact rfl;kernel_rfl;(apply Ok1.load;exact rfl;(apply Ld.ownk;exact rfl;exact rfl;(focus (repeat' first|exact At.head|apply At.tail);done);exact rfl)))<;>((apply A.tk 4;exact rfl;kernel_rfl;(apply Ok1.eqlFq2;(iterate 7 exact rfl);exact hq2)))<;>(apply A.tk 5;exact rfl;kernel_rfl;(apply Ok1.assign;exact rfl))<;>(apply A.done;kernel_rfl)))|apply T.seq|apply T.region|apply T.ret))
  all_goals (apply RetOk.t;exact rfl)
  all_goals rfl
def revE (ls:List (List Int)) (seed:Int) (xs:List Int):Int :=
  if seed < 0 ∨ 4≤seed ∨ ¬ SR xs then 10 else if ¬ (ls.getD seed.toNat []++xs).Nodup then 8 else if 256 < (ls.getD seed.toNat []++xs).length then 6 else 0
def revL (ls:List (List Int)) (seed:Int) (xs:List Int):List (List Int):=if revE ls seed xs=0 then ls.set seed.toNat (ls.getD seed.toNat []++xs) else ls
theorem LsL_at {gs:List Lg} {i:Nat} {g:Lg} (h:gs[i]? = some g):LsL gs=LsL (gs.take i)++(g.L++LsL (gs.drop (i+1))):=by
  obtain ⟨hi,rfl⟩:=List.getElem?_eq_some_iff.1 h
  have e:=List.take_append_drop i gs
  rw [List.drop_eq_getElem_cons hi] at e
  conv=>lhs;rw [← e]
  simp only [LsL,List.flatMap_append,List.flatMap_cons]
theorem LsL_set {gs:List Lg} {i:Nat} (g':Lg) (hi:i < gs.length):LsL (gs.set i g')=LsL (gs.take i)++(g'.L++LsL (gs.drop (i+1))):=by
  rw [List.set_eq_take_append_cons_drop,if_pos hi]
  simp only [LsL,List.flatMap_append,List.flatMap_cons]
theorem setV_set {gs:List Lg} {i:Nat} (g':Lg) (hi:i < gs.length):setE (setV gs) (0+i * 1) [g'.v]=some (setV (gs.set i g')):=by
  have:=setE_one (cs:=setV gs) (o:=0+i * 1) (v:=g'.v) (by simp [setV];omega)
  rw [this]
  simp [setV,List.map_set]
theorem GOk.set {gs:List Lg} (hg:GOk gs) (i:Nat) {g':Lg} (h:g'.ok) (hl:g'.xs.length≤256):GOk (gs.set i g') :=
  ⟨by rw [List.length_set];exact hg.len,fun g hm=>by rcases List.mem_or_eq_of_mem_set hm with h1|rfl;exact hg.ok g h1;exact h,fun g hm=>by rcases List.mem_or_eq_of_mem_set hm with h1|rfl;exact hg.le g h1;exact hl⟩
theorem revoke_ok (bs:Nat) (gs:List Lg) (hg:GOk gs) (seed:Int) (p:Option Addr) (n cap:Nat) (xs:List Int) (hn:n=xs.length) (hbig:n≤1000) (w:World) (hp:RdSl w p iV xs) (hoff:xs≠[]→Off p (blks (SetL bs gs))) :
    CallM Tryz.prog 21 [.pointer (some ⟨bs,0,none⟩),.int .i64 seed,.slice p n cap] (SetL bs gs) w fun v L=>∃ gs',v = .int .i64 (revE (lgs gs) seed xs)∧lgs gs'=revL (lgs gs) seed xs∧GOk gs' ∧ L=SetL bs gs':=by
  subst hn
  have hse:=fun w1 (hc:Chg (blks (SetL bs gs)) w w1)=>serials_ok p xs.length cap xs rfl (by omega) w1 (hp.chg' hc hoff)
  by_cases hr:seed < 0 ∨ 4≤seed ∨ ¬ SR xs
  · have he:revE (lgs gs) seed xs=10:=by rw [revE,if_pos hr]
    have hl:revL (lgs gs) seed xs=lgs gs:=by rw [revL,he,if_neg (by decide)]
    rw [he,hl]
    by_cases h0:seed < 0
    · refine enterK (tb:=tb) Tryz.func21 rfl Tryz.ntmps21 rfl ?_
      repeat' (first|(apply R.is1;first|(apply R.isBin;(apply R.pure;exact rfl;first|(apply Ok1.lss_t;exact rfl;exact rfl;omega)|(apply Ok1.eqlP;(iterate 5 exact rfl))))|(apply R.pure;exact rfl;first|(apply Ok1.move;exact rfl)|(apply Ok1.assign;exact rfl)|(apply Ok1.pick_t;exact rfl;exact rfl)))|(apply R.isG;(apply R.guard_not;(iterate 3 exact rfl)))|apply R.nil|(apply T.is;first|apply T.seq|apply T.region|apply T.block|apply T.ret|(apply T.cond_t;exact rfl)|(apply T.cond_f;exact rfl)))
      (apply RetOk.t;exact rfl)
      exact ⟨_,Keep.last (.all _),gs,rfl,rfl,hg,rfl⟩
    · by_cases h4:4≤seed
      · refine enterK (tb:=tb) Tryz.func21 rfl Tryz.ntmps21 rfl ?_
        repeat' (first|(apply R.is1;first|(apply R.isBin;(apply R.pure;exact rfl;first|(apply Ok1.lss_f;exact rfl;exact rfl;omega)|(apply Ok1.geq_t;exact rfl;exact rfl;omega)|(apply Ok1.eqlP;(iterate 5 exact rfl))))|(apply R.pure;exact rfl;first|(apply Ok1.move;exact rfl)|(apply Ok1.assign;exact rfl)|(apply Ok1.pick_t;exact rfl;exact rfl)|(apply Ok1.pick_f;exact rfl;exact rfl)))|(apply R.isG;first|(apply R.guard_run;exact rfl;exact rfl)|(apply R.guard_not;(iterate 3 exact rfl)))|apply R.nil|(apply T.is;first|apply T.seq|apply T.region|apply T.block|apply T.ret|(apply T.cond_t;exact rfl)|(apply T.cond_f;exact rfl)))
        (apply RetOk.t;exact rfl)
        exact ⟨_,Keep.last (.all _),gs,rfl,rfl,hg,rfl⟩
      · have hs:¬ SR xs:=by rcases hr with h|h|h;exact absurd h h0;exact absurd h h4;exact h
        rw [decide_eq_false hs] at hse
        refine enterK (tb:=tb) Tryz.func21 rfl Tryz.ntmps21 rfl ?_
        repeat' (first|(apply R.is1;first|(apply R.isBin;(apply R.pure;exact rfl;first|(apply Ok1.lss_f;exact rfl;exact rfl;omega)|(apply Ok1.geq_f;exact rfl;exact rfl;omega)|(apply Ok1.eqlP;(iterate 5 exact rfl))))|(apply R.isCall;(apply R.callV (vs:=[.slice p xs.length cap]);(iterate 3 exact rfl);intro w1 hw1;exact hse w1 hw1.chg))|(apply R.pure;exact rfl;first|(apply Ok1.move;exact rfl)|(apply Ok1.assign;exact rfl)|(apply Ok1.pick_f;exact rfl;exact rfl)|(apply Ok1.not_f;exact rfl)))|(apply R.isG;(apply R.guard_run;exact rfl;exact rfl))|apply R.nil|(apply T.is;first|apply T.seq|apply T.region|apply T.block|apply T.ret|(apply T.cond_t;exact rfl)|(apply T.cond_f;exact rfl)))
        (apply RetOk.t;exact rfl)
        exact ⟨_,Keep.last (.all _),gs,rfl,rfl,hg,rfl⟩
  · have h0:¬ seed < 0:=fun h=>hr (.inl h)
    have h4:¬ 4≤seed:=fun h=>hr (.inr (.inl h))
    have hs:SR xs:=Classical.not_not.1 fun h=>hr (.inr (.inr h))
    rw [decide_eq_true hs] at hse
    obtain ⟨i,rfl⟩:∃ i:Nat,seed=i:=⟨seed.toNat,by omega⟩
    have hi4:i < 4:=by omega
    obtain ⟨g,hx⟩:∃ g,gs[i]? = some g:=⟨_,List.getElem?_eq_getElem (by rw [hg.len];omega)⟩
    have hm:=List.mem_of_getElem? hx
    have hgo:=hg.ok g hm
    have hgl:=hg.le g hm
    have hcell:=setV_get hx hgo
    have hgd:(lgs gs).getD (i:Int).toNat []=g.xs:=by
      rw [Int.toNat_natCast,List.getD_eq_getElem?_getD,lgs,List.getElem?_map,hx]
      rfl
    have hcat:icat [⟨ovp g.ov,ovc g.ov g.xs.length,g.xs⟩,⟨p,cap,xs⟩]=g.xs++xs:=by simp [icat]
    have hcon:=fun b w1 h1 h2=>iconcat_ok (some ⟨b,0,none⟩) 2 2 [⟨ovp g.ov,ovc g.ov g.xs.length,g.xs⟩,⟨p,cap,xs⟩] rfl (by rw [hcat,List.length_append];omega) (by decide) w1 h1 h2
    rw [hcat] at hcon
    have hrev:revE (lgs gs) i xs=if ¬ (g.xs++xs).Nodup then 8 else if 256 < (g.xs++xs).length then 6 else 0:=by rw [revE,if_neg hr,hgd]
    have hal:(g.xs++xs).length≤1256:=by rw [List.length_append];omega
    have htw:=fun p cap w1 h1=>twice_ok p (g.xs++xs).length cap (g.xs++xs) rfl (by omega) w1 h1
    have hset:=fun g'=>setV_set (gs:=gs) (i:=i) g' (by rw [hg.len];exact hi4)
    have hrl:revL (lgs gs) i xs=if revE (lgs gs) i xs=0 then (lgs gs).set i (g.xs++xs) else lgs gs:=by rw [revL,hgd,Int.toNat_natCast]
    rw [hrl,hrev]
    clear hrl hrev hgd hcat
    generalize hall:g.xs++xs=all at *
    have hrd:=fun w1 (hc:Chg (blks (SetL bs gs)) w w1)=>hp.chg' hc hoff
    have hall2:∀ b w1,Hp w (blks (SetL bs gs)) ((b,.cells ⟨[.slice (ovp g.ov) g.xs.length (ovc g.ov g.xs.length),.slice p xs.length cap]⟩ 39 (0,0))::SetL bs gs) w1→CallM Tryz.prog 87 [.slice (some ⟨b,0,none⟩) 2 2] [] w1 fun v L=>∃ ov,OvOk 1 ov all.length (iis all)∧v=slV ov all.length∧L=blkL 3 ov (iis all):=by
      intro b w1 hw1
      refine hcon b w1 (RdSl.of (junk:=[]) hw1 .head rfl) ?_
      intro z hz
      simp only [List.mem_cons,List.not_mem_nil,or_false] at hz
      rcases hz with rfl|rfl
      · exact Lg.rd hgo hw1 fun x hx=>List.mem_cons_of_mem _ (List.mem_cons_of_mem _ (mem_LsL hm hx))
      · exact hrd w1 hw1.chg
    by_cases hnd:all.Nodup
    · rw [decide_eq_false (fun h=>h hnd)] at htw
      rw [if_neg (fun h=>h hnd)]
      by_cases hf:256 < all.length
      · rw [if_pos hf,if_neg (by decide)]
        refine enterK (tb:=tb) Tryz.func21 rfl Tryz.ntmps21 rfl ?_
        simp only [SetL]
        repeat' (first|(apply R.is1;first|(apply R.isBin;(apply R.pure;exact rfl;first|(apply Ok1.lss_f;exact rfl;exact rfl;omega)|(apply Ok1.gtr_t;exact rfl;exact rfl;omega)|(apply Ok1.geq_f;exact rfl;exact rfl;omega)|(apply Ok1.eqlP;(iterate 5 exact rfl))))|(apply R.isCall;first|(apply R.callV (vs:=[.slice p xs.length cap]);(iterate 3 exact rfl);intro w1 hw1;exact hse w1 hw1.chg)|(apply R.callE (vs:=[.slice (some ⟨_,0,none⟩) 2 2]);(iterate 3 exact rfl);exact Ext.none _;intro w1 hw1;exact hall2 _ w1 hw1;rintro v Lo ⟨ov,hov,rfl,rfl⟩;rw [slV_eq hov])|(apply R.callE (vs:=[.slice (ovp ov) all.length (ovc ov all.length)]);(iterate 3 exact rfl);exact Ext.none _;intro w1 hw1;exact htw (ovp ov) (ovc ov all.length) w1 (irdown hov hw1 (Ext.mem (by (focus ((repeat' (exact Ext.here _ _));done)))));rintro v Lo ⟨rfl,rfl⟩)|(apply R.pure;exact rfl;(apply Ok1.lenS;(iterate 3 exact rfl))))|(apply R.pure;exact rfl;first|(apply Ok1.load;exact rfl;apply Ld.own1;exact rfl;exact rfl;exact At.head;exact hcell)|(apply Ok1.move;exact rfl)|(apply Ok1.fieldAddr;(iterate 5 exact rfl))|(apply Ok1.assign;exact rfl)|(apply Ok1.indexAddrA;(iterate 5 exact rfl);omega;omega)|(apply Ok1.pick_f;exact rfl;exact rfl)|(apply Ok1.not_t;exact rfl)|(apply Ok1.nilCheck;exact rfl))|(apply R.buildSlice;(iterate 12 exact rfl);intro))|(apply R.isG;(apply R.guard_run;exact rfl;exact rfl))|apply R.nil|(apply T.is;first|apply T.seq|apply T.region|apply T.block|apply T.skip|apply T.ret|(apply T.cond_t;exact rfl)|(apply T.cond_f;exact rfl)))
        (apply RetOk.t;exact rfl)
        refine ⟨_,?_,gs,rfl,rfl,hg,rfl⟩
        (focus (repeat' first|exact Ext.one _ _|exact Ext.all _|apply Keep.cons|apply Keep.last|apply Ext.cons|apply Ext.app);done)
      · rw [if_neg hf,if_pos rfl]
        refine enterK (tb:=tb) Tryz.func21 rfl Tryz.ntmps21 rfl ?_
        simp only [SetL]
        repeat' (first|(apply R.is1;first|(apply R.isBin;(apply R.pure;exact rfl;first|(apply Ok1.lss_f;exact rfl;exact rfl;omega)|(apply Ok1.gtr_f;exact rfl;exact rfl;omega)|(apply Ok1.geq_f;exact rfl;exact rfl;omega)|(apply Ok1.eqlP;(iterate 5 exact rfl))))|(apply R.isCall;first|(apply R.callV (vs:=[.slice p xs.length cap]);(iterate 3 exact rfl);intro w1 hw1;exact hse w1 hw1.chg)|(apply R.callE (vs:=[.slice (some ⟨_,0,none⟩) 2 2]);(iterate 3 exact rfl);exact Ext.none _;intro w1 hw1;exact hall2 _ w1 hw1;rintro v Lo ⟨ov,hov,rfl,rfl⟩;rw [slV_eq hov])|(apply R.callE (vs:=[.slice (ovp ov) all.length (ovc ov all.length)]);(iterate 3 exact rfl);exact Ext.none _;intro w1 hw1;exact htw (ovp ov) (ovc ov all.length) w1 (irdown hov hw1 (Ext.mem (by (focus ((repeat' (exact Ext.here _ _));done)))));rintro v Lo ⟨rfl,rfl⟩)|(apply R.pure;exact rfl;(apply Ok1.lenS;(iterate 3 exact rfl))))|(apply R.pure;exact rfl;first|(apply Ok1.load;exact rfl;apply Ld.own1;exact rfl;exact rfl;exact At.head;exact hcell)|(apply Ok1.move;exact rfl)|(apply Ok1.fieldAddr;(iterate 5 exact rfl))|(apply Ok1.assign;exact rfl)|(apply Ok1.indexAddrA;(iterate 5 exact rfl);omega;omega)|(apply Ok1.pick_f;exact rfl;exact rfl)|(apply Ok1.not_t;exact rfl)|(apply Ok1.nilCheck;exact rfl))|(apply R.buildSlice;(iterate 12 exact rfl);intro))|(apply R.is0;(apply R.store;(iterate 6 exact rfl);(focus (repeat' first|exact Upd.head|apply Upd.tail|apply Upd.right);done);have h9:=hset ⟨ov,all⟩;rw [Lg.v_eq (g:=⟨ov,all⟩) hov] at h9;exact h9))|(apply R.isG;(apply R.guard_run;exact rfl;exact rfl))|apply R.nil|(apply T.is;first|apply T.seq|apply T.region|apply T.block|apply T.skip|apply T.ret|(apply T.cond_f;exact rfl)))
        (apply RetOk.t;exact rfl)
        refine ⟨_,?_,gs.set i ⟨ov,all⟩,rfl,by rw [lgs,List.map_set];rfl,hg.set i hov (by show all.length≤256;omega),rfl⟩
        rw [LsL_at hx,LsL_set _ (by rw [hg.len];exact hi4)]
        simp only [Lg.L]
        (focus (repeat' first|exact Ext.one _ _|exact Ext.here _ _|exact Ext.all _|apply Keep.cons|apply Keep.app|apply Keep.last|apply Ext.cons|apply Ext.app);done)
    · rw [decide_eq_true hnd] at htw
      rw [if_pos hnd,if_neg (by decide)]
      refine enterK (tb:=tb) Tryz.func21 rfl Tryz.ntmps21 rfl ?_
      simp only [SetL]
      repeat' (first|(apply R.is1;first|(apply R.isBin;(apply R.pure;exact rfl;first|(apply Ok1.lss_f;exact rfl;exact rfl;omega)|(apply Ok1.geq_f;exact rfl;exact rfl;omega)|(apply Ok1.eqlP;(iterate 5 exact rfl))))|(apply R.isCall;first|(apply R.callV (vs:=[.slice p xs.length cap]);(iterate 3 exact rfl);intro w1 hw1;exact hse w1 hw1.chg)|(apply R.callE (vs:=[.slice (some ⟨_,0,none⟩) 2 2]);(iterate 3 exact rfl);exact Ext.none _;intro w1 hw1;exact hall2 _ w1 hw1;rintro v Lo ⟨ov,hov,rfl,rfl⟩;rw [slV_eq hov])|(apply R.callE (vs:=[.slice (ovp ov) all.length (ovc ov all.length)]);(iterate 3 exact rfl);exact Ext.none _;intro w1 hw1;exact htw (ovp ov) (ovc ov all.length) w1 (irdown hov hw1 (Ext.mem (by (focus ((repeat' (exact Ext.here _ _));done)))));rintro v Lo ⟨rfl,rfl⟩))|(apply R.pure;exact rfl;first|(apply Ok1.load;exact rfl;apply Ld.own1;exact rfl;exact rfl;exact At.head;exact hcell)|(apply Ok1.move;exact rfl)|(apply Ok1.fieldAddr;(iterate 5 exact rfl))|(apply Ok1.assign;exact rfl)|(apply Ok1.indexAddrA;(iterate 5 exact rfl);omega;omega)|(apply Ok1.pick_f;exact rfl;exact rfl)|(apply Ok1.not_t;exact rfl)|(apply Ok1.nilCheck;exact rfl))|(apply R.buildSlice;(iterate 12 exact rfl);intro))|(apply R.isG;(apply R.guard_run;exact rfl;exact rfl))|apply R.nil|(apply T.is;first|apply T.seq|apply T.region|apply T.block|apply T.skip|apply T.ret|(apply T.cond_t;exact rfl)|(apply T.cond_f;exact rfl)))
      (apply RetOk.t;exact rfl)
      refine ⟨_,?_,gs,rfl,rfl,hg,rfl⟩
      (focus (repeat' first|exact Ext.one _ _|exact Ext.all _|apply Keep.cons|apply Keep.last|apply Ext.cons|apply Ext.app);done)
section
variable {X:Cx} {σ:Env} {L Lr:Lst} {d:Option Nat} {ty:TypeId} {pos:String} {af:Array Edge} {g:Option (Nat × Bool)} {x:Operand} {t e:TypeId} {r re:TRow} {p:Option Addr} {n cap i j:Nat}
theorem Ok1.midR {lo hi:Operand} {sz:Nat} (ht:X.tb.row t=some r) (hk:r.k = .slice e) (he:X.tb.row e=some re) (hsz:re.size=sz) (hx:ev σ x=some (.slice p n cap)) (hl:ev σ lo=some (.int .i64 i)) (hh:ev σ hi=some (.int .i64 j)) (h1:i≤j) (h2:j≤cap) :
    Ok1 X ⟨d,.slice t x (some lo) (some hi) none,ty,pos,af,g⟩ σ L (.slice (sufP p cap i sz) (j - i) (cap - i)):=.mk fun a w ha hw=>by
  subst hsz
  rw [slice_run (l:=(i:Int)) (h:=(j:Int)) (m:=(cap:Int)) X.tb ht hk he ha hx rfl (by simp [bd,hh]) (by simp [bd,hl]) (by omega) (by omega) (by omega) (by omega) (.inl rfl)]
  simp [sufP]
end
/-- A delta: from where,and a log's part,of each. -/
abbrev Dl:=List (Int × Pi)
def dlV (d:Dl):List Value:=iis (d.map (·.1))++fl Pi.v (d.map (·.2))
def DOk1 (x:Int × Pi):Prop:=0≤x.1∧x.1≤256∧x.2.xs.length≤256∧SR x.2.xs
def DOk (d:Dl):Prop:=∀ x∈d,DOk1 x
instance (x:Int × Pi):Decidable (DOk1 x):=by unfold DOk1;infer_instance
instance (d:Dl):Decidable (DOk d):=by unfold DOk;infer_instance
theorem fl_pi (ps:List Pi):fl Pi.v ps=ps.map fun z=>.slice z.p z.xs.length z.cap:=by
  unfold fl
  induction ps with
  | nil=>rfl
  | cons a l ih=>simp only [List.map_cons,List.flatten_cons,ih];rfl
theorem dl_from {d:Dl} {i:Nat} {x:Int × Pi} (h:d[i]? = some x):(iis (d.map (·.1)))[i * 1]? = some (.int .i64 x.1):=by
  rw [Nat.mul_one,iis,List.map_map,List.getElem?_map,h];rfl
theorem dl_log {d:Dl} (hl:d.length=4) {i:Nat} {x:Int × Pi} (h:d[i]? = some x):(dlV d)[4+i * 1]? = some (.slice x.2.p x.2.xs.length x.2.cap):=by
  rw [Nat.mul_one,dlV,List.getElem?_append_right (by rw [iis_len,List.length_map];omega),iis_len,List.length_map,hl,Nat.add_sub_cancel_left,fl_pi,List.map_map,List.getElem?_map,h];rfl
theorem dl_froms {d:Dl} (hl:d.length=4):subE (dlV d) 0 4=some (iis (d.map (·.1))):=subE_app _ _ (by rw [iis_len,List.length_map,hl])
theorem rcheck_ok (d:Dl) (hl:d.length=4) (hbig:∀ x∈d,x.2.xs.length≤1000000) (w:World) (hr:∀ x∈d,RdSl w x.2.p iV x.2.xs) :
    CallW Tryz.prog 101 [.agg ⟨dlV d⟩] w fun v _=>v = .int .i64 (if DOk d then 0 else 10):=by
  have hse:=fun x (hx:x∈d) w1 (hc:Chg [] w w1)=>serials_ok x.2.p x.2.xs.length x.2.cap x.2.xs rfl (by have:=hbig x hx;omega) w1 ((hr x hx).chg' hc (fun _=>Off.nil _))
  have hfr:=dl_froms hl
  have hdl:(dlV d).length=8:=by simp [dlV,fl_pi,iis_len,hl]
  refine enterW (tb:=tb) Tryz.func101 rfl Tryz.ntmps101 rfl ?_
  repeat' (first|(apply R.is1;first|(apply R.pure;exact rfl;first|(apply Ok1.load;exact rfl;apply Ld.ownk;exact rfl;exact rfl;exact At.head;exact hfr)|(apply Ok1.move;exact rfl)|(apply Ok1.fieldAddr;(iterate 5 exact rfl))|(apply Ok1.assign;exact rfl))|(apply R.box;(iterate 3 exact rfl);intro))|apply R.nil|(apply T.is;first|apply T.seq|apply T.region|apply T.block))
  rename_i b
  apply T.loopK (α:=Nat) (I:=fun i=>i≤4∧∀ x∈d.take i,DOk1 x) (σi:=fun i=>[(1,.pointer (some ⟨b,0,none⟩)),(6,.agg ⟨iis (d.map (·.1))⟩),(7,.int .i64 i)]) (Li:=fun _=>[(b,.cells ⟨dlV d⟩ 76 (0,0))]) (μ:=fun i=>4 - i) (i0:=0)
  · exact ⟨Nat.zero_le _,by simp⟩
  · exact ⟨rfl,rfl,rfl,trivial⟩
  · (focus (repeat' first|exact Keep.nil _|exact Ext.one _ _|apply Keep.cons);done)
  · intro i ⟨hi,hall⟩
    rcases Nat.lt_or_ge i 4 with hlt|hge
    · obtain ⟨x,hx⟩:∃ x,d[i]? = some x:=⟨_,List.getElem?_eq_getElem (by omega)⟩
      have hm:=List.mem_of_getElem? hx
      have h1:=hse x hm
      have hf:=dl_from hx
      have hg:=dl_log hl hx
      have hb:=hbig x hm
      have hbad:¬ DOk1 x→(if DOk d then (0:Int) else 10)=10:=fun h=>if_neg fun hd=>h (hd x hm)
      by_cases c1:x.1 < 0
      · rw [hbad (fun h=>by have:=h.1;omega)]
        repeat' (first|(apply R.is1;first|(apply R.isBin;(apply R.pure;exact rfl;(apply Ok1.lss_t;exact rfl;exact rfl;omega)))|(apply R.pure;exact rfl;first|(apply Ok1.index1;(iterate 6 exact rfl);omega;omega;exact hf)|(apply Ok1.move;exact rfl)|(apply Ok1.assign;exact rfl)|(apply Ok1.pick_t;exact rfl;exact rfl)))|(apply R.isG;(apply R.guard_not;(iterate 3 exact rfl)))|apply R.nil|(apply T.is;first|apply T.seq|apply T.region|apply T.block|apply T.skip|apply T.ret|(apply T.cond_t;exact rfl)))
        (apply RetOk.t;exact rfl)
        rfl
      · by_cases c2:256 < x.1
        · rw [hbad (fun h=>by have:=h.2.1;omega)]
          repeat' (first|(apply R.is1;first|(apply R.isBin;(apply R.pure;exact rfl;first|(apply Ok1.lss_t;exact rfl;exact rfl;omega)|(apply Ok1.lss_f;exact rfl;exact rfl;omega)|(apply Ok1.gtr_t;exact rfl;exact rfl;omega)))|(apply R.pure;exact rfl;first|(apply Ok1.index1;(iterate 6 exact rfl);omega;omega;exact hf)|(apply Ok1.move;exact rfl)|(apply Ok1.assign;exact rfl)|(apply Ok1.pick_t;exact rfl;exact rfl)|(apply Ok1.pick_f;exact rfl;exact rfl)))|(apply R.isG;first|(apply R.guard_run;exact rfl;exact rfl)|(apply R.guard_not;(iterate 3 exact rfl)))|apply R.nil|(apply T.is;first|apply T.seq|apply T.region|apply T.block|apply T.skip|apply T.ret|(apply T.cond_t;exact rfl)))
          (apply RetOk.t;exact rfl)
          rfl
        · by_cases c3:256 < x.2.xs.length
          · rw [hbad (fun h=>by have:=h.2.2.1;omega)]
            repeat' (first|(apply R.is1;first|(apply R.isBin;(apply R.pure;exact rfl;first|(apply Ok1.lss_t;exact rfl;exact rfl;omega)|(apply Ok1.lss_f;exact rfl;exact rfl;omega)|(apply Ok1.gtr_t;exact rfl;exact rfl;omega)|(apply Ok1.gtr_f;exact rfl;exact rfl;omega)))|(apply R.isCall;(apply R.pure;exact rfl;(apply Ok1.lenS;(iterate 3 exact rfl))))|(apply R.pure;exact rfl;first|(apply Ok1.index1;(iterate 6 exact rfl);omega;omega;exact hf)|(apply Ok1.load;exact rfl;apply Ld.own1;exact rfl;exact rfl;exact At.head;exact hg)|(apply Ok1.move;exact rfl)|(apply Ok1.fieldAddr;(iterate 5 exact rfl))|(apply Ok1.assign;exact rfl)|(apply Ok1.indexAddrA;(iterate 5 exact rfl);omega;omega)|(apply Ok1.pick_t;exact rfl;exact rfl)|(apply Ok1.pick_f;exact rfl;exact rfl)))|(apply R.isG;first|(apply R.guard_run;exact rfl;exact rfl)|(apply R.guard_not;(iterate 3 exact rfl)))|apply R.nil|(apply T.is;first|apply T.seq|apply T.region|apply T.block|apply T.skip|apply T.ret|(apply T.cond_t;exact rfl)))
            (apply RetOk.t;exact rfl)
            rfl
          · by_cases c4:SR x.2.xs
            · rw [decide_eq_true c4] at h1
              repeat' (first|(apply R.is1;first|(apply R.isBin;(apply R.pure;exact rfl;first|(apply Ok1.add64;exact rfl;exact rfl;omega;omega)|(apply Ok1.lss_t;exact rfl;exact rfl;omega)|(apply Ok1.lss_f;exact rfl;exact rfl;omega)|(apply Ok1.gtr_f;exact rfl;exact rfl;omega)))|(apply R.isCall;first|(apply R.callV (vs:=[.slice x.2.p x.2.xs.length x.2.cap]);(iterate 3 exact rfl);intro w1 hw1;exact h1 w1 hw1.chg)|(apply R.pure;exact rfl;(apply Ok1.lenS;(iterate 3 exact rfl))))|(apply R.pure;exact rfl;first|(apply Ok1.index1;(iterate 6 exact rfl);omega;omega;exact hf)|(apply Ok1.load;exact rfl;apply Ld.own1;exact rfl;exact rfl;exact At.head;exact hg)|(apply Ok1.move;exact rfl)|(apply Ok1.fieldAddr;(iterate 5 exact rfl))|(apply Ok1.assign;exact rfl)|(apply Ok1.indexAddrA;(iterate 5 exact rfl);omega;omega)|(apply Ok1.pick_f;exact rfl;exact rfl)|(apply Ok1.not_t;exact rfl)))|(apply R.isG;(apply R.guard_run;exact rfl;exact rfl))|apply R.nil|(apply T.is;first|apply T.seq|apply T.region|apply T.block|apply T.skip|(apply T.cond_t;exact rfl)|(apply T.cond_f;exact rfl)))
              refine ⟨i+1,⟨by omega,?_⟩,by omega,⟨rfl,rfl,rfl,trivial⟩,by (focus (repeat' first|exact Keep.nil _|exact Ext.one _ _|apply Keep.cons);done)⟩
              intro z hz
              rw [List.take_add_one,hx,List.mem_append] at hz
              rcases hz with hz|hz
              · exact hall z hz
              · simp only [Option.toList_some,List.mem_singleton] at hz
                rw [hz]
                exact ⟨by omega,by omega,by omega,c4⟩
            · rw [hbad (fun h=>c4 h.2.2.2)]
              rw [decide_eq_false c4] at h1
              repeat' (first|(apply R.is1;first|(apply R.isBin;(apply R.pure;exact rfl;first|(apply Ok1.lss_t;exact rfl;exact rfl;omega)|(apply Ok1.lss_f;exact rfl;exact rfl;omega)|(apply Ok1.gtr_f;exact rfl;exact rfl;omega)))|(apply R.isCall;first|(apply R.callV (vs:=[.slice x.2.p x.2.xs.length x.2.cap]);(iterate 3 exact rfl);intro w1 hw1;exact h1 w1 hw1.chg)|(apply R.pure;exact rfl;(apply Ok1.lenS;(iterate 3 exact rfl))))|(apply R.pure;exact rfl;first|(apply Ok1.index1;(iterate 6 exact rfl);omega;omega;exact hf)|(apply Ok1.load;exact rfl;apply Ld.own1;exact rfl;exact rfl;exact At.head;exact hg)|(apply Ok1.move;exact rfl)|(apply Ok1.fieldAddr;(iterate 5 exact rfl))|(apply Ok1.assign;exact rfl)|(apply Ok1.indexAddrA;(iterate 5 exact rfl);omega;omega)|(apply Ok1.pick_f;exact rfl;exact rfl)|(apply Ok1.not_f;exact rfl)))|(apply R.isG;(apply R.guard_run;exact rfl;exact rfl))|apply R.nil|(apply T.is;first|apply T.seq|apply T.region|apply T.block|apply T.skip|apply T.ret|(apply T.cond_t;exact rfl)))
              (apply RetOk.t;exact rfl)
              rfl
    · have him:i=4:=by omega
      subst him
      rw [List.take_of_length_le (by omega)] at hall
      have h5:(if DOk d then (0:Int) else 10)=0:=if_pos hall
      rw [h5]
      repeat' (first|(apply R.is1;first|(apply R.isBin;(apply R.pure;exact rfl;(apply Ok1.lss_f;exact rfl;exact rfl;omega)))|(apply R.pure;exact rfl;(apply Ok1.assign;exact rfl)))|apply R.nil|(apply T.is;first|apply T.seq|apply T.region|apply T.exit|apply T.ret|(apply T.cond_f;exact rfl)))
      (apply RetOk.t;exact rfl)
      rfl
/-- How much of it both have;the error;the log. -/
def both (xs ys:List Int) (k:Nat):Nat:=min (xs.length - k) ys.length
def jAll (xs ys:List Int) (k:Nat):List Int:=xs++ys.drop (both xs ys k)
def jE (xs ys:List Int) (k:Nat):Int :=
  if (xs.drop k).take (both xs ys k)≠ys.take (both xs ys k) then 3 else if ¬ (jAll xs ys k).Nodup then 3 else if 256 < (jAll xs ys k).length then 6 else 0
def jL (xs ys:List Int) (k:Nat):List Int:=if jE xs ys k=0 then jAll xs ys k else []
theorem mid_take (xs:List Int) (k b:Nat) (h:k+b≤xs.length):((xs.drop k).take b).length=b:=by rw [List.length_take,List.length_drop];omega
theorem joined_ok (p1:Option Addr) (n1 c1:Nat) (xs:List Int) (hn1:n1=xs.length) (hc1:n1≤c1) (hb1:n1≤256) (k:Nat) (hk:k≤n1) (p2:Option Addr) (n2 c2:Nat) (ys:List Int) (hn2:n2=ys.length) (hc2:n2≤c2) (hb2:n2≤256) (w:World) (h1:RdSl w p1 iV xs) (h2:RdSl w p2 iV ys) :
    CallM Tryz.prog 149 [.slice p1 n1 c1,.int .i64 k,.slice p2 n2 c2] [] w fun v L=>∃ ov,v = .tuple #[slV ov (jL xs ys k).length,.int .i64 (jE xs ys k)]∧OvOk 1 ov (jL xs ys k).length (iis (jL xs ys k))∧L=blkL 3 ov (iis (jL xs ys k)):=by
  subst hn1 hn2
  obtain ⟨b,hb⟩:∃ b,both xs ys k=b:=⟨_,rfl⟩
  have hbx:k+b≤xs.length:=by unfold both at hb;omega
  have hby:b≤ys.length:=by unfold both at hb;omega
  have hmin:min ((xs.length:Int) - k) ys.length=(b:Int):=by unfold both at hb;omega
  have hja:jAll xs ys k=xs++ys.drop b:=by rw [jAll,hb]
  have hje:jE xs ys k=if (xs.drop k).take b≠ys.take b then 3 else if ¬ (xs++ys.drop b).Nodup then 3 else if 256 < (xs++ys.drop b).length then 6 else 0:=by rw [jE,hja,hb]
  have hml:=mid_take xs k b hbx
  have hdl:(ys.drop b).length=ys.length - b:=List.length_drop
  have hr1:RdSl w (sufP p1 c1 k 1) iV ((xs.drop k).take b):=(h1.suf iV_len (by omega) hc1).pre iV_len b
  have hr2:RdSl w p2 iV (ys.take b):=h2.pre iV_len b
  have hr3:RdSl w (sufP p2 c2 b 1) iV (ys.drop b):=h2.suf iV_len hby hc2
  have heq:=fun w1 (hc:Chg [] w w1)=>ieqs_ok (sufP p1 c1 k 1) p2 (k+b - k) b (c1 - k) c2 ((xs.drop k).take b) (ys.take b) (by rw [hml];omega) (by rw [List.length_take];omega) (by omega) w1 (hr1.chg' hc (fun _=>Off.nil _)) (hr2.chg' hc (fun _=>Off.nil _))
  have hcat:icat [⟨p1,c1,xs⟩,⟨sufP p2 c2 b 1,c2 - b,ys.drop b⟩]=xs++ys.drop b:=by simp [icat]
  have hal:(xs++ys.drop b).length≤512:=by rw [List.length_append];omega
  have hcon:∀ bq w1,Hp w [] [(bq,.cells ⟨[.slice p1 xs.length c1,.slice (sufP p2 c2 b 1) (ys.length - b) (c2 - b)]⟩ 39 (0,0))] w1→CallM Tryz.prog 87 [.slice (some ⟨bq,0,none⟩) 2 2] [] w1 fun v L=>∃ ov,OvOk 1 ov (xs++ys.drop b).length (iis (xs++ys.drop b))∧v=slV ov (xs++ys.drop b).length∧L=blkL 3 ov (iis (xs++ys.drop b)):=by
    intro bq w1 hw1
    have:=iconcat_ok (some ⟨bq,0,none⟩) 2 2 [⟨p1,c1,xs⟩,⟨sufP p2 c2 b 1,c2 - b,ys.drop b⟩] rfl (by rw [hcat];omega) (by decide) w1 (RdSl.of (junk:=[]) hw1 .head (by simp [fl,Pi.v,hdl])) (by
      intro z hz
      simp only [List.mem_cons,List.not_mem_nil,or_false] at hz
      rcases hz with rfl|rfl
      · exact h1.chg' hw1.chg (fun _=>Off.nil _)
      · exact hr3.chg' hw1.chg (fun _=>Off.nil _))
    rw [hcat] at this
    exact this
  have htw:=fun p cap w1 hh=>twice_ok p (xs++ys.drop b).length cap (xs++ys.drop b) rfl (by omega) w1 hh
  have hjl:jL xs ys k=if jE xs ys k=0 then xs++ys.drop b else []:=by rw [jL,hja]
  refine enterK (tb:=tb) Tryz.func149 rfl Tryz.ntmps149 rfl ?_
  repeat' (first|(apply R.is1;first|(apply R.isBin;(apply R.pure;exact rfl;(apply Ok1.sub64;exact rfl;exact rfl;omega;omega)))|(apply R.isCall;(apply R.pure;exact rfl;first|(apply Ok1.lenS;(iterate 3 exact rfl))|(apply Ok1.min2;exact rfl;exact rfl)))|(apply R.pure;exact rfl;first|(apply Ok1.move;exact rfl)|(apply Ok1.assign;exact rfl)))|apply R.nil|(apply T.is;first|apply T.seq|apply T.region))
  rw [hmin]
  by_cases c:(xs.drop k).take b=ys.take b
  · rw [decide_eq_true c] at heq
    rw [if_neg (fun h=>h c)] at hje
    generalize xs++ys.drop b=all at *
    by_cases hnd:all.Nodup
    · rw [decide_eq_false (fun h=>h hnd)] at htw
      rw [if_neg (fun h=>h hnd)] at hje
      by_cases hf:256 < all.length
      · rw [if_pos hf] at hje
        rw [hje,if_neg (by decide)] at hjl
        rw [hje,hjl]
        repeat' (first|(apply R.is1;first|(apply R.isBin;(apply R.pure;exact rfl;(apply Ok1.gtr_t;exact rfl;exact rfl;omega)))|(apply R.isCall;first|(apply R.callE (vs:=[.slice (some ⟨_,0,none⟩) 2 2]);(iterate 3 exact rfl);exact Ext.none _;intro w1 hw1;exact hcon _ w1 hw1;rintro v Lo ⟨ov,hov,rfl,rfl⟩;rw [slV_eq hov])|(apply R.callE (vs:=[.slice (ovp ov) all.length (ovc ov all.length)]);(iterate 3 exact rfl);exact Ext.none _;intro w1 hw1;exact htw (ovp ov) (ovc ov all.length) w1 (irdown hov hw1 (Ext.mem (by (focus ((repeat' (exact Ext.here _ _));done)))));rintro v Lo ⟨rfl,rfl⟩)|(apply R.pure;exact rfl;(apply Ok1.lenS;(iterate 3 exact rfl))))|(apply R.pure;exact rfl;first|(apply Ok1.sufR (i:=b) (sz:=1);(iterate 6 exact rfl);omega;omega)|(apply Ok1.move;exact rfl)|(apply Ok1.assign;exact rfl))|(apply R.buildSlice;(iterate 12 exact rfl);intro))|apply R.nil|(apply T.is;first|(apply T.drawC (id:=2) [] (by decide);((apply A.tk 0;exact rfl;kernel_rfl;(apply Ok1.move;exact rfl))<;>(apply A.tk 1;exact rfl;kernel_rfl;(apply Ok1.move;exact rfl))<;>(apply A.tk 2;exact rfl;kernel_rfl;(apply Ok1.move;exact rfl))<;>(apply A.tk 3;exact rfl;kernel_rfl;(apply Ok1.move;exact rfl))<;>(apply A.tk 4;exact rfl;kernel_rfl;(apply Ok1.add64;exact rfl;exact rfl;omega;omega))<;>(apply A.tk 5;exact rfl;kernel_rfl;(apply Ok1.midR (i:=k) (j:=k+b) (sz:=1);(iterate 6 exact rfl);exact congrArg (fun z:Int=>some (Value.int .i64 z)) (Int.natCast_add k b).symm;omega;omega))<;>(apply A.tk 6;exact rfl;kernel_rfl;(apply Ok1.move;exact rfl))<;>(apply A.tk 7;exact rfl;kernel_rfl;(apply Ok1.move;exact rfl))<;>(apply A.tk 8;exact rfl;kernel_rfl;(apply Ok1.preR (i:=b);(iterate 5 exact rfl);omega))<;>(apply A.one 9;kernel_rfl;exact rfl;(((apply R.callV (vs:=[.slice (sufP p1 c1 k 1) (k+b - k) (c1 - k),.slice p2 b c2]);(iterate 3 exact rfl);intro w1 hw1;exact heq w1 hw1.chg)));apply R.nil;refine ⟨?_,?_⟩;(focus ((repeat' (exact trivial)))))<;>(apply A.tk 10;exact rfl;kernel_rfl;(apply Ok1.not_t;exact rfl))<;>(apply A.done;kernel_rfl)))|apply T.seq|apply T.region|apply T.block|apply T.skip|apply T.ret|(apply T.cond_t;exact rfl)|(apply T.cond_f;exact rfl)))
        (apply RetOk.tt;exact rfl;exact rfl)
        exact ⟨_,Keep.nil _,none,rfl,⟨rfl,rfl⟩,rfl⟩
      · rw [if_neg hf] at hje
        rw [hje,if_pos rfl] at hjl
        rw [hje,hjl]
        repeat' (first|(apply R.is1;first|(apply R.isBin;(apply R.pure;exact rfl;(apply Ok1.gtr_f;exact rfl;exact rfl;omega)))|(apply R.isCall;first|(apply R.callE (vs:=[.slice (some ⟨_,0,none⟩) 2 2]);(iterate 3 exact rfl);exact Ext.none _;intro w1 hw1;exact hcon _ w1 hw1;rintro v Lo ⟨ov,hov,rfl,rfl⟩;rw [slV_eq hov])|(apply R.callE (vs:=[.slice (ovp ov) all.length (ovc ov all.length)]);(iterate 3 exact rfl);exact Ext.none _;intro w1 hw1;exact htw (ovp ov) (ovc ov all.length) w1 (irdown hov hw1 (Ext.mem (by (focus ((repeat' (exact Ext.here _ _));done)))));rintro v Lo ⟨rfl,rfl⟩)|(apply R.pure;exact rfl;(apply Ok1.lenS;(iterate 3 exact rfl))))|(apply R.pure;exact rfl;first|(apply Ok1.sufR (i:=b) (sz:=1);(iterate 6 exact rfl);omega;omega)|(apply Ok1.move;exact rfl)|(apply Ok1.assign;exact rfl))|(apply R.buildSlice;(iterate 12 exact rfl);intro))|apply R.nil|(apply T.is;first|(apply T.drawC (id:=2) [] (by decide);((apply A.tk 0;exact rfl;kernel_rfl;(apply Ok1.move;exact rfl))<;>(apply A.tk 1;exact rfl;kernel_rfl;(apply Ok1.move;exact rfl))<;>(apply A.tk 2;exact rfl;kernel_rfl;(apply Ok1.move;exact rfl))<;>(apply A.tk 3;exact rfl;kernel_rfl;(apply Ok1.move;exact rfl))<;>(apply A.tk 4;exact rfl;kernel_rfl;(apply Ok1.add64;exact rfl;exact rfl;omega;omega))<;>(apply A.tk 5;exact rfl;kernel_rfl;(apply Ok1.midR (i:=k) (j:=k+b) (sz:=1);(iterate 6 exact rfl);exact congrArg (fun z:Int=>some (Value.int .i64 z)) (Int.natCast_add k b).symm;omega;omega))<;>(apply A.tk 6;exact rfl;kernel_rfl;(apply Ok1.move;exact rfl))<;>(apply A.tk 7;exact rfl;kernel_rfl;(apply Ok1.move;exact rfl))<;>(apply A.tk 8;exact rfl;kernel_rfl;(apply Ok1.preR (i:=b);(iterate 5 exact rfl);omega))<;>(apply A.one 9;kernel_rfl;exact rfl;(((apply R.callV (vs:=[.slice (sufP p1 c1 k 1) (k+b - k) (c1 - k),.slice p2 b c2]);(iterate 3 exact rfl);intro w1 hw1;exact heq w1 hw1.chg)));apply R.nil;refine ⟨?_,?_⟩;(focus ((repeat' (exact trivial)))))<;>(apply A.tk 10;exact rfl;kernel_rfl;(apply Ok1.not_t;exact rfl))<;>(apply A.done;kernel_rfl)))|apply T.seq|apply T.region|apply T.block|apply T.skip|apply T.ret|(apply T.cond_f;exact rfl)))
        (apply RetOk.tt;exact rfl;exact rfl)
        refine ⟨_,?_,ov,by rw [slV_eq hov],hov,rfl⟩
        (focus (repeat' first|exact Ext.here _ _|apply Keep.last|apply Ext.app);done)
    · rw [decide_eq_true hnd] at htw
      rw [if_pos hnd] at hje
      rw [hje,if_neg (by decide)] at hjl
      rw [hje,hjl]
      repeat' (first|(apply R.is1;first|(apply R.isCall;first|(apply R.callE (vs:=[.slice (some ⟨_,0,none⟩) 2 2]);(iterate 3 exact rfl);exact Ext.none _;intro w1 hw1;exact hcon _ w1 hw1;rintro v Lo ⟨ov,hov,rfl,rfl⟩;rw [slV_eq hov])|(apply R.callE (vs:=[.slice (ovp ov) all.length (ovc ov all.length)]);(iterate 3 exact rfl);exact Ext.none _;intro w1 hw1;exact htw (ovp ov) (ovc ov all.length) w1 (irdown hov hw1 (Ext.mem (by (focus ((repeat' (exact Ext.here _ _));done)))));rintro v Lo ⟨rfl,rfl⟩))|(apply R.pure;exact rfl;first|(apply Ok1.sufR (i:=b) (sz:=1);(iterate 6 exact rfl);omega;omega)|(apply Ok1.move;exact rfl)|(apply Ok1.assign;exact rfl))|(apply R.buildSlice;(iterate 12 exact rfl);intro))|apply R.nil|(apply T.is;first|(apply T.drawC (id:=2) [] (by decide);((apply A.tk 0;exact rfl;kernel_rfl;(apply Ok1.move;exact rfl))<;>(apply A.tk 1;exact rfl;kernel_rfl;(apply Ok1.move;exact rfl))<;>(apply A.tk 2;exact rfl;kernel_rfl;(apply Ok1.move;exact rfl))<;>(apply A.tk 3;exact rfl;kernel_rfl;(apply Ok1.move;exact rfl))<;>(apply A.tk 4;exact rfl;kernel_rfl;(apply Ok1.add64;exact rfl;exact rfl;omega;omega))<;>(apply A.tk 5;exact rfl;kernel_rfl;(apply Ok1.midR (i:=k) (j:=k+b) (sz:=1);(iterate 6 exact rfl);exact congrArg (fun z:Int=>some (Value.int .i64 z)) (Int.natCast_add k b).symm;omega;omega))<;>(apply A.tk 6;exact rfl;kernel_rfl;(apply Ok1.move;exact rfl))<;>(apply A.tk 7;exact rfl;kernel_rfl;(apply Ok1.move;exact rfl))<;>(apply A.tk 8;exact rfl;kernel_rfl;(apply Ok1.preR (i:=b);(iterate 5 exact rfl);omega))<;>(apply A.one 9;kernel_rfl;exact rfl;(((apply R.callV (vs:=[.slice (sufP p1 c1 k 1) (k+b - k) (c1 - k),.slice p2 b c2]);(iterate 3 exact rfl);intro w1 hw1;exact heq w1 hw1.chg)));apply R.nil;refine ⟨?_,?_⟩;(focus ((repeat' (exact trivial)))))<;>(apply A.tk 10;exact rfl;kernel_rfl;(apply Ok1.not_t;exact rfl))<;>(apply A.done;kernel_rfl)))|apply T.seq|apply T.region|apply T.block|apply T.skip|apply T.ret|(apply T.cond_t;exact rfl)|(apply T.cond_f;exact rfl)))
      (apply RetOk.tt;exact rfl;exact rfl)
      exact ⟨_,Keep.nil _,none,rfl,⟨rfl,rfl⟩,rfl⟩
  · rw [decide_eq_false c] at heq
    rw [if_pos c] at hje
    rw [hje,if_neg (by decide)] at hjl
    rw [hje,hjl]
    repeat' (first|(apply R.is1;(apply R.pure;exact rfl;(apply Ok1.assign;exact rfl)))|apply R.nil|(apply T.is;first|(apply T.drawC (id:=2) [] (by decide);((apply A.tk 0;exact rfl;kernel_rfl;(apply Ok1.move;exact rfl))<;>(apply A.tk 1;exact rfl;kernel_rfl;(apply Ok1.move;exact rfl))<;>(apply A.tk 2;exact rfl;kernel_rfl;(apply Ok1.move;exact rfl))<;>(apply A.tk 3;exact rfl;kernel_rfl;(apply Ok1.move;exact rfl))<;>(apply A.tk 4;exact rfl;kernel_rfl;(apply Ok1.add64;exact rfl;exact rfl;omega;omega))<;>(apply A.tk 5;exact rfl;kernel_rfl;(apply Ok1.midR (i:=k) (j:=k+b) (sz:=1);(iterate 6 exact rfl);exact congrArg (fun z:Int=>some (Value.int .i64 z)) (Int.natCast_add k b).symm;omega;omega))<;>(apply A.tk 6;exact rfl;kernel_rfl;(apply Ok1.move;exact rfl))<;>(apply A.tk 7;exact rfl;kernel_rfl;(apply Ok1.move;exact rfl))<;>(apply A.tk 8;exact rfl;kernel_rfl;(apply Ok1.preR (i:=b);(iterate 5 exact rfl);omega))<;>(apply A.one 9;kernel_rfl;exact rfl;(((apply R.callV (vs:=[.slice (sufP p1 c1 k 1) (k+b - k) (c1 - k),.slice p2 b c2]);(iterate 3 exact rfl);intro w1 hw1;exact heq w1 hw1.chg)));apply R.nil;refine ⟨?_,?_⟩;(focus ((repeat' (exact trivial)))))<;>(apply A.tk 10;exact rfl;kernel_rfl;(apply Ok1.not_f;exact rfl))<;>(apply A.done;kernel_rfl)))|apply T.seq|apply T.region|apply T.ret|(apply T.cond_t;exact rfl)))
    (apply RetOk.tt;exact rfl;exact rfl)
    exact ⟨_,Keep.nil _,none,rfl,⟨rfl,rfl⟩,rfl⟩
end Go.Proofs.YtolnagbahceebaaGreat
