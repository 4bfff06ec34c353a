/- Texts of the proof: Jz1, Jz2, L18n. -/
import Derived.Test.YtijbmkjebidanaaGreatDoorC18nb6
import Derived.Shelf.Strings.Fields
import Derived.Test.YtijbmkjebidanaaGreatDoorRows
import Derived.Stop.Joined
import Derived.Lib.LaidTab
import Derived.LaidLaws
import Derived.LaidHandle
import Derived.Handed
set_option linter.unusedSimpArgs false
set_option linter.unusedVariables false
namespace Go.Proofs.YtijbmkjebidanaaGreatDoor
open Go.RowKit Go.Shelf
set_option maxRecDepth 100000
section
variable {X:Cx} {σ:Env} {L:Lst} {d:Option Nat} {ty ty2 t:TypeId} {pos:String} {af:Array Edge} {g:Option (Nat × Bool)} {x y:Operand} {s:ByteArray}
theorem Ok1.eqlStrJ (hx:ev σ x=some (.string s)) (hy:ev σ y=some (.string s)):Ok1 X ⟨d,.binOp .eql t x y ty2,ty,pos,af,g⟩ σ L (.bool true):=.mk fun a w ha hw=>by
  simp [execOp,ha.ev hx,ha.ev hy,eqGuard,binOp,Op.stringOp]
end
/-- The states' words. -/
def wdL:List ByteArray:=[⟨#[111,117,116]⟩,⟨#[97,115,107,101,100]⟩,⟨#[112,114,111,118,105,110,103]⟩,⟨#[105,110]⟩]
def wdV:List Value:=wdL.map Value.string
def wdAll:ByteArray:=⟨#[111,117,116,32,97,115,107,101,100,32,112,114,111,118,105,110,103,32,105,110]⟩
def wdS (n:Int):ByteArray:=if n=0 then ⟨#[111,117,116]⟩ else if n=1 then ⟨#[97,115,107,101,100]⟩ else if n=2 then ⟨#[112,114,111,118,105,110,103]⟩ else if n=3 then ⟨#[105,110]⟩ else ⟨#[]⟩
abbrev TabA (w:World):Prop:=Lib.TabIs Tryz.prog w "strings.asciiSpace" .u8 Lib.asciiSpaceTab
theorem TabA.chg {w w1:World} (h:TabA w) (hc:Chg [] w w1):TabA w1:=by
  unfold TabA Lib.TabIs World.var? at *
  obtain ⟨g,hg,hm⟩:=Option.bind_eq_some_iff.1 h
  rw [hg]
  simp only [Option.bind_some]
  cases hb:w.heap[g]? with
  | none=>rw [hb] at hm;exact absurd hm (by simp)
  | some o=>rw [hc.heap hb List.not_mem_nil];rw [hb] at hm;exact hm
theorem fields_ok (w:World) (htab:TabA w):CallM Tryz.prog 23 [.string wdAll] [] w fun v L=>∃ b,v = .slice (some ⟨b,0,none⟩) 4 4∧L=[(b,.cells ⟨wdV⟩ 9 (0,0))]:=⟨fun hw=>by
  have hcl:∀ b∈wdAll.data.toList,b.toNat < 128:=by decide
  have h:=Go.Proofs.Any.strings_Fields Tryz.fieldsS (by kernel_rfl) (by kernel_rfl) wdAll w (by decide) (fun j b hb=>hcl b (List.mem_of_getElem? hb)) htab
  refine Calls.mono h ?_
  rintro e w' ⟨rfl,rfl⟩
  exact ⟨_,_,rfl,⟨_,rfl,rfl⟩,hw.alloc _⟩⟩
theorem jword_ok (n:Int) (w:World) (htab:TabA w):CallW Tryz.prog 14 [.int .i64 n] w fun v _=>v = .string (wdS n):=by
  have hf:=fun w1 (h:Chg [] w w1)=>fields_ok w1 (htab.chg h)
  have hV:wdV=[.string ⟨#[111,117,116]⟩,.string ⟨#[97,115,107,101,100]⟩,.string ⟨#[112,114,111,118,105,110,103]⟩,.string ⟨#[105,110]⟩]:=rfl
  rw [hV] at hf
  have hn:n < 0 ∨ n > 3 ∨ n=0 ∨ n=1 ∨ n=2 ∨ n=3:=by omega
  refine enterW (tb:=tb) Tryz.func14 rfl Tryz.ntmps14 rfl ?_
  rcases hn with hn|hn|rfl|rfl|rfl|rfl
  case' inl=>rw [show wdS n=⟨#[]⟩ by unfold wdS;rw [if_neg (by omega),if_neg (by omega),if_neg (by omega),if_neg (by omega)]]
  case' inr.inl=>rw [show wdS n=⟨#[]⟩ by unfold wdS;rw [if_neg (by omega),if_neg (by omega),if_neg (by omega),if_neg (by omega)]]
  all_goals repeat' (first|(apply R.is1;first|(apply R.isBin;first|(apply R.pure;exact rfl;first|(apply Ok1.lss_t;exact rfl;exact rfl;omega)|(apply Ok1.lss_f;exact rfl;exact rfl;omega)|(apply Ok1.gtr_t;exact rfl;exact rfl;omega)|(apply Ok1.gtr_f;exact rfl;exact rfl;omega))|(apply R.lss rfl rfl rfl<;>intro)|(apply R.gtr rfl rfl rfl<;>intro))|(apply R.isCall;first|(apply R.callE (vs:=[.string wdAll]);(iterate 3 exact rfl);exact Ext.none _;intro w1 hw1;exact hf w1 hw1.chg;rintro v Lo ⟨b,rfl,rfl⟩))|(apply R.pure;exact rfl;first|(apply Ok1.indexAddr;(iterate 5 exact rfl);omega;omega)|(apply Ok1.load;exact rfl;(apply Ld.own1;exact rfl;exact rfl;(focus (repeat' first|exact At.head|apply At.tail|apply At.right);done);exact rfl))|(apply Ok1.move;exact rfl)|(apply Ok1.load;exact rfl;first|(apply Ld.own1;exact rfl;exact rfl;(focus (repeat' first|exact At.head|apply At.tail|apply At.right);done);exact rfl)|(apply Ld.ownk;exact rfl;exact rfl;(focus (repeat' first|exact At.head|apply At.tail|apply At.right);done);exact rfl)|(apply Ld.old1;exact rfl;exact rfl;assumption;(first|exact List.not_mem_nil|assumption))|(apply Ld.blk1;exact rfl;exact rfl;assumption;(first|exact List.not_mem_nil|assumption);exact rfl)|(apply Ld.blkk;exact rfl;exact rfl;assumption;(first|exact List.not_mem_nil|assumption);exact rfl))|(apply Ok1.assign;exact rfl)|(apply Ok1.indexAddr;(iterate 5 exact rfl);omega;omega)|(apply Ok1.indexAddrA;(iterate 5 exact rfl);omega;omega)|(apply Ok1.pick_t;exact rfl;exact rfl)|(apply Ok1.pick_f;exact rfl;exact rfl)|(apply Ok1.pick_h;exact rfl;assumption;exact rfl)|(apply Ok1.pick_n;exact rfl;assumption;exact rfl)))|(apply R.is0;first|fail)|(apply R.isG;first|(apply R.guard_run;exact rfl;exact rfl)|(apply R.guard_not;(iterate 3 exact rfl))|(apply R.guard_not0;exact rfl;exact rfl)|(apply R.guard_un;(iterate 3 exact rfl))|(apply R.guard_un0;exact rfl;exact rfl)|(apply R.guard rfl rfl ?_ (fun h=>⟨rfl,?_⟩)<;>try intro))|apply R.nil|(apply T.is;first|apply T.seq|apply T.region|apply T.block|apply T.scope|apply T.label|apply T.skip|apply T.exit|apply T.ret|(apply T.cond_t;exact rfl)|(apply T.cond_f;exact rfl)|(apply T.cond_h;exact rfl;assumption)|(apply T.cond_n;exact rfl;assumption)|(apply T.cond rfl<;>intro))|apply Rnd.step)
  all_goals first|(exfalso;omega)|skip
  all_goals (apply RetOk.t;exact rfl)
  all_goals rfl
theorem jnew_nil:CallP Tryz.prog 4 [.pointer none,.int .i64 1] (.tuple #[.pointer none,.int .i64 1]):=by
  refine enterP (tb:=tb) Tryz.func4 rfl Tryz.ntmps4 rfl fun w=>?_
  repeat' (first|(apply R.is1;first|(apply R.isBin;first|(apply R.pure;exact rfl;first|(apply Ok1.eqlP;(iterate 5 exact rfl))|(apply Ok1.lss_t;exact rfl;exact rfl;omega)|(apply Ok1.lss_f;exact rfl;exact rfl;omega)|(apply Ok1.gtr_t;exact rfl;exact rfl;omega)|(apply Ok1.gtr_f;exact rfl;exact rfl;omega)|(apply Ok1.eql_t;exact rfl;exact rfl;omega)|(apply Ok1.eql_f;exact rfl;exact rfl;omega)|(apply Ok1.eqlP;(iterate 5 exact rfl))|(apply Ok1.eqlM;(iterate 5 exact rfl))|(apply Ok1.eqlS;(iterate 5 exact rfl)))|(apply R.lss rfl rfl rfl<;>intro)|(apply R.gtr rfl rfl rfl<;>intro)|(apply R.eql rfl rfl rfl<;>intro)|(apply R.eqlF;(iterate 8 exact rfl);all_goals intro))|(apply R.pure;exact rfl;first|(apply Ok1.move;exact rfl)|(apply Ok1.assign;exact rfl)|(apply Ok1.build;(iterate 5 exact rfl))|(apply Ok1.pick_t;exact rfl;exact rfl)|(apply Ok1.pick_f;exact rfl;exact rfl)|(apply Ok1.pick_h;exact rfl;assumption;exact rfl)|(apply Ok1.pick_n;exact rfl;assumption;exact rfl)|(apply Ok1.buildA;(iterate 6 exact rfl)))|(apply R.box;(iterate 3 exact rfl);intro))|(apply R.is0;first|fail)|(apply R.isG;first|(apply R.guard_run;exact rfl;exact rfl)|(apply R.guard_not;(iterate 3 exact rfl))|(apply R.guard_not0;exact rfl;exact rfl)|(apply R.guard_un;(iterate 3 exact rfl))|(apply R.guard_un0;exact rfl;exact rfl)|(apply R.guard rfl rfl ?_ (fun h=>⟨rfl,?_⟩)<;>try intro))|apply R.nil|(apply T.is;first|apply T.seq|apply T.region|apply T.block|apply T.scope|apply T.label|apply T.skip|apply T.exit|apply T.ret|(apply T.cond_t;exact rfl)|(apply T.cond_f;exact rfl)|(apply T.cond_h;exact rfl;assumption)|(apply T.cond_n;exact rfl;assumption)|(apply T.cond rfl<;>intro))|apply Rnd.step)
  (apply RetOk.tt;exact rfl;exact rfl)
  rfl
theorem jstart_nil (a b:Int):CallP Tryz.prog 5 [.pointer none,.int .i64 a,.int .i64 b] (.tuple #[.slice none 0 0,.int .i64 11]):=by
  refine enterP (tb:=tb) Tryz.func5 rfl Tryz.ntmps5 rfl fun w=>?_
  repeat' (first|(apply R.is1;first|(apply R.isBin;first|(apply R.pure;exact rfl;first|(apply Ok1.eqlP;(iterate 5 exact rfl))|(apply Ok1.lss_t;exact rfl;exact rfl;omega)|(apply Ok1.lss_f;exact rfl;exact rfl;omega)|(apply Ok1.geq_t;exact rfl;exact rfl;omega)|(apply Ok1.geq_f;exact rfl;exact rfl;omega)|(apply Ok1.eql_t;exact rfl;exact rfl;omega)|(apply Ok1.eql_f;exact rfl;exact rfl;omega)|(apply Ok1.neq_t;exact rfl;exact rfl;omega)|(apply Ok1.neq_f;exact rfl;exact rfl;omega)|(apply Ok1.eqlP;(iterate 5 exact rfl))|(apply Ok1.neqP;(iterate 5 exact rfl))|(apply Ok1.eqlM;(iterate 5 exact rfl))|(apply Ok1.neqM;(iterate 5 exact rfl))|(apply Ok1.eqlS;(iterate 5 exact rfl))|(apply Ok1.neqS;(iterate 5 exact rfl)))|(apply R.lss rfl rfl rfl<;>intro)|(apply R.geq rfl rfl rfl<;>intro)|(apply R.eql rfl rfl rfl<;>intro)|(apply R.neq rfl rfl rfl<;>intro)|(apply R.eqlF;(iterate 8 exact rfl);all_goals intro)|(apply R.neqF;(iterate 8 exact rfl);all_goals intro))|(apply R.pure;exact rfl;first|(apply Ok1.move;exact rfl)|(apply Ok1.fieldAddr;(iterate 5 exact rfl))|(apply Ok1.load;exact rfl;first|(apply Ld.own1;exact rfl;exact rfl;(focus (repeat' first|exact At.head|apply At.tail|apply At.right);done);exact rfl)|(apply Ld.ownk;exact rfl;exact rfl;(focus (repeat' first|exact At.head|apply At.tail|apply At.right);done);exact rfl)|(apply Ld.old1;exact rfl;exact rfl;assumption;(first|exact List.not_mem_nil|assumption))|(apply Ld.blk1;exact rfl;exact rfl;assumption;(first|exact List.not_mem_nil|assumption);exact rfl)|(apply Ld.blkk;exact rfl;exact rfl;assumption;(first|exact List.not_mem_nil|assumption);exact rfl))|(apply Ok1.assign;exact rfl)|(apply Ok1.extract;exact rfl;exact rfl)|(apply Ok1.pick_t;exact rfl;exact rfl)|(apply Ok1.pick_f;exact rfl;exact rfl)|(apply Ok1.pick_h;exact rfl;assumption;exact rfl)|(apply Ok1.pick_n;exact rfl;assumption;exact rfl)|(apply Ok1.nilCheck;exact rfl)|(apply Ok1.nilCheckF;exact rfl)))|(apply R.is0;first|(apply R.store;(iterate 6 exact rfl);(focus (repeat' first|exact Upd.head|apply Upd.tail|apply Upd.right);done);exact rfl)|fail)|(apply R.isG;first|(apply R.guard_run;exact rfl;exact rfl)|(apply R.guard_not;(iterate 3 exact rfl))|(apply R.guard_not0;exact rfl;exact rfl)|(apply R.guard_un;(iterate 3 exact rfl))|(apply R.guard_un0;exact rfl;exact rfl)|(apply R.guard rfl rfl ?_ (fun h=>⟨rfl,?_⟩)<;>try intro))|apply R.nil|(apply T.is;first|apply T.seq|apply T.region|apply T.block|apply T.scope|apply T.label|apply T.skip|apply T.exit|apply T.ret|(apply T.cond_t;exact rfl)|(apply T.cond_f;exact rfl)|(apply T.cond_h;exact rfl;assumption)|(apply T.cond_n;exact rfl;assumption)|(apply T.cond rfl<;>intro))|apply Rnd.step)
  (apply RetOk.tt;exact rfl;exact rfl)
  rfl
theorem jtake_nil (k:Int) (c:Cl) (dst a b:Int) (p:Option Addr) (n cap:Nat) (t:List Int) (ht:t.length=32) (tick:Int):CallP Tryz.prog 6 [.pointer none,.agg ⟨pkC k c dst a b p n cap t⟩,.int .i64 tick] (.tuple #[.slice none 0 0,.int .i64 11]):=by
  have hl0:=pk_len k c dst a b p n cap ht
  have ho:=pk_one k c dst a b p n cap t
  refine enterP (tb:=tb) Tryz.func6 rfl Tryz.ntmps6 rfl fun w=>?_
  repeat' (first|(apply R.is1;first|(apply R.isBin;first|(apply R.pure;exact rfl;first|(apply Ok1.eqlP;(iterate 5 exact rfl))|(apply Ok1.eql_t;exact rfl;exact rfl;omega)|(apply Ok1.eql_f;exact rfl;exact rfl;omega)|(apply Ok1.eqlP;(iterate 5 exact rfl))|(apply Ok1.eqlM;(iterate 5 exact rfl))|(apply Ok1.eqlS;(iterate 5 exact rfl)))|(apply R.eql rfl rfl rfl<;>intro)|(apply R.eqlF;(iterate 8 exact rfl);all_goals intro))|(apply R.pure;exact rfl;first|(apply Ok1.move;exact rfl)|(apply Ok1.fieldAddr;(iterate 5 exact rfl))|(apply Ok1.load;exact rfl;first|(apply Ld.own1;exact rfl;exact rfl;(focus (repeat' first|exact At.head|apply At.tail|apply At.right);done);exact rfl)|(apply Ld.ownk;exact rfl;exact rfl;(focus (repeat' first|exact At.head|apply At.tail|apply At.right);done);exact rfl)|(apply Ld.old1;exact rfl;exact rfl;assumption;(first|exact List.not_mem_nil|assumption))|(apply Ld.blk1;exact rfl;exact rfl;assumption;(first|exact List.not_mem_nil|assumption);exact rfl)|(apply Ld.blkk;exact rfl;exact rfl;assumption;(first|exact List.not_mem_nil|assumption);exact rfl))|(apply Ok1.assign;exact rfl)|(apply Ok1.extract;exact rfl;exact rfl))|(apply R.box;(iterate 3 exact rfl);intro))|(apply R.is0;first|fail)|(apply R.isG;first|(apply R.guard_run;exact rfl;exact rfl)|(apply R.guard_not;(iterate 3 exact rfl))|(apply R.guard_not0;exact rfl;exact rfl)|(apply R.guard_un;(iterate 3 exact rfl))|(apply R.guard_un0;exact rfl;exact rfl)|(apply R.guard rfl rfl ?_ (fun h=>⟨rfl,?_⟩)<;>try intro))|apply R.nil|(apply T.is;first|apply T.seq|apply T.region|apply T.block|apply T.scope|apply T.label|apply T.skip|apply T.exit|apply T.ret|(apply T.cond_t;exact rfl)|(apply T.cond_f;exact rfl)|(apply T.cond_h;exact rfl;assumption)|(apply T.cond_n;exact rfl;assumption)|(apply T.cond rfl<;>intro))|apply Rnd.step)
  (apply RetOk.tt;exact rfl;exact rfl)
  rfl
theorem jdue_nil (a:Int):CallP Tryz.prog 8 [.pointer none,.int .i64 a] (.tuple #[.slice none 0 0,.bool false]):=by
  refine enterP (tb:=tb) Tryz.func8 rfl Tryz.ntmps8 rfl fun w=>?_
  repeat' (first|(apply R.is1;first|(apply R.isBin;first|(apply R.pure;exact rfl;first|(apply Ok1.eqlP;(iterate 5 exact rfl))|(apply Ok1.add64;exact rfl;exact rfl;omega;omega)|(apply Ok1.lss_t;exact rfl;exact rfl;omega)|(apply Ok1.lss_f;exact rfl;exact rfl;omega)|(apply Ok1.eql_t;exact rfl;exact rfl;omega)|(apply Ok1.eql_f;exact rfl;exact rfl;omega)|(apply Ok1.remN;exact rfl;exact rfl;omega;omega)|(apply Ok1.eqlP;(iterate 5 exact rfl))|(apply Ok1.eqlM;(iterate 5 exact rfl))|(apply Ok1.eqlS;(iterate 5 exact rfl)))|(apply R.lss rfl rfl rfl<;>intro)|(apply R.eql rfl rfl rfl<;>intro)|(apply R.eqlF;(iterate 8 exact rfl);all_goals intro))|(apply R.pure;exact rfl;first|(apply Ok1.move;exact rfl)|(apply Ok1.fieldAddr;(iterate 5 exact rfl))|(apply Ok1.load;exact rfl;first|(apply Ld.own1;exact rfl;exact rfl;(focus (repeat' first|exact At.head|apply At.tail|apply At.right);done);exact rfl)|(apply Ld.ownk;exact rfl;exact rfl;(focus (repeat' first|exact At.head|apply At.tail|apply At.right);done);exact rfl)|(apply Ld.old1;exact rfl;exact rfl;assumption;(first|exact List.not_mem_nil|assumption))|(apply Ld.blk1;exact rfl;exact rfl;assumption;(first|exact List.not_mem_nil|assumption);exact rfl)|(apply Ld.blkk;exact rfl;exact rfl;assumption;(first|exact List.not_mem_nil|assumption);exact rfl))|(apply Ok1.assign;exact rfl)|(apply Ok1.extract;exact rfl;exact rfl)|(apply Ok1.pick_t;exact rfl;exact rfl)|(apply Ok1.pick_f;exact rfl;exact rfl)|(apply Ok1.pick_h;exact rfl;assumption;exact rfl)|(apply Ok1.pick_n;exact rfl;assumption;exact rfl)|(apply Ok1.nilCheck;exact rfl)|(apply Ok1.nilCheckF;exact rfl)))|(apply R.is0;first|fail)|(apply R.isG;first|(apply R.guard_run;exact rfl;exact rfl)|(apply R.guard_not;(iterate 3 exact rfl))|(apply R.guard_not0;exact rfl;exact rfl)|(apply R.guard_un;(iterate 3 exact rfl))|(apply R.guard_un0;exact rfl;exact rfl)|(apply R.guard rfl rfl ?_ (fun h=>⟨rfl,?_⟩)<;>try intro))|apply R.nil|(apply T.is;first|apply T.seq|apply T.region|apply T.block|apply T.scope|apply T.label|apply T.skip|apply T.exit|apply T.ret|(apply T.cond_t;exact rfl)|(apply T.cond_f;exact rfl)|(apply T.cond_h;exact rfl;assumption)|(apply T.cond_n;exact rfl;assumption)|(apply T.cond rfl<;>intro))|apply Rnd.step)
  (apply RetOk.tt;exact rfl;exact rfl)
  rfl
theorem jleave_nil:CallP Tryz.prog 9 [.pointer none] (.tuple #[.slice none 0 0,.int .i64 11]):=by
  refine enterP (tb:=tb) Tryz.func9 rfl Tryz.ntmps9 rfl fun w=>?_
  repeat' (first|(apply R.is1;first|(apply R.isBin;first|(apply R.pure;exact rfl;first|(apply Ok1.eqlP;(iterate 5 exact rfl))|(apply Ok1.eql_t;exact rfl;exact rfl;omega)|(apply Ok1.eql_f;exact rfl;exact rfl;omega)|(apply Ok1.neq_t;exact rfl;exact rfl;omega)|(apply Ok1.neq_f;exact rfl;exact rfl;omega)|(apply Ok1.eqlP;(iterate 5 exact rfl))|(apply Ok1.neqP;(iterate 5 exact rfl))|(apply Ok1.eqlM;(iterate 5 exact rfl))|(apply Ok1.neqM;(iterate 5 exact rfl))|(apply Ok1.eqlS;(iterate 5 exact rfl))|(apply Ok1.neqS;(iterate 5 exact rfl)))|(apply R.eql rfl rfl rfl<;>intro)|(apply R.neq rfl rfl rfl<;>intro)|(apply R.eqlF;(iterate 8 exact rfl);all_goals intro)|(apply R.neqF;(iterate 8 exact rfl);all_goals intro))|(apply R.pure;exact rfl;first|(apply Ok1.move;exact rfl)|(apply Ok1.fieldAddr;(iterate 5 exact rfl))|(apply Ok1.load;exact rfl;first|(apply Ld.own1;exact rfl;exact rfl;(focus (repeat' first|exact At.head|apply At.tail|apply At.right);done);exact rfl)|(apply Ld.ownk;exact rfl;exact rfl;(focus (repeat' first|exact At.head|apply At.tail|apply At.right);done);exact rfl)|(apply Ld.old1;exact rfl;exact rfl;assumption;(first|exact List.not_mem_nil|assumption))|(apply Ld.blk1;exact rfl;exact rfl;assumption;(first|exact List.not_mem_nil|assumption);exact rfl)|(apply Ld.blkk;exact rfl;exact rfl;assumption;(first|exact List.not_mem_nil|assumption);exact rfl))|(apply Ok1.assign;exact rfl)|(apply Ok1.extract;exact rfl;exact rfl)|(apply Ok1.pick_t;exact rfl;exact rfl)|(apply Ok1.pick_f;exact rfl;exact rfl)|(apply Ok1.pick_h;exact rfl;assumption;exact rfl)|(apply Ok1.pick_n;exact rfl;assumption;exact rfl)|(apply Ok1.nilCheck;exact rfl)|(apply Ok1.nilCheckF;exact rfl)))|(apply R.is0;first|(apply R.store;(iterate 6 exact rfl);(focus (repeat' first|exact Upd.head|apply Upd.tail|apply Upd.right);done);exact rfl)|fail)|(apply R.isG;first|(apply R.guard_run;exact rfl;exact rfl)|(apply R.guard_not;(iterate 3 exact rfl))|(apply R.guard_not0;exact rfl;exact rfl)|(apply R.guard_un;(iterate 3 exact rfl))|(apply R.guard_un0;exact rfl;exact rfl)|(apply R.guard rfl rfl ?_ (fun h=>⟨rfl,?_⟩)<;>try intro))|apply R.nil|(apply T.is;first|apply T.seq|apply T.region|apply T.block|apply T.scope|apply T.label|apply T.skip|apply T.exit|apply T.ret|(apply T.cond_t;exact rfl)|(apply T.cond_f;exact rfl)|(apply T.cond_h;exact rfl;assumption)|(apply T.cond_n;exact rfl;assumption)|(apply T.cond rfl<;>intro))|apply Rnd.step)
  (apply RetOk.tt;exact rfl;exact rfl)
  rfl
theorem jstate_nil:CallP Tryz.prog 11 [.pointer none] (.int .i64 0):=by
  refine enterP (tb:=tb) Tryz.func11 rfl Tryz.ntmps11 rfl fun w=>?_
  repeat' (first|(apply R.is1;first|(apply R.isBin;first|(apply R.pure;exact rfl;first|(apply Ok1.eqlP;(iterate 5 exact rfl))|(apply Ok1.eql_t;exact rfl;exact rfl;omega)|(apply Ok1.eql_f;exact rfl;exact rfl;omega)|(apply Ok1.eqlP;(iterate 5 exact rfl))|(apply Ok1.eqlM;(iterate 5 exact rfl))|(apply Ok1.eqlS;(iterate 5 exact rfl)))|(apply R.eql rfl rfl rfl<;>intro)|(apply R.eqlF;(iterate 8 exact rfl);all_goals intro))|(apply R.pure;exact rfl;first|(apply Ok1.move;exact rfl)|(apply Ok1.fieldAddr;(iterate 5 exact rfl))|(apply Ok1.load;exact rfl;first|(apply Ld.own1;exact rfl;exact rfl;(focus (repeat' first|exact At.head|apply At.tail|apply At.right);done);exact rfl)|(apply Ld.ownk;exact rfl;exact rfl;(focus (repeat' first|exact At.head|apply At.tail|apply At.right);done);exact rfl)|(apply Ld.old1;exact rfl;exact rfl;assumption;(first|exact List.not_mem_nil|assumption))|(apply Ld.blk1;exact rfl;exact rfl;assumption;(first|exact List.not_mem_nil|assumption);exact rfl)|(apply Ld.blkk;exact rfl;exact rfl;assumption;(first|exact List.not_mem_nil|assumption);exact rfl))|(apply Ok1.assign;exact rfl)|(apply Ok1.nilCheck;exact rfl)|(apply Ok1.nilCheckF;exact rfl)))|(apply R.is0;first|fail)|(apply R.isG;first|(apply R.guard_run;exact rfl;exact rfl)|(apply R.guard_not;(iterate 3 exact rfl))|(apply R.guard_not0;exact rfl;exact rfl)|(apply R.guard_un;(iterate 3 exact rfl))|(apply R.guard_un0;exact rfl;exact rfl)|(apply R.guard rfl rfl ?_ (fun h=>⟨rfl,?_⟩)<;>try intro))|apply R.nil|(apply T.is;first|apply T.seq|apply T.region|apply T.block|apply T.scope|apply T.label|apply T.skip|apply T.exit|apply T.ret|(apply T.cond_t;exact rfl)|(apply T.cond_f;exact rfl)|(apply T.cond_h;exact rfl;assumption)|(apply T.cond_n;exact rfl;assumption)|(apply T.cond rfl<;>intro))|apply Rnd.step)
  (apply RetOk.t;exact rfl)
  rfl
theorem jseed_nil:CallP Tryz.prog 12 [.pointer none] (.int .i64 0):=by
  refine enterP (tb:=tb) Tryz.func12 rfl Tryz.ntmps12 rfl fun w=>?_
  repeat' (first|(apply R.is1;first|(apply R.isBin;first|(apply R.pure;exact rfl;first|(apply Ok1.eqlP;(iterate 5 exact rfl))|(apply Ok1.eql_t;exact rfl;exact rfl;omega)|(apply Ok1.eql_f;exact rfl;exact rfl;omega)|(apply Ok1.eqlP;(iterate 5 exact rfl))|(apply Ok1.eqlM;(iterate 5 exact rfl))|(apply Ok1.eqlS;(iterate 5 exact rfl)))|(apply R.eql rfl rfl rfl<;>intro)|(apply R.eqlF;(iterate 8 exact rfl);all_goals intro))|(apply R.pure;exact rfl;first|(apply Ok1.move;exact rfl)|(apply Ok1.fieldAddr;(iterate 5 exact rfl))|(apply Ok1.load;exact rfl;first|(apply Ld.own1;exact rfl;exact rfl;(focus (repeat' first|exact At.head|apply At.tail|apply At.right);done);exact rfl)|(apply Ld.ownk;exact rfl;exact rfl;(focus (repeat' first|exact At.head|apply At.tail|apply At.right);done);exact rfl)|(apply Ld.old1;exact rfl;exact rfl;assumption;(first|exact List.not_mem_nil|assumption))|(apply Ld.blk1;exact rfl;exact rfl;assumption;(first|exact List.not_mem_nil|assumption);exact rfl)|(apply Ld.blkk;exact rfl;exact rfl;assumption;(first|exact List.not_mem_nil|assumption);exact rfl))|(apply Ok1.assign;exact rfl)|(apply Ok1.nilCheck;exact rfl)|(apply Ok1.nilCheckF;exact rfl)))|(apply R.is0;first|fail)|(apply R.isG;first|(apply R.guard_run;exact rfl;exact rfl)|(apply R.guard_not;(iterate 3 exact rfl))|(apply R.guard_not0;exact rfl;exact rfl)|(apply R.guard_un;(iterate 3 exact rfl))|(apply R.guard_un0;exact rfl;exact rfl)|(apply R.guard rfl rfl ?_ (fun h=>⟨rfl,?_⟩)<;>try intro))|apply R.nil|(apply T.is;first|apply T.seq|apply T.region|apply T.block|apply T.scope|apply T.label|apply T.skip|apply T.exit|apply T.ret|(apply T.cond_t;exact rfl)|(apply T.cond_f;exact rfl)|(apply T.cond_h;exact rfl;assumption)|(apply T.cond_n;exact rfl;assumption)|(apply T.cond rfl<;>intro))|apply Rnd.step)
  (apply RetOk.t;exact rfl)
  rfl
theorem jothers_nil:CallP Tryz.prog 13 [.pointer none] (.slice none 0 0):=by
  refine enterP (tb:=tb) Tryz.func13 rfl Tryz.ntmps13 rfl fun w=>?_
  repeat' (first|(apply R.is1;first|(apply R.isBin;first|(apply R.pure;exact rfl;first|(apply Ok1.eqlP;(iterate 5 exact rfl))|(apply Ok1.eql_t;exact rfl;exact rfl;omega)|(apply Ok1.eql_f;exact rfl;exact rfl;omega)|(apply Ok1.eqlP;(iterate 5 exact rfl))|(apply Ok1.eqlM;(iterate 5 exact rfl))|(apply Ok1.eqlS;(iterate 5 exact rfl)))|(apply R.eql rfl rfl rfl<;>intro)|(apply R.eqlF;(iterate 8 exact rfl);all_goals intro))|(apply R.pure;exact rfl;first|(apply Ok1.move;exact rfl)|(apply Ok1.fieldAddr;(iterate 5 exact rfl))|(apply Ok1.load;exact rfl;first|(apply Ld.own1;exact rfl;exact rfl;(focus (repeat' first|exact At.head|apply At.tail|apply At.right);done);exact rfl)|(apply Ld.ownk;exact rfl;exact rfl;(focus (repeat' first|exact At.head|apply At.tail|apply At.right);done);exact rfl)|(apply Ld.old1;exact rfl;exact rfl;assumption;(first|exact List.not_mem_nil|assumption))|(apply Ld.blk1;exact rfl;exact rfl;assumption;(first|exact List.not_mem_nil|assumption);exact rfl)|(apply Ld.blkk;exact rfl;exact rfl;assumption;(first|exact List.not_mem_nil|assumption);exact rfl))|(apply Ok1.assign;exact rfl)|(apply Ok1.nilCheck;exact rfl)|(apply Ok1.nilCheckF;exact rfl)))|(apply R.is0;first|fail)|(apply R.isG;first|(apply R.guard_run;exact rfl;exact rfl)|(apply R.guard_not;(iterate 3 exact rfl))|(apply R.guard_not0;exact rfl;exact rfl)|(apply R.guard_un;(iterate 3 exact rfl))|(apply R.guard_un0;exact rfl;exact rfl)|(apply R.guard rfl rfl ?_ (fun h=>⟨rfl,?_⟩)<;>try intro))|apply R.nil|(apply T.is;first|apply T.seq|apply T.region|apply T.block|apply T.scope|apply T.label|apply T.skip|apply T.exit|apply T.ret|(apply T.cond_t;exact rfl)|(apply T.cond_f;exact rfl)|(apply T.cond_h;exact rfl;assumption)|(apply T.cond_n;exact rfl;assumption)|(apply T.cond rfl<;>intro))|apply Rnd.step)
  (apply RetOk.t;exact rfl)
  rfl
theorem joinNil_ok (k:Int) (c:Cl) (dst a b:Int) (p:Option Addr) (cap:Nat) (xs t:List Int) (ht:t.length=32) (hcap:xs.length≤cap) (n:Int) (w:World) (hp:RdSl w p u8V xs) (htab:TabA w) :
    CallW Tryz.prog 3 [.agg ⟨pkC k c dst a b p xs.length cap t⟩,.int .i64 n] w fun v _=>v = .bool true:=by
  have hl0:=pk_len k c dst a b p xs.length cap ht
  have ho0:=pk_one k c dst a b p xs.length cap t
  have hto:=fun w1 (h:Chg [] w w1)=>pto14_ok k c dst a b p xs.length cap xs t ht rfl hcap w1 (hp.chg' h (fun _=>Off.nil _))
  have h1:=jnew_nil
  have h2:=jstart_nil n n
  have h3:=fun q m d=>jtake_nil k c dst a b q m d t ht n
  have h4:=jdue_nil n
  have h5:=jleave_nil
  have h6:=jstate_nil
  have h7:=jseed_nil
  have h8:=jothers_nil
  have hkn:=known18_ok
  have hwd:=fun w1 (h:Chg [] w w1)=>jword_ok n w1 (htab.chg h)
  have hn:n < 0 ∨ n > 3 ∨ n=0 ∨ n=1 ∨ n=2 ∨ n=3:=by omega
  refine enterW (tb:=tb) Tryz.func3 rfl Tryz.ntmps3 rfl ?_
  generalize pkC k c dst a b p xs.length cap t=PC at *
  rcases hn with hn|hn|rfl|rfl|rfl|rfl
  case' inl=>rw [show wdS n=⟨#[]⟩ by unfold wdS;rw [if_neg (by omega),if_neg (by omega),if_neg (by omega),if_neg (by omega)]] at hwd
  case' inr.inl=>rw [show wdS n=⟨#[]⟩ by unfold wdS;rw [if_neg (by omega),if_neg (by omega),if_neg (by omega),if_neg (by omega)]] at hwd
  all_goals repeat' (first|(apply R.is1;first|(apply R.isBin;first|(apply R.pure;exact rfl;first|(apply Ok1.eqlStrJ;exact rfl;exact rfl)|(apply Ok1.eqlP;(iterate 5 exact rfl))|(apply Ok1.lss_t;exact rfl;exact rfl;omega)|(apply Ok1.lss_f;exact rfl;exact rfl;omega)|(apply Ok1.geq_t;exact rfl;exact rfl;omega)|(apply Ok1.geq_f;exact rfl;exact rfl;omega)|(apply Ok1.eql_t;exact rfl;exact rfl;omega)|(apply Ok1.eql_f;exact rfl;exact rfl;omega)|(apply Ok1.eqlP;(iterate 5 exact rfl))|(apply Ok1.eqlM;(iterate 5 exact rfl))|(apply Ok1.eqlS;(iterate 5 exact rfl)))|(apply R.lss rfl rfl rfl<;>intro)|(apply R.geq rfl rfl rfl<;>intro)|(apply R.eql rfl rfl rfl<;>intro)|(apply R.eqlF;(iterate 8 exact rfl);all_goals intro))|(apply R.isCall;first|apply R.callP rfl rfl rfl h1|apply R.callP rfl rfl rfl h2|apply R.callP rfl rfl rfl (h3 _ _ _)|apply R.callP rfl rfl rfl h4|apply R.callP rfl rfl rfl h5|apply R.callP rfl rfl rfl h6|apply R.callP rfl rfl rfl h7|apply R.callP rfl rfl rfl h8|apply R.callP rfl rfl rfl hkn|(apply R.callE (vs:=[.agg ⟨PC⟩]);(iterate 3 exact rfl);exact Ext.none _;intro w1 hw1;exact hto w1 hw1.chg;rintro v Lo ⟨ov,hov,rfl,rfl⟩)|(apply R.callV (vs:=[.int .i64 _]);(iterate 3 exact rfl);intro w1 hw1;exact hwd w1 hw1.chg)|(apply R.pure;exact rfl;first|(apply Ok1.lenS;(iterate 3 exact rfl))|(apply Ok1.lenStr;(iterate 3 exact rfl))|(apply Ok1.lenMm;(iterate 3 exact rfl);(focus (repeat' first|exact At.head|apply At.tail|apply At.right);done))|(apply Ok1.lenM_nil;(iterate 3 exact rfl))))|(apply R.pure;exact rfl;first|(apply Ok1.indexAddrA;(iterate 5 exact rfl);omega;omega)|(apply Ok1.load;exact rfl;first|(apply Ld.own1;exact rfl;exact rfl;(focus (repeat' first|exact At.head|apply At.tail|apply At.right);done);exact rfl)|(apply Ld.ownk;exact rfl;exact rfl;(focus (repeat' first|exact At.head|apply At.tail|apply At.right);done);exact subE_all hl0))|(apply Ok1.move;exact rfl)|(apply Ok1.load;exact rfl;first|(apply Ld.own1;exact rfl;exact rfl;(focus (repeat' first|exact At.head|apply At.tail|apply At.right);done);exact rfl)|(apply Ld.ownk;exact rfl;exact rfl;(focus (repeat' first|exact At.head|apply At.tail|apply At.right);done);exact rfl)|(apply Ld.old1;exact rfl;exact rfl;assumption;(first|exact List.not_mem_nil|assumption))|(apply Ld.blk1;exact rfl;exact rfl;assumption;(first|exact List.not_mem_nil|assumption);exact rfl)|(apply Ld.blkk;exact rfl;exact rfl;assumption;(first|exact List.not_mem_nil|assumption);exact rfl))|(apply Ok1.assign;exact rfl)|(apply Ok1.indexAddr;(iterate 5 exact rfl);omega;omega)|(apply Ok1.indexAddrA;(iterate 5 exact rfl);omega;omega)|(apply Ok1.build;(iterate 5 exact rfl))|(apply Ok1.extract;exact rfl;exact rfl)|(apply Ok1.pick_t;exact rfl;exact rfl)|(apply Ok1.pick_f;exact rfl;exact rfl)|(apply Ok1.pick_h;exact rfl;assumption;exact rfl)|(apply Ok1.pick_n;exact rfl;assumption;exact rfl)|(apply Ok1.not_t;exact rfl)|(apply Ok1.not_f;exact rfl)|(apply Ok1.not;exact rfl)|(apply Ok1.buildA;(iterate 6 exact rfl))|(apply Ok1.neg;exact rfl))|(apply R.box;(iterate 3 exact rfl);intro)|(apply R.alloc;(iterate 3 exact rfl);intro))|(apply R.is0;first|(apply R.store;(iterate 6 exact rfl);(focus (repeat' first|exact Upd.head|apply Upd.tail|apply Upd.right);done);exact rfl)|fail)|(apply R.isG;first|(apply R.guard_run;exact rfl;exact rfl)|(apply R.guard_not;(iterate 3 exact rfl))|(apply R.guard_not0;exact rfl;exact rfl)|(apply R.guard_un;(iterate 3 exact rfl))|(apply R.guard_un0;exact rfl;exact rfl)|(apply R.guard rfl rfl ?_ (fun h=>⟨rfl,?_⟩)<;>try intro))|apply R.nil|(apply T.is;first|apply T.seq|apply T.region|apply T.block|apply T.scope|apply T.label|apply T.skip|apply T.exit|apply T.ret|(apply T.cond_t;exact rfl)|(apply T.cond_f;exact rfl)|(apply T.cond_h;exact rfl;assumption)|(apply T.cond_n;exact rfl;assumption)|(apply T.cond rfl<;>intro))|apply Rnd.step)
  all_goals first|(exfalso;omega)|skip
  all_goals (apply RetOk.t;exact rfl)
  all_goals rfl
theorem joinNil_all (cs:List Value) (n:Int) (w:World) (h:∃ x:PkA,pkC x.k x.c x.to x.a x.b x.p x.xs.length x.cap x.t=cs∧x.ok w) (htab:TabA w):CallW Tryz.prog 3 [.agg ⟨cs⟩,.int .i64 n] w fun v _=>v = .bool true:=by
  obtain ⟨x,rfl,hr,hb,hc,ht⟩:=h
  exact joinNil_ok x.k x.c x.to x.a x.b x.p x.cap x.xs x.t ht hc n w hr htab
end Go.Proofs.YtijbmkjebidanaaGreatDoor
set_option linter.unusedSimpArgs false
set_option linter.unusedVariables false
namespace Go.Proofs.YtijbmkjebidanaaGreatDoor
open Go.ChangeShapes Go.WideShapes Go.ChangeAt Go.RowKit
/-- The table of blanks,as the row lists it. -/
theorem laidZ_tab:Rows.laid_strings_asciiSpace (H:=Unit)=Lib.tabData .u8 Lib.asciiSpaceTab:=by kernel_rfl
theorem gTz:Tryz.prog.globalNamed "strings.asciiSpace" = some 0:=by kernel_rfl
theorem gTyz:(Tryz.prog.globals[0]?).map (·.type)=some 105:=by kernel_rfl
theorem uAz:Tryz.prog.underlying 105=some (.array 256 5):=by kernel_rfl
theorem uEz:Tryz.prog.underlying 5=some (.int .u8):=by kernel_rfl
theorem cEz:Tryz.prog.cellsOf 5=1:=by kernel_rfl
theorem cAz:Tryz.prog.cellsOf 105=256:=by kernel_rfl
theorem tabA_of {W:World} (h:laidMetH Tryz.prog Rows.joinNilRow.laid W):TabA W:=by
  have h1:laidMet Tryz.prog (("unicode.White_Space", Rows.laid_unicode_White_Space)::("strings.asciiSpace", Rows.laid_strings_asciiSpace)::[]) W:=h
  obtain ⟨ps,hv,hnd,hrows⟩:=h1
  obtain ⟨g,t,cs,fuel,p,q,_,_,_,_,hq,rfl⟩:=hv
  have h2:laidMet Tryz.prog (("strings.asciiSpace", Rows.laid_strings_asciiSpace)::[]) W:=⟨q,hq,List.Nodup.sublist (List.sublist_append_right _ _) hnd,fun b off hm=>hrows b off (List.mem_append_right _ hm)⟩
  rw [laidZ_tab] at h2
  exact Lib.tabIs_of_head gTz gTyz uAz uEz cEz cAz h2
/-- A world that meets the condition: the settled one,two blocks more (the ranges;their table),the two variables laid. -/
noncomputable def laidZ (os:Os):World :=
  let N:=(World.settled Tryz.prog os).heap.size
  let w0:=World.holding Tryz.prog os ⟨#[.cells (([9,13,1,32,133,101,160,5760,5600,8192,8202,1,8232,8233,1,8239,8287,48,12288,12288,1]:List Int).map fun z=>Value.int .u16 z).toArray 180,.cells #[.slice (some ⟨N,0,none⟩) 7 7,.slice none 0 0,.int .i64 2] 177],#[],[]⟩
  let put (h:Array Obj) (g:Nat) (cs:Array Value):Array Obj:=h.modify g fun
    | .cells _ t frozen=>.cells cs t frozen
    | o=>o
  let h1:=put w0.heap 0 (Lib.asciiSpaceTab.map fun z=>Value.int .u8 z).toArray
  let h2:=put h1 1 #[.pointer (some ⟨N+1,0,none⟩)]
  { w0 with heap:=h2 }
theorem laidZ_met (os:Os) (args:Array Value):laidMet Tryz.prog Rows.joinNilRow.laid ((laidZ os).forCall (fun _ _=>0) ⟨#[],args,[]⟩).memory :=
  laidMet_of_run' 8 (by kernel_rfl) (by kernel_rfl)
theorem laidZ_metH (os:Os) (args:Array Value):laidMetH Tryz.prog Rows.joinNilRow.laid ((laidZ os).forCall (fun _ _=>0) ⟨#[],args,[]⟩).memory:=laidZ_met os args
noncomputable abbrev argsZ:Array Value:=#[.agg ⟨[.int .i64 0,.int .i64 0,.int .i64 0,.int .i64 0,.int .i64 0,.int .i64 0,.int .i64 0,.int .i64 0,.slice none 0 0,.int .u8 0,.int .u8 0,.int .u8 0,.int .u8 0,.int .u8 0,.int .u8 0,.int .u8 0,.int .u8 0,.int .u8 0,.int .u8 0,.int .u8 0,.int .u8 0,.int .u8 0,.int .u8 0,.int .u8 0,.int .u8 0,.int .u8 0,.int .u8 0,.int .u8 0,.int .u8 0,.int .u8 0,.int .u8 0,.int .u8 0,.int .u8 0,.int .u8 0,.int .u8 0,.int .u8 0,.int .u8 0,.int .u8 0,.int .u8 0,.int .u8 0,.int .u8 0]⟩,.int .i64 0]

theorem varsZ (os:Os):((laidZ os).forCall (fun _ _=>0) ⟨#[],argsZ,[]⟩).variablesRefB Tryz.checked.prog=true:=by kernel_rfl
theorem restZ (os:Os):(((laidZ os).forCall (fun _ _=>0) ⟨#[],argsZ,[]⟩).heap.toList.drop Tryz.checked.prog.globals.size).take ((begin Tryz.checked.prog (fun _ _=>0) default).world.heap.size - Tryz.checked.prog.globals.size)=(begin Tryz.checked.prog (fun _ _=>0) default).world.heap.toList.drop Tryz.checked.prog.globals.size:=by kernel_rfl
theorem okZ (os:Os):Input.okWideB Tryz.checked.prog ((laidZ os).forCall (fun _ _=>0) ⟨#[],argsZ,[]⟩) 3 ⟨#[],argsZ,[]⟩=true:=by kernel_rfl
set_option maxRecDepth 100000 in
theorem joinNil_lifted (os:Os) (started:os.Started) (H:Type) (enc:TypeId × Value→H) :
    ReturnsInHanded {} Tryz.checked os 3 .any (fun w args=>(Rows.joinNilSpec.pre enc Tryz.prog Tryz.f3 [] false w args∧laidMetH Tryz.prog Rows.joinNilRow.laid w)∧sizedMet enc Tryz.prog Tryz.f3 (OpenSpec.ofChange Rows.joinNilSpec) false w args) (Rows.joinNilSpec.post enc Tryz.prog Tryz.f3 false true false false):=by
  refine returnsInHanded_of_change_and (C:=Tryz.checked) (X:=fun w _=>laidMetH Tryz.prog Rows.joinNilRow.laid w) (fun _ _ _ hh h=>h.of_heap hh) ownJ started (by kernel_rfl) Tryz.func3
    ⟨laidZ os,fun _ _=>0,⟨#[],argsZ,[]⟩,rfl,World.shaped_of_RefB (varsZ os) (restZ os),(Input.okWide_of_okWideB (base:=0) (okZ os)).1,(Input.okWide_of_okWideB (okZ os)).2,⟨⟨ChangeSpec.pre_of_preB (fuel:=8) (by kernel_rfl),laidZ_metH os _⟩,sizedMet_of_sizedB (fuel:=8) (by kernel_rfl)⟩,by simp only [Assume.holds];exact ⟨by simp,by simp,fun _=>Modest.zero,by simp,by simp⟩⟩ ?_
  intro W base args ds gs before hval0 hW _ _ hL _
  have hval:∀ (j:Nat) t v,Tryz.f3.params[j]? = some t→args[j]? = some v→Value.okWide Tryz.prog W .any base t v:=hval0
  have hW':=hW
  obtain ⟨p,q,hA0,hV,rfl,hfz,hnd⟩:=hW
  have hA:DataW.TrodAll enc Tryz.prog W 0 (fun _=>true) true Tryz.f3.params.toList args.toList ds p:=hA0
  rw [Tryz.params3] at hA hval
  obtain ⟨v0,v1,d0,d1,p0,p1,rfl,rfl,rfl,h0,h1⟩:=trodAll_two hA
  obtain ⟨rfl,rfl⟩:=trodVars_none hV
  obtain ⟨cs0,rfl,hcs0⟩:=Opens.argSt tb (t:=29) rfl rfl pk_opens (hval 0 29 v0 rfl rfl) h0
  obtain ⟨n1,rfl,rfl,rfl,wn1⟩:=open_int (k:=.i64) (by kernel_rfl) (hval 1 3 v1 rfl rfl) h1
  refine (joinNil_all cs0 n1 W hcs0 (tabA_of hL)).run.mono fun e W' ⟨v,he,hv,hc⟩=>?_
  subst hv
  exact ⟨_,he,law_post (tt:=4) hW' rfl rfl (by kernel_rfl) (by kernel_rfl) laidJ (by
    rw [Tryz.params3]
    intro t ht
    simp only [List.mem_cons,List.not_mem_nil,or_false] at ht
    rcases ht with rfl|rfl
    · exact ⟨by kernel_rfl,of_decide_eq_true (by kernel_rfl)⟩
    · exact ⟨by kernel_rfl,of_decide_eq_true (by kernel_rfl)⟩) hc.below⟩

theorem joinNil_holds:Rows.JoinNilSaid :=
  OpenClaim.holds_of_wide 3 Tryz.f3 rfl rfl rfl rfl rfl rfl rfl ⟨rfl,rfl,rfl,rfl,rfl⟩ rfl rfl rfl rfl rfl (by kernel_rfl) Tryz.func3 (by kernel_rfl)
    (of_decide_eq_true (by kernel_rfl)) (by unfold Func.isWrapper;first|(rw [if_pos (by decide +kernel)];kernel_rfl)|(rw [if_neg (by decide +kernel)];exact ⟨rfl,rfl⟩))
    (fun os started H enc _=>joinNil_lifted os started H enc)
end Go.Proofs.YtijbmkjebidanaaGreatDoor
