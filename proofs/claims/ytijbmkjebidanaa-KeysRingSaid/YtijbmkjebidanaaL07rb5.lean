/- Texts of the proof: Ky1, Ky2, Eng15, Eng22, L07x, Ky3, Eng16, M1, K1, C3a, D0, Eng17, So1, Eng29, Kr1, Eng33, Sl3, Kr2, Kr3, Kr4, Kr5, Eng20, Rv5, Rv8, Rg1, Kr6. -/
import Derived.Test.YtijbmkjebidanaaL07rb4
import Derived.ProofKit
import Derived.Deep.Slices
import Derived.OpenShut
import Derived.Sort.Statements
import Derived.Shelf.SlSortCmp.Insertion
import Derived.Shelf.SlSortCmp.WholeK
import Derived.Test.YtijbmkjebidanaaShelf
import Derived.RangeFuncRecord
import Derived.TacticsIn
set_option linter.unusedSimpArgs false
set_option linter.unusedVariables false
namespace Go.Proofs.Ytijbmkjebidanaa
open Go.RowKit Go.Shelf
set_option maxRecDepth 100000
def sSend:ByteArray:=⟨#[115,101,110,100,101,114]⟩
def sSeed:ByteArray:=⟨#[115,101,101,100]⟩
def twoB (n:Int):List Int:=[n / 256 % 256,n % 256]
def lastI (sz:Nat) (n:Int):List Int:=(twoB n).drop (2 - sz)
def senderI (k:List Int) (v:Int):List Int:=deriveI k sSend [lastI 2 v]
def seedI (k:List Int) (v:Int):List Int:=deriveI k sSeed [lastI 1 v]
theorem two_byt (n:Int):Byt (twoB n):=by
  intro x hx
  simp only [twoB,List.mem_cons,List.not_mem_nil,or_false] at hx
  omega
theorem last_byt (sz:Nat) (n:Int):Byt (lastI sz n):=Byt.drop (two_byt n) _
theorem derived_off (bk:Nat) (lab:ByteArray) (n a b s:Int) (h:n < a ∨ n > b):CallP Try.prog 69 [.pointer (some ⟨bk,0,none⟩),.string lab,.int .i64 n,.int .i64 a,.int .i64 b,.int .i64 s] (.tuple #[.pointer none,.int .i64 10]):=by
  refine enterP (tb:=tb) Try.func69 rfl Try.ntmps69 rfl fun w0=>?_
  rcases h with h|h
  · repeat' (first|(apply R.is1;first|(apply R.isBin;first|(apply R.pure;exact rfl;first|(apply Ok1.sub64;exact rfl;exact rfl;omega;omega)|(apply Ok1.lss_t;exact rfl;exact rfl;omega)|(apply Ok1.lss_f;exact rfl;exact rfl;omega)|(apply Ok1.gtr_t;exact rfl;exact rfl;omega)|(apply Ok1.gtr_f;exact rfl;exact rfl;omega)|(apply Ok1.eql_t;exact rfl;exact rfl;omega)|(apply Ok1.eql_f;exact rfl;exact rfl;omega)|(apply Ok1.shr;exact rfl;exact rfl;omega;exact Nat.le_of_ble_eq_true rfl;(first|exact pwE1|exact pwE2|exact pwE3|exact pwE4|exact pwE5|exact pwE6|exact pwE7|exact pwE8|exact pwE16|exact pwE24|exact pwE32|exact rfl))|(apply Ok1.eqlP;(iterate 5 exact rfl))|(apply Ok1.eqlM;(iterate 5 exact rfl))|(apply Ok1.eqlS;(iterate 5 exact rfl)))|(apply R.lss rfl rfl rfl<;>intro)|(apply R.gtr rfl rfl rfl<;>intro)|(apply R.eql rfl rfl rfl<;>intro)|(apply R.eqlF;(iterate 8 exact rfl);all_goals intro))|(apply R.pure;exact rfl;first|(apply Ok1.move;exact rfl)|(apply Ok1.assign;exact rfl)|(apply Ok1.pick_t;exact rfl;exact rfl)|(apply Ok1.pick_f;exact rfl;exact rfl)|(apply Ok1.pick_h;exact rfl;assumption;exact rfl)|(apply Ok1.pick_n;exact rfl;assumption;exact rfl)|(apply Ok1.convI64;(iterate 5 exact rfl);omega;omega)|(apply Ok1.convU64;(iterate 5 exact rfl);omega;omega)|(apply Ok1.convU32;(iterate 5 exact rfl);omega;omega)|(apply Ok1.convU8;(iterate 5 exact rfl);omega;omega)|(apply Ok1.conv;(iterate 5 exact rfl))|(apply Ok1.slice0;(iterate 7 exact rfl);(refine ⟨?_,?_,?_⟩<;>omega);(first|exact Or.inl rfl|exact Or.inr (fun e=>by cases e)))|(apply Ok1.sliceTo;(iterate 6 exact rfl);omega;omega;omega;(first|exact Or.inl rfl|exact Or.inr (fun e=>by cases e)))|(apply Ok1.sliceFrom;(iterate 7 exact rfl);omega;omega;omega;omega;omega;(first|exact Or.inl rfl|exact Or.inr (fun e=>by cases e))))|(apply R.buildSlice;(iterate 12 exact rfl);intro))|(apply R.is0;first|fail)|(apply R.isG;first|(apply R.guard_run;exact rfl;exact rfl)|(apply R.guard_not;(iterate 3 exact rfl))|(apply R.guard_not0;exact rfl;exact rfl)|(apply R.guard_un;(iterate 3 exact rfl))|(apply R.guard_un0;exact rfl;exact rfl)|(apply R.guard rfl rfl ?_ (fun h=>⟨rfl,?_⟩)<;>try intro))|apply R.nil|(apply T.is;first|apply T.seq|apply T.region|apply T.block|apply T.scope|apply T.label|apply T.skip|apply T.exit|apply T.ret|(apply T.cond_t;exact rfl)|(apply T.cond_f;exact rfl)|(apply T.cond_h;exact rfl;assumption)|(apply T.cond_n;exact rfl;assumption)|(apply T.cond rfl<;>intro))|apply Rnd.step)
    all_goals (apply RetOk.tt;exact rfl;exact rfl)
    all_goals rfl
  · by_cases h2:n < a
    · repeat' (first|(apply R.is1;first|(apply R.isBin;first|(apply R.pure;exact rfl;first|(apply Ok1.sub64;exact rfl;exact rfl;omega;omega)|(apply Ok1.lss_t;exact rfl;exact rfl;omega)|(apply Ok1.lss_f;exact rfl;exact rfl;omega)|(apply Ok1.gtr_t;exact rfl;exact rfl;omega)|(apply Ok1.gtr_f;exact rfl;exact rfl;omega)|(apply Ok1.eql_t;exact rfl;exact rfl;omega)|(apply Ok1.eql_f;exact rfl;exact rfl;omega)|(apply Ok1.shr;exact rfl;exact rfl;omega;exact Nat.le_of_ble_eq_true rfl;(first|exact pwE1|exact pwE2|exact pwE3|exact pwE4|exact pwE5|exact pwE6|exact pwE7|exact pwE8|exact pwE16|exact pwE24|exact pwE32|exact rfl))|(apply Ok1.eqlP;(iterate 5 exact rfl))|(apply Ok1.eqlM;(iterate 5 exact rfl))|(apply Ok1.eqlS;(iterate 5 exact rfl)))|(apply R.lss rfl rfl rfl<;>intro)|(apply R.gtr rfl rfl rfl<;>intro)|(apply R.eql rfl rfl rfl<;>intro)|(apply R.eqlF;(iterate 8 exact rfl);all_goals intro))|(apply R.pure;exact rfl;first|(apply Ok1.move;exact rfl)|(apply Ok1.assign;exact rfl)|(apply Ok1.pick_t;exact rfl;exact rfl)|(apply Ok1.pick_f;exact rfl;exact rfl)|(apply Ok1.pick_h;exact rfl;assumption;exact rfl)|(apply Ok1.pick_n;exact rfl;assumption;exact rfl)|(apply Ok1.convI64;(iterate 5 exact rfl);omega;omega)|(apply Ok1.convU64;(iterate 5 exact rfl);omega;omega)|(apply Ok1.convU32;(iterate 5 exact rfl);omega;omega)|(apply Ok1.convU8;(iterate 5 exact rfl);omega;omega)|(apply Ok1.conv;(iterate 5 exact rfl))|(apply Ok1.slice0;(iterate 7 exact rfl);(refine ⟨?_,?_,?_⟩<;>omega);(first|exact Or.inl rfl|exact Or.inr (fun e=>by cases e)))|(apply Ok1.sliceTo;(iterate 6 exact rfl);omega;omega;omega;(first|exact Or.inl rfl|exact Or.inr (fun e=>by cases e)))|(apply Ok1.sliceFrom;(iterate 7 exact rfl);omega;omega;omega;omega;omega;(first|exact Or.inl rfl|exact Or.inr (fun e=>by cases e))))|(apply R.buildSlice;(iterate 12 exact rfl);intro))|(apply R.is0;first|fail)|(apply R.isG;first|(apply R.guard_run;exact rfl;exact rfl)|(apply R.guard_not;(iterate 3 exact rfl))|(apply R.guard_not0;exact rfl;exact rfl)|(apply R.guard_un;(iterate 3 exact rfl))|(apply R.guard_un0;exact rfl;exact rfl)|(apply R.guard rfl rfl ?_ (fun h=>⟨rfl,?_⟩)<;>try intro))|apply R.nil|(apply T.is;first|apply T.seq|apply T.region|apply T.block|apply T.scope|apply T.label|apply T.skip|apply T.exit|apply T.ret|(apply T.cond_t;exact rfl)|(apply T.cond_f;exact rfl)|(apply T.cond_h;exact rfl;assumption)|(apply T.cond_n;exact rfl;assumption)|(apply T.cond rfl<;>intro))|apply Rnd.step)
      all_goals (apply RetOk.tt;exact rfl;exact rfl)
      all_goals rfl
    · repeat' (first|(apply R.is1;first|(apply R.isBin;first|(apply R.pure;exact rfl;first|(apply Ok1.sub64;exact rfl;exact rfl;omega;omega)|(apply Ok1.lss_t;exact rfl;exact rfl;omega)|(apply Ok1.lss_f;exact rfl;exact rfl;omega)|(apply Ok1.gtr_t;exact rfl;exact rfl;omega)|(apply Ok1.gtr_f;exact rfl;exact rfl;omega)|(apply Ok1.eql_t;exact rfl;exact rfl;omega)|(apply Ok1.eql_f;exact rfl;exact rfl;omega)|(apply Ok1.shr;exact rfl;exact rfl;omega;exact Nat.le_of_ble_eq_true rfl;(first|exact pwE1|exact pwE2|exact pwE3|exact pwE4|exact pwE5|exact pwE6|exact pwE7|exact pwE8|exact pwE16|exact pwE24|exact pwE32|exact rfl))|(apply Ok1.eqlP;(iterate 5 exact rfl))|(apply Ok1.eqlM;(iterate 5 exact rfl))|(apply Ok1.eqlS;(iterate 5 exact rfl)))|(apply R.lss rfl rfl rfl<;>intro)|(apply R.gtr rfl rfl rfl<;>intro)|(apply R.eql rfl rfl rfl<;>intro)|(apply R.eqlF;(iterate 8 exact rfl);all_goals intro))|(apply R.pure;exact rfl;first|(apply Ok1.move;exact rfl)|(apply Ok1.assign;exact rfl)|(apply Ok1.pick_t;exact rfl;exact rfl)|(apply Ok1.pick_f;exact rfl;exact rfl)|(apply Ok1.pick_h;exact rfl;assumption;exact rfl)|(apply Ok1.pick_n;exact rfl;assumption;exact rfl)|(apply Ok1.convI64;(iterate 5 exact rfl);omega;omega)|(apply Ok1.convU64;(iterate 5 exact rfl);omega;omega)|(apply Ok1.convU32;(iterate 5 exact rfl);omega;omega)|(apply Ok1.convU8;(iterate 5 exact rfl);omega;omega)|(apply Ok1.conv;(iterate 5 exact rfl))|(apply Ok1.slice0;(iterate 7 exact rfl);(refine ⟨?_,?_,?_⟩<;>omega);(first|exact Or.inl rfl|exact Or.inr (fun e=>by cases e)))|(apply Ok1.sliceTo;(iterate 6 exact rfl);omega;omega;omega;(first|exact Or.inl rfl|exact Or.inr (fun e=>by cases e)))|(apply Ok1.sliceFrom;(iterate 7 exact rfl);omega;omega;omega;omega;omega;(first|exact Or.inl rfl|exact Or.inr (fun e=>by cases e))))|(apply R.buildSlice;(iterate 12 exact rfl);intro))|(apply R.is0;first|fail)|(apply R.isG;first|(apply R.guard_run;exact rfl;exact rfl)|(apply R.guard_not;(iterate 3 exact rfl))|(apply R.guard_not0;exact rfl;exact rfl)|(apply R.guard_un;(iterate 3 exact rfl))|(apply R.guard_un0;exact rfl;exact rfl)|(apply R.guard rfl rfl ?_ (fun h=>⟨rfl,?_⟩)<;>try intro))|apply R.nil|(apply T.is;first|apply T.seq|apply T.region|apply T.block|apply T.scope|apply T.label|apply T.skip|apply T.exit|apply T.ret|(apply T.cond_t;exact rfl)|(apply T.cond_f;exact rfl)|(apply T.cond_h;exact rfl;assumption)|(apply T.cond_n;exact rfl;assumption)|(apply T.cond rfl<;>intro))|apply Rnd.step)
      all_goals (apply RetOk.tt;exact rfl;exact rfl)
      all_goals rfl
theorem derived_ok (bk:Nat) (k:List Int) (hkl:k.length≤999999000) (hkb:Byt k) (lab:ByteArray) (hlab:lab.size≤1000) (n a b:Int) (s:Nat) (h1:a≤n) (h2:n≤b) (hs:s≤2) (w:World) (hk:KeyR w bk k) :
    CallM Try.prog 69 [.pointer (some ⟨bk,0,none⟩),.string lab,.int .i64 n,.int .i64 a,.int .i64 b,.int .i64 s] [] w fun v L=>∃ bk' ov,v = .tuple #[.pointer (some ⟨bk',0,none⟩),.int .i64 0]∧OvOk 1 ov 32 (u8s (deriveI k lab [lastI s n]))∧L=KL bk' ov (deriveI k lab [lastI s n]):=by
  have hll:(lastI s n).length=s:=by simp [lastI,twoB];omega
  have hfl:(frameI [strI lab,lastI s n]).length≤999998000:=by
    have h3:(strI lab).length=lab.size:=by simp [strI]
    simp only [frameI,List.flatMap_cons,List.flatMap_nil,List.append_nil,List.length_append,hll,h3]
    simp only [len4,List.length_cons,List.length_nil]
    omega
  refine enterK (tb:=tb) Try.func69 rfl Try.ntmps69 rfl ?_
  have hsub:(2:Int) - (s:Int)=((2 - s:Nat):Int):=by omega
  have hsuf:=fun p (w1:World) (h:RdSl w1 p u8V (twoB n))=>RdSl.suf u8V_len h (cap:=2) (i:=2 - s) (by simp [twoB]) (by simp [twoB])
  have hl0:(twoB n).length=2:=rfl
  have hcells:u8s (twoB n)=[.int .u8 (IntKind.u8.wrap (n / 256)),.int .u8 (IntKind.u8.wrap n)]:=by simp only [u8_mod];rfl
  have hss:2 - (2 - s)=s:=by omega
  repeat' (first|(apply R.is1;first|(apply R.isBin;first|(apply R.pure;exact rfl;first|(apply Ok1.sub64;exact rfl;exact rfl;omega;omega)|(apply Ok1.lss_t;exact rfl;exact rfl;omega)|(apply Ok1.lss_f;exact rfl;exact rfl;omega)|(apply Ok1.gtr_t;exact rfl;exact rfl;omega)|(apply Ok1.gtr_f;exact rfl;exact rfl;omega)|(apply Ok1.eql_t;exact rfl;exact rfl;omega)|(apply Ok1.eql_f;exact rfl;exact rfl;omega)|(apply Ok1.shr;exact rfl;exact rfl;omega;exact Nat.le_of_ble_eq_true rfl;(first|exact pwE1|exact pwE2|exact pwE3|exact pwE4|exact pwE5|exact pwE6|exact pwE7|exact pwE8|exact pwE16|exact pwE24|exact pwE32|exact rfl))|(apply Ok1.eqlP;(iterate 5 exact rfl))|(apply Ok1.eqlM;(iterate 5 exact rfl))|(apply Ok1.eqlS;(iterate 5 exact rfl)))|(apply R.lss rfl rfl rfl<;>intro)|(apply R.gtr rfl rfl rfl<;>intro)|(apply R.eql rfl rfl rfl<;>intro)|(apply R.eqlF;(iterate 8 exact rfl);all_goals intro))|(apply R.isCall;first|(apply R.callE;(iterate 3 exact rfl);exact Ext.none _;intro w1 hw1;exact derive_ok bk k hkl hkb lab (by omega) _ 1 1 [⟨_,2 - (2 - s),lastI s n⟩] rfl (by decide) (by intro x hx;cases List.mem_singleton.1 hx;exact last_byt _ _) hfl (by intro x hx;cases List.mem_singleton.1 hx;rw [hll];omega) w1 (hk.chg hw1.chg) (RdSl.of (junk:=[]) hw1 (by (focus (repeat' first|exact At.head|apply At.tail|apply At.right);done)) (by simp only [fl,Pt.v,List.map_cons,List.map_nil,List.flatten_cons,List.flatten_nil,List.append_nil];rw [hll,hss])) (by intro x hx;cases List.mem_singleton.1 hx;exact hsuf _ _ (RdSl.of (junk:=[]) hw1 (by (focus (repeat' first|exact At.head|apply At.tail|apply At.right);done)) (by rw [fl_u8,hcells];rfl)));rw [List.map_cons,List.map_nil];rintro v Lo ⟨bk2,ov2,rfl,hov2,rfl⟩))|(apply R.pure;exact rfl;first|(apply Ok1.sufR (i:=2 - s) (sz:=1);(iterate 5 exact rfl);exact congrArg (fun z=>some (Value.int .i64 z)) hsub;omega;omega)|(apply Ok1.move;exact rfl)|(apply Ok1.assign;exact rfl)|(apply Ok1.pick_t;exact rfl;exact rfl)|(apply Ok1.pick_f;exact rfl;exact rfl)|(apply Ok1.pick_h;exact rfl;assumption;exact rfl)|(apply Ok1.pick_n;exact rfl;assumption;exact rfl)|(apply Ok1.convI64;(iterate 5 exact rfl);omega;omega)|(apply Ok1.convU64;(iterate 5 exact rfl);omega;omega)|(apply Ok1.convU32;(iterate 5 exact rfl);omega;omega)|(apply Ok1.convU8;(iterate 5 exact rfl);omega;omega)|(apply Ok1.conv;(iterate 5 exact rfl))|(apply Ok1.slice0;(iterate 7 exact rfl);(refine ⟨?_,?_,?_⟩<;>omega);(first|exact Or.inl rfl|exact Or.inr (fun e=>by cases e)))|(apply Ok1.sliceTo;(iterate 6 exact rfl);omega;omega;omega;(first|exact Or.inl rfl|exact Or.inr (fun e=>by cases e)))|(apply Ok1.sliceFrom;(iterate 7 exact rfl);omega;omega;omega;omega;omega;(first|exact Or.inl rfl|exact Or.inr (fun e=>by cases e))))|(apply R.buildSlice;(iterate 12 exact rfl);intro))|(apply R.is0;first|fail)|(apply R.isG;first|(apply R.guard_run;exact rfl;exact rfl)|(apply R.guard_not;(iterate 3 exact rfl))|(apply R.guard_not0;exact rfl;exact rfl)|(apply R.guard_un;(iterate 3 exact rfl))|(apply R.guard_un0;exact rfl;exact rfl)|(apply R.guard rfl rfl ?_ (fun h=>⟨rfl,?_⟩)<;>try intro))|apply R.nil|(apply T.is;first|apply T.seq|apply T.region|apply T.block|apply T.scope|apply T.label|apply T.skip|apply T.exit|apply T.ret|(apply T.cond_t;exact rfl)|(apply T.cond_f;exact rfl)|(apply T.cond_h;exact rfl;assumption)|(apply T.cond_n;exact rfl;assumption)|(apply T.cond rfl<;>intro))|apply Rnd.step)
  all_goals (apply RetOk.tt;exact rfl;exact rfl)
  all_goals refine ⟨_,?_,bk2,ov2,rfl,hov2,rfl⟩
  all_goals (focus (repeat' first|exact Keep.nil _|exact Ext.one _ _|exact Ext.here _ _|exact Ext.all _|apply Keep.cons|apply Keep.app|apply Keep.last|apply Ext.cons|apply Ext.app);done)
theorem sender_off (bk:Nat) (n:Int) (h:n < 1 ∨ n > 65535):CallP Try.prog 42 [.pointer (some ⟨bk,0,none⟩),.int .i64 n] (.tuple #[.pointer none,.int .i64 10]):=by
  have hd:=derived_off bk sSend n 1 65535 2 h
  refine enterP (tb:=tb) Try.func42 rfl Try.ntmps42 rfl fun w0=>?_
  repeat' (first|(apply R.is1;first|(apply R.isCall;first|apply R.callP rfl rfl rfl hd)|(apply R.pure;exact rfl;first|(apply Ok1.move;exact rfl)|(apply Ok1.assign;exact rfl)|(apply Ok1.extract;exact rfl;exact rfl)))|(apply R.is0;first|fail)|(apply R.isG;first|(apply R.guard_run;exact rfl;exact rfl)|(apply R.guard_not;(iterate 3 exact rfl))|(apply R.guard_not0;exact rfl;exact rfl)|(apply R.guard_un;(iterate 3 exact rfl))|(apply R.guard_un0;exact rfl;exact rfl)|(apply R.guard rfl rfl ?_ (fun h=>⟨rfl,?_⟩)<;>try intro))|apply R.nil|(apply T.is;first|apply T.seq|apply T.region|apply T.block|apply T.scope|apply T.label|apply T.skip|apply T.exit|apply T.ret|(apply T.cond_t;exact rfl)|(apply T.cond_f;exact rfl)|(apply T.cond_h;exact rfl;assumption)|(apply T.cond_n;exact rfl;assumption)|(apply T.cond rfl<;>intro))|apply Rnd.step)
  all_goals (apply RetOk.tt;exact rfl;exact rfl)
  all_goals rfl
theorem sender_ok (bk:Nat) (k:List Int) (hkl:k.length≤999999000) (hkb:Byt k) (n:Int) (h1:1≤n) (h2:n≤65535) (w:World) (hk:KeyR w bk k) :
    CallM Try.prog 42 [.pointer (some ⟨bk,0,none⟩),.int .i64 n] [] w fun v L=>∃ bk' ov,v = .tuple #[.pointer (some ⟨bk',0,none⟩),.int .i64 0]∧OvOk 1 ov 32 (u8s (senderI k n))∧L=KL bk' ov (senderI k n):=by
  refine enterK (tb:=tb) Try.func42 rfl Try.ntmps42 rfl ?_
  repeat' (first|(apply R.is1;first|(apply R.isCall;first|(apply R.callE;(iterate 3 exact rfl);exact Ext.none _;intro w1 hw1;exact derived_ok bk k hkl hkb sSend (by decide) n 1 65535 2 h1 h2 (by decide) w1 (hk.chg hw1.chg);rintro v Lo ⟨bk2,ov2,rfl,hov2,rfl⟩))|(apply R.pure;exact rfl;first|(apply Ok1.move;exact rfl)|(apply Ok1.assign;exact rfl)|(apply Ok1.extract;exact rfl;exact rfl)))|(apply R.is0;first|fail)|(apply R.isG;first|(apply R.guard_run;exact rfl;exact rfl)|(apply R.guard_not;(iterate 3 exact rfl))|(apply R.guard_not0;exact rfl;exact rfl)|(apply R.guard_un;(iterate 3 exact rfl))|(apply R.guard_un0;exact rfl;exact rfl)|(apply R.guard rfl rfl ?_ (fun h=>⟨rfl,?_⟩)<;>try intro))|apply R.nil|(apply T.is;first|apply T.seq|apply T.region|apply T.block|apply T.scope|apply T.label|apply T.skip|apply T.exit|apply T.ret|(apply T.cond_t;exact rfl)|(apply T.cond_f;exact rfl)|(apply T.cond_h;exact rfl;assumption)|(apply T.cond_n;exact rfl;assumption)|(apply T.cond rfl<;>intro))|apply Rnd.step)
  all_goals (apply RetOk.tt;exact rfl;exact rfl)
  all_goals refine ⟨_,?_,bk2,ov2,rfl,hov2,rfl⟩
  all_goals (focus (repeat' first|exact Keep.nil _|exact Ext.one _ _|exact Ext.here _ _|exact Ext.all _|apply Keep.cons|apply Keep.app|apply Keep.last|apply Ext.cons|apply Ext.app);done)
theorem seed_off (bk:Nat) (n:Int) (h:n < 0 ∨ n > 3):CallP Try.prog 45 [.pointer (some ⟨bk,0,none⟩),.int .i64 n] (.tuple #[.pointer none,.int .i64 10]):=by
  have hd:=derived_off bk sSeed n 0 3 1 h
  refine enterP (tb:=tb) Try.func45 rfl Try.ntmps45 rfl fun w0=>?_
  repeat' (first|(apply R.is1;first|(apply R.isCall;first|apply R.callP rfl rfl rfl hd)|(apply R.pure;exact rfl;first|(apply Ok1.move;exact rfl)|(apply Ok1.assign;exact rfl)|(apply Ok1.extract;exact rfl;exact rfl)))|(apply R.is0;first|fail)|(apply R.isG;first|(apply R.guard_run;exact rfl;exact rfl)|(apply R.guard_not;(iterate 3 exact rfl))|(apply R.guard_not0;exact rfl;exact rfl)|(apply R.guard_un;(iterate 3 exact rfl))|(apply R.guard_un0;exact rfl;exact rfl)|(apply R.guard rfl rfl ?_ (fun h=>⟨rfl,?_⟩)<;>try intro))|apply R.nil|(apply T.is;first|apply T.seq|apply T.region|apply T.block|apply T.scope|apply T.label|apply T.skip|apply T.exit|apply T.ret|(apply T.cond_t;exact rfl)|(apply T.cond_f;exact rfl)|(apply T.cond_h;exact rfl;assumption)|(apply T.cond_n;exact rfl;assumption)|(apply T.cond rfl<;>intro))|apply Rnd.step)
  all_goals (apply RetOk.tt;exact rfl;exact rfl)
  all_goals rfl
theorem seed_ok (bk:Nat) (k:List Int) (hkl:k.length≤999999000) (hkb:Byt k) (n:Int) (h1:0≤n) (h2:n≤3) (w:World) (hk:KeyR w bk k) :
    CallM Try.prog 45 [.pointer (some ⟨bk,0,none⟩),.int .i64 n] [] w fun v L=>∃ bk' ov,v = .tuple #[.pointer (some ⟨bk',0,none⟩),.int .i64 0]∧OvOk 1 ov 32 (u8s (seedI k n))∧L=KL bk' ov (seedI k n):=by
  refine enterK (tb:=tb) Try.func45 rfl Try.ntmps45 rfl ?_
  repeat' (first|(apply R.is1;first|(apply R.isCall;first|(apply R.callE;(iterate 3 exact rfl);exact Ext.none _;intro w1 hw1;exact derived_ok bk k hkl hkb sSeed (by decide) n 0 3 1 h1 h2 (by decide) w1 (hk.chg hw1.chg);rintro v Lo ⟨bk2,ov2,rfl,hov2,rfl⟩))|(apply R.pure;exact rfl;first|(apply Ok1.move;exact rfl)|(apply Ok1.assign;exact rfl)|(apply Ok1.extract;exact rfl;exact rfl)))|(apply R.is0;first|fail)|(apply R.isG;first|(apply R.guard_run;exact rfl;exact rfl)|(apply R.guard_not;(iterate 3 exact rfl))|(apply R.guard_not0;exact rfl;exact rfl)|(apply R.guard_un;(iterate 3 exact rfl))|(apply R.guard_un0;exact rfl;exact rfl)|(apply R.guard rfl rfl ?_ (fun h=>⟨rfl,?_⟩)<;>try intro))|apply R.nil|(apply T.is;first|apply T.seq|apply T.region|apply T.block|apply T.scope|apply T.label|apply T.skip|apply T.exit|apply T.ret|(apply T.cond_t;exact rfl)|(apply T.cond_f;exact rfl)|(apply T.cond_h;exact rfl;assumption)|(apply T.cond_n;exact rfl;assumption)|(apply T.cond rfl<;>intro))|apply Rnd.step)
  all_goals (apply RetOk.tt;exact rfl;exact rfl)
  all_goals refine ⟨_,?_,bk2,ov2,rfl,hov2,rfl⟩
  all_goals (focus (repeat' first|exact Keep.nil _|exact Ext.one _ _|exact Ext.here _ _|exact Ext.all _|apply Keep.cons|apply Keep.app|apply Keep.last|apply Ext.cons|apply Ext.app);done)
theorem grant_ok (bk:Nat) (k:List Int) (hkl:k.length≤999999000) (hkb:Byt k) (c:Cl) (hr:c.right) (n:Int) (h1:1≤n) (h2:n≤65535) (w:World) (hk:KeyR w bk k) :
    CallM Try.prog 70 [.pointer (some ⟨bk,0,none⟩),kvC c,.int .i64 n] [] w fun v L=>∃ bk' ov,v = .tuple #[.pointer (some ⟨bk',0,none⟩),.int .i64 0]∧OvOk 1 ov 32 (u8s (senderI (secretI k c) n))∧L=KL bk' ov (senderI (secretI k c) n):=by
  have hd:=fun w1 (hc:Chg [] w w1)=>make_ok c hr bk k hkl hkb w1 (hk.chg hc)
  have hsl:=secret_len k c
  have hsb:=secret_byt k c
  have hls:(u8s (secretI k c)).length=32:=by rw [u8s_len,hsl]
  generalize secretI k c=d at *
  have htl:(tkC c d).length=36:=by simp [tkC,clC,hls]
  have hto:(tkC c d).all Value.oneCell'=true:=by simp only [tkC,List.all_append,u8s_one,Bool.and_true];rfl
  refine enterK (tb:=tb) Try.func70 rfl Try.ntmps70 rfl ?_
  simp only [kvC] at hd ⊢
  repeat' (first|(apply R.is1;first|(apply R.isBin;first|(apply R.pure;exact rfl;first|(apply Ok1.neq_t;exact rfl;exact rfl;omega)|(apply Ok1.neq_f;exact rfl;exact rfl;omega)|(apply Ok1.neqP;(iterate 5 exact rfl))|(apply Ok1.neqM;(iterate 5 exact rfl))|(apply Ok1.neqS;(iterate 5 exact rfl)))|(apply R.neq rfl rfl rfl<;>intro)|(apply R.neqF;(iterate 8 exact rfl);all_goals intro))|(apply R.isCall;first|(apply R.callV (vs:=[_,.agg _]);(iterate 3 exact rfl);intro w1 hw1;exact hd w1 hw1.chg)|(apply R.callE (vs:=[.agg _]);(iterate 3 exact rfl);exact Ext.none _;intro w1 hw1;exact key_ok c d hsl w1;rintro v Lo ⟨bk2,ov2,rfl,hov2,rfl⟩)|(apply R.callE (vs:=[.pointer (some ⟨bk2,0,none⟩),.int .i64 n]);(iterate 3 exact rfl);exact Ext.none _;intro w1 hw1;exact sender_ok bk2 d (by rw [hsl];decide) hsb n h1 h2 w1 (KeyR.of (by rw [hsl];exact hov2) hw1 (Ext.mem (by (focus (repeat' first|exact Ext.none _|exact Ext.one _ _|exact Ext.here _ _|exact Ext.all _|apply Ext.cons|apply Ext.app|apply Ext.two);done))));rintro v Lo ⟨bk3,ov3,rfl,hov3,rfl⟩))|(apply R.pure;exact rfl;first|(apply Ok1.load;exact rfl;apply Ld.ownk;exact rfl;exact rfl;(focus (repeat' first|exact At.head|apply At.tail|apply At.right);done);exact subE_all htl)|(apply Ok1.move;exact rfl)|(apply Ok1.load;exact rfl;first|(apply Ld.own1;exact rfl;exact rfl;(focus (repeat' first|exact At.head|apply At.tail|apply At.right);done);exact rfl)|(apply Ld.ownk;exact rfl;exact rfl;(focus (repeat' first|exact At.head|apply At.tail|apply At.right);done);exact rfl)|(apply Ld.old1;exact rfl;exact rfl;assumption;(first|exact List.not_mem_nil|assumption))|(apply Ld.blk1;exact rfl;exact rfl;assumption;(first|exact List.not_mem_nil|assumption);exact rfl)|(apply Ld.blkk;exact rfl;exact rfl;assumption;(first|exact List.not_mem_nil|assumption);exact rfl))|(apply Ok1.assign;exact rfl)|(apply Ok1.extract;exact rfl;exact rfl))|(apply R.box;(iterate 3 exact rfl);intro)|(apply R.alloc;(iterate 3 exact rfl);intro))|(apply R.is0;first|(apply R.store;(iterate 4 exact rfl);exact htl;exact hto;(focus (repeat' first|exact Upd.head|apply Upd.tail|apply Upd.right);done);exact setE_all htl)|(apply R.store;(iterate 6 exact rfl);(focus (repeat' first|exact Upd.head|apply Upd.tail|apply Upd.right);done);exact rfl)|fail)|(apply R.isG;first|(apply R.guard_run;exact rfl;exact rfl)|(apply R.guard_not;(iterate 3 exact rfl))|(apply R.guard_not0;exact rfl;exact rfl)|(apply R.guard_un;(iterate 3 exact rfl))|(apply R.guard_un0;exact rfl;exact rfl)|(apply R.guard rfl rfl ?_ (fun h=>⟨rfl,?_⟩)<;>try intro))|apply R.nil|(apply T.is;first|apply T.seq|apply T.region|apply T.block|apply T.scope|apply T.label|apply T.skip|apply T.exit|apply T.ret|(apply T.cond_t;exact rfl)|(apply T.cond_f;exact rfl)|(apply T.cond_h;exact rfl;assumption)|(apply T.cond_n;exact rfl;assumption)|(apply T.cond rfl<;>intro))|apply Rnd.step)
  all_goals (apply RetOk.tt;exact rfl;exact rfl)
  all_goals refine ⟨_,?_,bk3,ov3,rfl,hov3,rfl⟩
  all_goals (focus (repeat' first|exact Keep.nil _|exact Ext.one _ _|exact Ext.here _ _|exact Ext.all _|apply Keep.cons|apply Keep.app|apply Keep.last|apply Ext.cons|apply Ext.app);done)
theorem cut_ok (p:Option Addr) (m cap n:Nat) (h:m≤cap):CallP Try.prog 25 [.slice p m cap,.int .i64 n] (.slice p (min m n) cap):=by
  have hm:min (m:Int) (n:Int)=((min m n:Nat):Int):=by omega
  refine enterP (tb:=tb) Try.func25 rfl Try.ntmps25 rfl fun w0=>?_
  repeat' (first|(apply R.is1;first|(apply R.isCall;first|(apply R.pure;exact rfl;first|(apply Ok1.lenS;(iterate 3 exact rfl))|(apply Ok1.lenStr;(iterate 3 exact rfl))|(apply Ok1.lenMm;(iterate 3 exact rfl);(focus (repeat' first|exact At.head|apply At.tail|apply At.right);done))|(apply Ok1.lenM_nil;(iterate 3 exact rfl))|(apply Ok1.min2;exact rfl;exact rfl)))|(apply R.pure;exact rfl;first|(apply Ok1.preR (i:=min m n);(iterate 4 exact rfl);exact congrArg (fun z=>some (Value.int .i64 z)) hm;omega)|(apply Ok1.move;exact rfl)|(apply Ok1.assign;exact rfl)|(apply Ok1.slice0;(iterate 7 exact rfl);(refine ⟨?_,?_,?_⟩<;>omega);(first|exact Or.inl rfl|exact Or.inr (fun e=>by cases e)))|(apply Ok1.sliceTo;(iterate 6 exact rfl);omega;omega;omega;(first|exact Or.inl rfl|exact Or.inr (fun e=>by cases e)))|(apply Ok1.sliceFrom;(iterate 7 exact rfl);omega;omega;omega;omega;omega;(first|exact Or.inl rfl|exact Or.inr (fun e=>by cases e)))))|(apply R.is0;first|fail)|(apply R.isG;first|(apply R.guard_run;exact rfl;exact rfl)|(apply R.guard_not;(iterate 3 exact rfl))|(apply R.guard_not0;exact rfl;exact rfl)|(apply R.guard_un;(iterate 3 exact rfl))|(apply R.guard_un0;exact rfl;exact rfl)|(apply R.guard rfl rfl ?_ (fun h=>⟨rfl,?_⟩)<;>try intro))|apply R.nil|(apply T.is;first|apply T.seq|apply T.region|apply T.block|apply T.scope|apply T.label|apply T.skip|apply T.exit|apply T.ret|(apply T.cond_t;exact rfl)|(apply T.cond_f;exact rfl)|(apply T.cond_h;exact rfl;assumption)|(apply T.cond_n;exact rfl;assumption)|(apply T.cond rfl<;>intro))|apply Rnd.step)
  (apply RetOk.t;exact rfl)
  rfl
def ringC (c:Cl) (s:List Int) (m1 m2:Nat):List Value:=tkC c s++[.map (some m1),.map (some m2)]
theorem fill_ring (a b e:Nat) (c:Cl) (s:List Int) (hs:s.length=32) (m1 m2:Nat):fillE (fldPl [(a,0,36),(b,36,1),(e,37,1)]) (tkC ⟨0,0,0,0⟩ (zI 32)++[.map none,.map none]) [(0,.agg ⟨tkC c s⟩),(1,.map (some m1)),(2,.map (some m2))]=some (ringC c s m1 m2):=by
  obtain ⟨x0,x1,x2,x3,x4,x5,x6,x7,x8,x9,x10,x11,x12,x13,x14,x15,x16,x17,x18,x19,x20,x21,x22,x23,x24,x25,x26,x27,x28,x29,x30,x31,rfl⟩:=list32 s hs
  rfl
def vvK (b:Nat):Value:=.pointer (some ⟨b,0,none⟩)
def kvR (n:Int):Value:=.int .i64 n
theorem tk_len {c:Cl} {s:List Int} (hs:s.length=32):(tkC c s).length=36:=by simp [tkC,clC,u8s_len,hs]
theorem tk_one (c:Cl) (s:List Int):(tkC c s).all Value.oneCell'=true:=by simp only [tkC,List.all_append,u8s_one,Bool.and_true];rfl
theorem tk_cl (c:Cl) (s:List Int):subE (tkC c s) 0 4=some (clC c):=subE_app (clC c) (u8s s) rfl
def RL0 (br m1 m2:Nat) (c:Cl) (s:List Int):Lst:=[(br,.cells ⟨ringC c s m1 m2⟩ 124 (0,0)),(m2,mobj kvR vvK [] 0),(m1,mobj kvC vvK [] 0)]
theorem ring_new (c:Cl) (hr:c.right) (s:List Int) (hs:s.length=32) (w:World):CallM Try.prog 26 [.agg ⟨tkC c s⟩] [] w fun v L=>∃ br m1 m2,v = .tuple #[.pointer (some ⟨br,0,none⟩),.int .i64 0]∧L=RL0 br m1 m2 c s:=by
  have hck:=check_ok c.id c.roles c.exp c.ser
  rw [if_pos hr] at hck
  have htl:=tk_len (c:=c) hs
  have hfill:=fun a b e m1 m2=>fill_ring a b e c s hs m1 m2
  refine enterK (tb:=tb) Try.func26 rfl Try.ntmps26 rfl ?_
  repeat' (first|(apply R.is1;first|(apply R.makeMap kvC vvK;exact rfl;intro m2)|(apply R.isBin;first|(apply R.pure;exact rfl;first|(apply Ok1.neq_t;exact rfl;exact rfl;omega)|(apply Ok1.neq_f;exact rfl;exact rfl;omega)|(apply Ok1.neqP;(iterate 5 exact rfl))|(apply Ok1.neqM;(iterate 5 exact rfl))|(apply Ok1.neqS;(iterate 5 exact rfl)))|(apply R.neq rfl rfl rfl<;>intro)|(apply R.neqF;(iterate 8 exact rfl);all_goals intro))|(apply R.isCall;first|apply R.callP rfl rfl rfl hck)|(apply R.pure;exact rfl;first|(apply Ok1.load;exact rfl;first|(apply Ld.ownk;exact rfl;exact rfl;(focus (repeat' first|exact At.head|apply At.tail|apply At.right);done);exact subE_all htl)|(apply Ld.ownk;exact rfl;exact rfl;(focus (repeat' first|exact At.head|apply At.tail|apply At.right);done);exact tk_cl c s))|(apply Ok1.build;(iterate 4 exact rfl);exact hfill _ _ _ _ _)|(apply Ok1.move;exact rfl)|(apply Ok1.fieldAddr;(iterate 5 exact rfl))|(apply Ok1.load;exact rfl;first|(apply Ld.own1;exact rfl;exact rfl;(focus (repeat' first|exact At.head|apply At.tail|apply At.right);done);exact rfl)|(apply Ld.ownk;exact rfl;exact rfl;(focus (repeat' first|exact At.head|apply At.tail|apply At.right);done);exact rfl)|(apply Ld.old1;exact rfl;exact rfl;assumption;(first|exact List.not_mem_nil|assumption))|(apply Ld.blk1;exact rfl;exact rfl;assumption;(first|exact List.not_mem_nil|assumption);exact rfl)|(apply Ld.blkk;exact rfl;exact rfl;assumption;(first|exact List.not_mem_nil|assumption);exact rfl))|(apply Ok1.assign;exact rfl)|(apply Ok1.build;(iterate 5 exact rfl))|(apply Ok1.buildA;(iterate 6 exact rfl)))|(apply R.box;(iterate 3 exact rfl);intro))|(apply R.is0;first|fail)|(apply R.isG;first|(apply R.guard_run;exact rfl;exact rfl)|(apply R.guard_not;(iterate 3 exact rfl))|(apply R.guard_not0;exact rfl;exact rfl)|(apply R.guard_un;(iterate 3 exact rfl))|(apply R.guard_un0;exact rfl;exact rfl)|(apply R.guard rfl rfl ?_ (fun h=>⟨rfl,?_⟩)<;>try intro))|apply R.nil|(apply T.is;first|apply T.seq|apply T.region|apply T.block|apply T.scope|apply T.label|apply T.skip|apply T.exit|apply T.ret|(apply T.cond_t;exact rfl)|(apply T.cond_f;exact rfl)|(apply T.cond_h;exact rfl;assumption)|(apply T.cond_n;exact rfl;assumption)|(apply T.cond rfl<;>intro))|apply Rnd.step)
  rename_i m1 br
  (apply RetOk.tt;exact rfl;exact rfl)
  refine ⟨_,?_,br,m1,m2,rfl,rfl⟩
  show Keep ((br,_)::(m2,mobj kvR vvK [] 0)::_) _
  unfold RL0
  (focus (repeat' first|exact Keep.nil _|exact Ext.one _ _|exact Ext.here _ _|exact Ext.all _|apply Keep.cons|apply Keep.app|apply Keep.last|apply Ext.cons|apply Ext.app);done)
theorem ring_tk (c:Cl) {s:List Int} (hs:s.length=32) (m1 m2:Nat):subE (ringC c s m1 m2) 0 36=some (tkC c s):=subE_app _ _ (tk_len hs)
theorem to_ok (br:Nat) (c:Cl) (s:List Int) (hs:s.length=32) (hsb:Byt s) (m1 m2:Nat) (e:TypeId) (n:Int) (h1:1≤n) (h2:n≤65535) (w:World) (hb:w.heap[br]? = some (.cells ⟨ringC c s m1 m2⟩ e (0,0))) :
    CallM Try.prog 41 [.pointer (some ⟨br,0,none⟩),.int .i64 n] [] w fun v L=>∃ bk' ov,v = .tuple #[.pointer (some ⟨bk',0,none⟩),.int .i64 0]∧OvOk 1 ov 32 (u8s (senderI s n))∧L=KL bk' ov (senderI s n):=by
  refine enterK (tb:=tb) Try.func41 rfl Try.ntmps41 rfl ?_
  repeat' (first|(apply R.is1;first|(apply R.isBin;first|(apply R.pure;exact rfl;first|(apply Ok1.eql_t;exact rfl;exact rfl;omega)|(apply Ok1.eql_f;exact rfl;exact rfl;omega)|(apply Ok1.eqlP;(iterate 5 exact rfl))|(apply Ok1.eqlM;(iterate 5 exact rfl))|(apply Ok1.eqlS;(iterate 5 exact rfl)))|(apply R.eql rfl rfl rfl<;>intro)|(apply R.eqlF;(iterate 8 exact rfl);all_goals intro))|(apply R.isCall;first|(apply R.callE (vs:=[.agg ⟨tkC c s⟩]);(iterate 3 exact rfl);exact Ext.none _;intro w1 hw1;exact key_ok c s hs w1;rintro v Lo ⟨bk2,ov2,rfl,hov2,rfl⟩)|(apply R.callE (vs:=[.pointer (some ⟨bk2,0,none⟩),.int .i64 n]);(iterate 3 exact rfl);exact Ext.none _;intro w1 hw1;exact sender_ok bk2 s (by rw [hs];decide) hsb n h1 h2 w1 (KeyR.of (by rw [hs];exact hov2) hw1 (Ext.mem (by (focus (repeat' first|exact Ext.none _|exact Ext.one _ _|exact Ext.here _ _|exact Ext.all _|apply Ext.cons|apply Ext.app|apply Ext.two);done))));rintro v Lo ⟨bk3,ov3,rfl,hov3,rfl⟩))|(apply R.pure;exact rfl;first|(apply Ok1.load;exact rfl;apply Ld.blkk;exact rfl;exact rfl;exact hb;exact List.not_mem_nil;exact ring_tk c hs m1 m2)|(apply Ok1.move;exact rfl)|(apply Ok1.fieldAddr;(iterate 5 exact rfl))|(apply Ok1.load;exact rfl;first|(apply Ld.own1;exact rfl;exact rfl;(focus (repeat' first|exact At.head|apply At.tail|apply At.right);done);exact rfl)|(apply Ld.ownk;exact rfl;exact rfl;(focus (repeat' first|exact At.head|apply At.tail|apply At.right);done);exact rfl)|(apply Ld.old1;exact rfl;exact rfl;assumption;(first|exact List.not_mem_nil|assumption))|(apply Ld.blk1;exact rfl;exact rfl;assumption;(first|exact List.not_mem_nil|assumption);exact rfl)|(apply Ld.blkk;exact rfl;exact rfl;assumption;(first|exact List.not_mem_nil|assumption);exact rfl))|(apply Ok1.assign;exact rfl)|(apply Ok1.extract;exact rfl;exact rfl)|(apply Ok1.nilCheck;exact rfl)|(apply Ok1.nilCheckF;exact rfl)))|(apply R.is0;first|fail)|(apply R.isG;first|(apply R.guard_run;exact rfl;exact rfl)|(apply R.guard_not;(iterate 3 exact rfl))|(apply R.guard_not0;exact rfl;exact rfl)|(apply R.guard_un;(iterate 3 exact rfl))|(apply R.guard_un0;exact rfl;exact rfl)|(apply R.guard rfl rfl ?_ (fun h=>⟨rfl,?_⟩)<;>try intro))|apply R.nil|(apply T.is;first|apply T.seq|apply T.region|apply T.block|apply T.scope|apply T.label|apply T.skip|apply T.exit|apply T.ret|(apply T.cond_t;exact rfl)|(apply T.cond_f;exact rfl)|(apply T.cond_h;exact rfl;assumption)|(apply T.cond_n;exact rfl;assumption)|(apply T.cond rfl<;>intro))|apply Rnd.step)
  all_goals (apply RetOk.tt;exact rfl;exact rfl)
  all_goals refine ⟨_,?_,bk3,ov3,rfl,hov3,rfl⟩
  all_goals (focus (repeat' first|exact Keep.nil _|exact Ext.one _ _|exact Ext.here _ _|exact Ext.all _|apply Keep.cons|apply Keep.app|apply Keep.last|apply Ext.cons|apply Ext.app);done)
theorem ltoken_ok (p:Option Addr) (n cap:Nat) (k:List Int) (hn:n=k.length) (hkl:n≤999999000) (hkb:Byt k) (c:Cl) (hr:c.right) (w:World) (hp:RdSl w p u8V k) :
    CallW Try.prog 24 [.slice p n cap,kvC c] w fun v _=>v = .agg ⟨tkC c (secretI k c)⟩:=by
  subst hn
  have hsl:=secret_len k c
  have hmk:=fun bk w1 hk=>make_ok c hr bk k hkl hkb w1 hk
  generalize secretI k c=d at *
  have htl:=tk_len (c:=c) hsl
  have hto:=tk_one c d
  refine enterW (tb:=tb) Try.func24 rfl Try.ntmps24 rfl ?_
  simp only [kvC] at hmk ⊢
  repeat' (first|(apply R.is1;first|(apply R.isBin;first|(apply R.pure;exact rfl;first|(apply Ok1.neq_t;exact rfl;exact rfl;omega)|(apply Ok1.neq_f;exact rfl;exact rfl;omega)|(apply Ok1.neqP;(iterate 5 exact rfl))|(apply Ok1.neqM;(iterate 5 exact rfl))|(apply Ok1.neqS;(iterate 5 exact rfl)))|(apply R.neq rfl rfl rfl<;>intro)|(apply R.neqF;(iterate 8 exact rfl);all_goals intro))|(apply R.isCall;first|(apply R.callE (vs:=[.slice p k.length cap]);(iterate 3 exact rfl);exact Ext.none _;intro w1 hw1;exact new_ok p k.length cap k rfl (by omega) w1 (hp.chg' hw1.chg (fun _=>Off.nil _));rintro v Lo ⟨bk2,ov2,rfl,hov2,_,rfl⟩)|(apply R.callV (vs:=[.pointer (some ⟨bk2,0,none⟩),.agg _]);(iterate 3 exact rfl);intro w1 hw1;exact hmk bk2 w1 (KeyR.of hov2 hw1 (Ext.mem (by (focus (repeat' first|exact Ext.none _|exact Ext.one _ _|exact Ext.here _ _|exact Ext.all _|apply Ext.cons|apply Ext.app|apply Ext.two);done))))))|(apply R.pure;exact rfl;first|(apply Ok1.load;exact rfl;apply Ld.ownk;exact rfl;exact rfl;(focus (repeat' first|exact At.head|apply At.tail|apply At.right);done);exact subE_all htl)|(apply Ok1.move;exact rfl)|(apply Ok1.load;exact rfl;first|(apply Ld.own1;exact rfl;exact rfl;(focus (repeat' first|exact At.head|apply At.tail|apply At.right);done);exact rfl)|(apply Ld.ownk;exact rfl;exact rfl;(focus (repeat' first|exact At.head|apply At.tail|apply At.right);done);exact rfl)|(apply Ld.old1;exact rfl;exact rfl;assumption;(first|exact List.not_mem_nil|assumption))|(apply Ld.blk1;exact rfl;exact rfl;assumption;(first|exact List.not_mem_nil|assumption);exact rfl)|(apply Ld.blkk;exact rfl;exact rfl;assumption;(first|exact List.not_mem_nil|assumption);exact rfl))|(apply Ok1.assign;exact rfl)|(apply Ok1.build;(iterate 5 exact rfl))|(apply Ok1.extract;exact rfl;exact rfl)|(apply Ok1.buildA;(iterate 6 exact rfl)))|(apply R.box;(iterate 3 exact rfl);intro)|(apply R.alloc;(iterate 3 exact rfl);intro))|(apply R.is0;first|(apply R.store;(iterate 4 exact rfl);exact htl;exact hto;(focus (repeat' first|exact Upd.head|apply Upd.tail|apply Upd.right);done);exact setE_all htl)|(apply R.store;(iterate 6 exact rfl);(focus (repeat' first|exact Upd.head|apply Upd.tail|apply Upd.right);done);exact rfl)|fail)|(apply R.isG;first|(apply R.guard_run;exact rfl;exact rfl)|(apply R.guard_not;(iterate 3 exact rfl))|(apply R.guard_not0;exact rfl;exact rfl)|(apply R.guard_un;(iterate 3 exact rfl))|(apply R.guard_un0;exact rfl;exact rfl)|(apply R.guard rfl rfl ?_ (fun h=>⟨rfl,?_⟩)<;>try intro))|apply R.nil|(apply T.is;first|(apply T.drawC (id:=1) [1] (by decide);((apply A.tk 0;exact rfl;kernel_rfl;first|(apply Ok1.move;exact rfl))<;>(apply A.tk 2;exact rfl;kernel_rfl;first|(apply Ok1.load;exact rfl;apply Ld.ownk;exact rfl;exact rfl;(focus (repeat' first|exact At.head|apply At.tail|apply At.right);done);exact subE_all htl)|(apply Ok1.load;exact rfl;first|(apply Ld.own1;exact rfl;exact rfl;(focus (repeat' first|exact At.head|apply At.tail|apply At.right);done);exact rfl)|(apply Ld.ownk;exact rfl;exact rfl;(focus (repeat' first|exact At.head|apply At.tail|apply At.right);done);exact rfl)|(apply Ld.old1;exact rfl;exact rfl;assumption;(first|exact List.not_mem_nil|assumption))|(apply Ld.blk1;exact rfl;exact rfl;assumption;(first|exact List.not_mem_nil|assumption);exact rfl)|(apply Ld.blkk;exact rfl;exact rfl;assumption;(first|exact List.not_mem_nil|assumption);exact rfl)))<;>(apply A.two 1 8;kernel_rfl;exact rfl;exact rfl;rotate_left 1;(focus ((((first|(apply R.alloc;(iterate 3 exact rfl);intro)|fail));apply R.nil;refine ⟨?_,?_⟩;(focus (repeat' first|exact trivial|exact At.head|apply At.tail|apply At.right|refine ⟨?_,?_⟩)))<;>(apply A.one 1;kernel_rfl;exact rfl;((first|(apply R.callE (vs:=[.slice p k.length cap]);(iterate 3 exact rfl);exact Ext.none _;intro w1 hw1;exact new_ok p k.length cap k rfl (by omega) w1 (hp.chg' hw1.chg (fun _=>Off.nil _));rintro v Lo ⟨bk2,ov2,rfl,hov2,_,rfl⟩)|(apply R.callV (vs:=[.pointer (some ⟨bk2,0,none⟩),.agg _]);(iterate 3 exact rfl);intro w1 hw1;exact hmk bk2 w1 (KeyR.of hov2 hw1 (Ext.mem (by (focus (repeat' first|exact Ext.none _|exact Ext.one _ _|exact Ext.here _ _|exact Ext.all _|apply Ext.cons|apply Ext.app|apply Ext.two);done)))))|(apply R.pure;exact rfl;first|(apply Ok1.lenS;(iterate 3 exact rfl))|(apply Ok1.lenStr;(iterate 3 exact rfl))|(apply Ok1.lenMm;(iterate 3 exact rfl);(focus (repeat' first|exact At.head|apply At.tail|apply At.right);done))|(apply Ok1.lenM_nil;(iterate 3 exact rfl))|(apply Ok1.max2;exact rfl;exact rfl)|(apply Ok1.min2;exact rfl;exact rfl))));apply R.nil;refine ⟨?_,?_⟩;(focus (repeat' first|exact trivial|exact At.head|apply At.tail|apply At.right|refine ⟨?_,?_⟩)))<;>(apply A.call 3;exact rfl;exact rfl;kernel_rfl;kernel_rfl;kernel_rfl;exact rfl;exact rfl;first|(exact fun w1 _=>(to5_ok _ _ _ _).w w1))<;>(apply A.one 4;kernel_rfl;exact rfl;((first|(apply R.callE (vs:=[.slice p k.length cap]);(iterate 3 exact rfl);exact Ext.none _;intro w1 hw1;exact new_ok p k.length cap k rfl (by omega) w1 (hp.chg' hw1.chg (fun _=>Off.nil _));rintro v Lo ⟨bk2,ov2,rfl,hov2,_,rfl⟩)|(apply R.callV (vs:=[.pointer (some ⟨bk2,0,none⟩),.agg _]);(iterate 3 exact rfl);intro w1 hw1;exact hmk bk2 w1 (KeyR.of hov2 hw1 (Ext.mem (by (focus (repeat' first|exact Ext.none _|exact Ext.one _ _|exact Ext.here _ _|exact Ext.all _|apply Ext.cons|apply Ext.app|apply Ext.two);done)))))|(apply R.pure;exact rfl;first|(apply Ok1.lenS;(iterate 3 exact rfl))|(apply Ok1.lenStr;(iterate 3 exact rfl))|(apply Ok1.lenMm;(iterate 3 exact rfl);(focus (repeat' first|exact At.head|apply At.tail|apply At.right);done))|(apply Ok1.lenM_nil;(iterate 3 exact rfl))|(apply Ok1.max2;exact rfl;exact rfl)|(apply Ok1.min2;exact rfl;exact rfl))));apply R.nil;refine ⟨?_,?_⟩;(focus (repeat' first|exact trivial|exact At.head|apply At.tail|apply At.right|refine ⟨?_,?_⟩)))<;>(apply A.tk 5;exact rfl;kernel_rfl;first|(apply Ok1.move;exact rfl))<;>(apply A.tk 6;exact rfl;kernel_rfl;first|(apply Ok1.extract;exact rfl;exact rfl))<;>(apply A.tk 7;exact rfl;kernel_rfl;first|(apply Ok1.extract;exact rfl;exact rfl))<;>(apply A.one 9;kernel_rfl;exact rfl;((first|(apply R.store;(iterate 4 exact rfl);exact htl;exact hto;(focus (repeat' first|exact Upd.head|apply Upd.tail|apply Upd.right);done);exact setE_all htl)|(apply R.store;(iterate 6 exact rfl);(focus (repeat' first|exact Upd.head|apply Upd.tail|apply Upd.right);done);exact rfl)|fail));apply R.nil;refine ⟨?_,?_⟩;(focus (repeat' first|exact trivial|exact At.head|apply At.tail|apply At.right|refine ⟨?_,?_⟩)))<;>(apply A.tk 10;exact rfl;kernel_rfl;first|(apply Ok1.assign;exact rfl))<;>(apply A.done;kernel_rfl)));rotate_right 1;(focus ((((first|(apply R.callE (vs:=[.slice p k.length cap]);(iterate 3 exact rfl);exact Ext.none _;intro w1 hw1;exact new_ok p k.length cap k rfl (by omega) w1 (hp.chg' hw1.chg (fun _=>Off.nil _));rintro v Lo ⟨bk2,ov2,rfl,hov2,_,rfl⟩)|(apply R.callV (vs:=[.pointer (some ⟨bk2,0,none⟩),.agg _]);(iterate 3 exact rfl);intro w1 hw1;exact hmk bk2 w1 (KeyR.of hov2 hw1 (Ext.mem (by (focus (repeat' first|exact Ext.none _|exact Ext.one _ _|exact Ext.here _ _|exact Ext.all _|apply Ext.cons|apply Ext.app|apply Ext.two);done)))))|(apply R.pure;exact rfl;first|(apply Ok1.lenS;(iterate 3 exact rfl))|(apply Ok1.lenStr;(iterate 3 exact rfl))|(apply Ok1.lenMm;(iterate 3 exact rfl);(focus (repeat' first|exact At.head|apply At.tail|apply At.right);done))|(apply Ok1.lenM_nil;(iterate 3 exact rfl))|(apply Ok1.max2;exact rfl;exact rfl)|(apply Ok1.min2;exact rfl;exact rfl))));apply R.nil;refine ⟨?_,?_⟩;(focus (repeat' first|exact trivial|exact At.head|apply At.tail|apply At.right|refine ⟨?_,?_⟩)))<;>(apply A.call 3;exact rfl;exact rfl;kernel_rfl;kernel_rfl;kernel_rfl;exact rfl;exact rfl;first|(exact fun w1 _=>(to5_ok _ _ _ _).w w1))<;>(apply A.two 4 8;kernel_rfl;exact rfl;exact rfl;rotate_left 1;(focus ((((first|(apply R.alloc;(iterate 3 exact rfl);intro)|fail));apply R.nil;refine ⟨?_,?_⟩;(focus (repeat' first|exact trivial|exact At.head|apply At.tail|apply At.right|refine ⟨?_,?_⟩)))<;>(apply A.one 4;kernel_rfl;exact rfl;((first|(apply R.callE (vs:=[.slice p k.length cap]);(iterate 3 exact rfl);exact Ext.none _;intro w1 hw1;exact new_ok p k.length cap k rfl (by omega) w1 (hp.chg' hw1.chg (fun _=>Off.nil _));rintro v Lo ⟨bk2,ov2,rfl,hov2,_,rfl⟩)|(apply R.callV (vs:=[.pointer (some ⟨bk2,0,none⟩),.agg _]);(iterate 3 exact rfl);intro w1 hw1;exact hmk bk2 w1 (KeyR.of hov2 hw1 (Ext.mem (by (focus (repeat' first|exact Ext.none _|exact Ext.one _ _|exact Ext.here _ _|exact Ext.all _|apply Ext.cons|apply Ext.app|apply Ext.two);done)))))|(apply R.pure;exact rfl;first|(apply Ok1.lenS;(iterate 3 exact rfl))|(apply Ok1.lenStr;(iterate 3 exact rfl))|(apply Ok1.lenMm;(iterate 3 exact rfl);(focus (repeat' first|exact At.head|apply At.tail|apply At.right);done))|(apply Ok1.lenM_nil;(iterate 3 exact rfl))|(apply Ok1.max2;exact rfl;exact rfl)|(apply Ok1.min2;exact rfl;exact rfl))));apply R.nil;refine ⟨?_,?_⟩;(focus (repeat' first|exact trivial|exact At.head|apply At.tail|apply At.right|refine ⟨?_,?_⟩)))<;>(apply A.tk 5;exact rfl;kernel_rfl;first|(apply Ok1.move;exact rfl))<;>(apply A.tk 6;exact rfl;kernel_rfl;first|(apply Ok1.extract;exact rfl;exact rfl))<;>(apply A.tk 7;exact rfl;kernel_rfl;first|(apply Ok1.extract;exact rfl;exact rfl))<;>(apply A.one 9;kernel_rfl;exact rfl;((first|(apply R.store;(iterate 4 exact rfl);exact htl;exact hto;(focus (repeat' first|exact Upd.head|apply Upd.tail|apply Upd.right);done);exact setE_all htl)|(apply R.store;(iterate 6 exact rfl);(focus (repeat' first|exact Upd.head|apply Upd.tail|apply Upd.right);done);exact rfl)|fail));apply R.nil;refine ⟨?_,?_⟩;(focus (repeat' first|exact trivial|exact At.head|apply At.tail|apply At.right|refine ⟨?_,?_⟩)))<;>(apply A.tk 10;exact rfl;kernel_rfl;first|(apply Ok1.assign;exact rfl))<;>(apply A.done;kernel_rfl)));rotate_right 1;(focus ((((first|(apply R.callE (vs:=[.slice p k.length cap]);(iterate 3 exact rfl);exact Ext.none _;intro w1 hw1;exact new_ok p k.length cap k rfl (by omega) w1 (hp.chg' hw1.chg (fun _=>Off.nil _));rintro v Lo ⟨bk2,ov2,rfl,hov2,_,rfl⟩)|(apply R.callV (vs:=[.pointer (some ⟨bk2,0,none⟩),.agg _]);(iterate 3 exact rfl);intro w1 hw1;exact hmk bk2 w1 (KeyR.of hov2 hw1 (Ext.mem (by (focus (repeat' first|exact Ext.none _|exact Ext.one _ _|exact Ext.here _ _|exact Ext.all _|apply Ext.cons|apply Ext.app|apply Ext.two);done)))))|(apply R.pure;exact rfl;first|(apply Ok1.lenS;(iterate 3 exact rfl))|(apply Ok1.lenStr;(iterate 3 exact rfl))|(apply Ok1.lenMm;(iterate 3 exact rfl);(focus (repeat' first|exact At.head|apply At.tail|apply At.right);done))|(apply Ok1.lenM_nil;(iterate 3 exact rfl))|(apply Ok1.max2;exact rfl;exact rfl)|(apply Ok1.min2;exact rfl;exact rfl))));apply R.nil;refine ⟨?_,?_⟩;(focus (repeat' first|exact trivial|exact At.head|apply At.tail|apply At.right|refine ⟨?_,?_⟩)))<;>(apply A.tk 5;exact rfl;kernel_rfl;first|(apply Ok1.move;exact rfl))<;>(apply A.tk 6;exact rfl;kernel_rfl;first|(apply Ok1.extract;exact rfl;exact rfl))<;>(apply A.tk 7;exact rfl;kernel_rfl;first|(apply Ok1.extract;exact rfl;exact rfl))<;>(apply A.one 8;kernel_rfl;exact rfl;((first|(apply R.alloc;(iterate 3 exact rfl);intro)|fail));apply R.nil;refine ⟨?_,?_⟩;(focus (repeat' first|exact trivial|exact At.head|apply At.tail|apply At.right|refine ⟨?_,?_⟩)))<;>(apply A.one 9;kernel_rfl;exact rfl;((first|(apply R.store;(iterate 4 exact rfl);exact htl;exact hto;(focus (repeat' first|exact Upd.head|apply Upd.tail|apply Upd.right);done);exact setE_all htl)|(apply R.store;(iterate 6 exact rfl);(focus (repeat' first|exact Upd.head|apply Upd.tail|apply Upd.right);done);exact rfl)|fail));apply R.nil;refine ⟨?_,?_⟩;(focus (repeat' first|exact trivial|exact At.head|apply At.tail|apply At.right|refine ⟨?_,?_⟩)))<;>(apply A.tk 10;exact rfl;kernel_rfl;first|(apply Ok1.assign;exact rfl))<;>(apply A.done;kernel_rfl)))))))))|apply T.seq|apply T.region|apply T.block|apply T.scope|apply T.label|apply T.skip|apply T.exit|apply T.ret|(apply T.cond_t;exact rfl)|(apply T.cond_f;exact rfl)|(apply T.cond_h;exact rfl;assumption)|(apply T.cond_n;exact rfl;assumption)|(apply T.cond rfl<;>intro))|apply Rnd.step)
  all_goals apply RetOk.c
  all_goals first|exact rfl|skip
  all_goals first|(apply Ld.ownk;exact rfl;exact rfl;(focus (repeat' first|exact At.head|apply At.tail|apply At.right);done);exact subE_all htl)|exact rfl
end Go.Proofs.Ytijbmkjebidanaa
set_option linter.unusedSimpArgs false
set_option linter.unusedVariables false
set_option linter.unusedSectionVars false
namespace Go.Proofs.Ytijbmkjebidanaa
open Go.RowKit Go.Shelf Go.ChangeShapes Go.WideShapes Go.Deep
/-- A cell of this kind,within its range. -/
def cellW:TK→Value→Prop
  | .int k,.int k' n=>k'=k∧k.min≤n∧n≤k.max
  | .bool,.bool _=>True
  | .string,.string s=>s.size≤maxLen
  | _,_=>False
def allW:List TK→List Value→Prop
  | [],[]=>True
  | k::ks,v::vs=>cellW k v∧allW ks vs
  | _,_=>False
theorem allW_append:∀ {ks ls:List TK} {vs:List Value},allW ks (vs.take ks.length)→allW ls (vs.drop ks.length)→allW (ks++ls) vs
  | [],ls,vs,_,h=>by simpa using h
  | k::ks,ls,[],h,_=>by simp [allW] at h
  | k::ks,ls,v::vs,h,h2=>by
    simp only [List.length_cons,List.take_succ_cons,List.drop_succ_cons,allW] at h h2
    exact ⟨h.1,allW_append h.2 h2⟩

section
variable {H:Type} {enc:TypeId × Value→H} {P:Program} {w:World} {base:Nat} {spare:Nat→Bool} {held:Bool}
theorem cells_of (w:World) {t sz:Nat} (h:∀ w,(Go.sizeOf t).run P w = .ok sz w):P.cellsOf t=sz:=by
  have:=h w
  simp only [Go.sizeOf,typeInfo,Sem.run_bind,Sem.run_pure] at this
  unfold Program.cellsOf
  cases hi:P.info? t with
  | none=>simp [hi] at this
  | some i=>simp [hi] at this;simp [this]
theorem trodFs {g:Nat→Option (List TK)} {n:Nat} {cs:List Value} (hg:∀ t ks us x,g t=some ks→P.cellsOf t=ks.length→DataW.trod enc P w base spare held n t us=some x→allW ks us) :
    ∀ (fields:List Field) (fs:List (Nat × Nat × Nat)) (k:Nat) (ks:List TK),Flds P fields fs→flatFs g fs k=some ks→cs.length=k+ks.length→(∀ f∈fields,∃ x,DataW.trod enc P w base spare held n f.type ((cs.drop f.offset).take (P.cellsOf f.type))=some x)→allW ks (cs.drop k)
  | [],[],k,ks,_,h,hl,_=>by
    simp only [flatFs,Option.some.injEq] at h
    subst h
    rw [List.drop_eq_nil_of_le (by simp at hl;omega)]
    trivial
  | [],_::_,_,_,h,_,_,_=>h.elim
  | _::_,[],_,_,h,_,_,_=>h.elim
  | f :: fields,(t,off,sz)::fs,k,ks,hF,h,hl,hx=>by
    obtain ⟨e1,e2,e3,e4,e5⟩:=hF
    simp only [flatFs] at h
    split at h
    · cases h
    · rename_i hb
      have hb':=Nat.eq_of_beq_eq_true hb
      split at h
      · cases h
      · rename_i k1 hk1
        split at h
        · cases h
        · rename_i hl1
          have hl1':=Nat.eq_of_beq_eq_true hl1
          split at h
          · cases h
          · rename_i k2 hk2
            cases h
            obtain ⟨x,hx1⟩:=hx f List.mem_cons_self
            have hsz:=cells_of w e3
            rw [e1,e2,hsz,hb'] at hx1
            have h1:=hg t k1 _ x hk1 (by rw [hsz,hl1']) hx1
            have h2:=trodFs hg fields fs (k+sz) k2 e5 hk2 (by rw [hl,List.length_append,hl1'];omega) fun f' hf'=>hx f' (List.mem_cons_of_mem _ hf')
            refine allW_append (by rw [hl1'];exact h1) ?_
            rw [List.drop_drop,hl1'];exact h2
theorem allW_rep {k1:List TK}:∀ (m:Nat) (cs:List Value),cs.length=m * k1.length→(∀ i,i < m→allW k1 ((cs.drop (i * k1.length)).take k1.length))→allW (repK k1 m) cs
  | 0,cs,hl,_=>by
    have:cs=[]:=by cases cs;rfl;simp at hl
    subst this;trivial
  | m+1,cs,hl,h=>by
    have h0:=h 0 (by omega)
    simp only [Nat.zero_mul,List.drop_zero] at h0
    rw [Nat.add_mul] at hl
    refine allW_append h0 (allW_rep m _ (by rw [List.length_drop,hl];omega) fun i hi=>?_)
    have:=h (i+1) (by omega)
    rwa [List.drop_drop,show k1.length+i * k1.length=(i+1) * k1.length by rw [Nat.add_mul];omega]
theorem trod_flat (tb:Tb P):∀ (n t:Nat) (ks:List TK),flatE tb n t=some ks→P.cellsOf t=ks.length→∀ fuel cs x,DataW.trod enc P w base spare held fuel t cs=some x→allW ks cs
  | 0,_,_,h,_,_,_,_,_=>by cases h
  | n + 1, t, ks,h,hlen,fuel,cs,x,hx=>by
    simp only [flatE] at h
    split at h
    · cases h
    · rename_i r hr
      have hgd:=tb.get hr
      have his:=hgd.is
      split at h
      · rename_i k hk
        rw [hk] at his
        cases h
        obtain ⟨m,rfl,_,hwf⟩:=DataW.trod_int his hx
        simp only [Lit.wf,Bool.and_eq_true,decide_eq_true_eq] at hwf
        exact ⟨⟨rfl,hwf⟩,trivial⟩
      · rename_i hk
        rw [hk] at his
        cases h
        obtain ⟨b,rfl,_⟩:=DataW.trod_bool his hx
        exact ⟨trivial,trivial⟩
      · rename_i hk
        rw [hk] at his
        cases h
        obtain ⟨s,rfl,_,hs⟩:=DataW.trod_string his hx
        exact ⟨hs,trivial⟩
      · rename_i fs hk
        rw [hk] at his
        obtain ⟨fields,h1,h2⟩:=his
        obtain ⟨xs,m,rfl,_,hcl,hxl,hf⟩:=DataW.trod_struct h1 hx
        have:=trodFs (cs:=cs) (n:=m) (fun t ks us x hg hc ht=>trod_flat tb n t ks hg hc m us x ht) fields.toList fs 0 ks h2 h (by rw [hcl,hlen];omega) fun f hf'=>by
          obtain ⟨i,hi,he⟩:=List.getElem_of_mem hf'
          have h3:fields[i]? = some f:=by rw [← he];simp at hi;simp [hi]
          have h4:=hf i f h3
          simp at hi
          rw [List.getElem?_eq_getElem (by omega)] at h4
          exact ⟨_,h4⟩
        simpa using this
      · rename_i mm e hk
        rw [hk] at his
        split at h
        · cases h
        · rename_i re hre
          split at h
          · cases h
          · rename_i k1 hk1
            split at h
            · cases h
            · rename_i hl1
              have hl1':=Nat.eq_of_beq_eq_true hl1
              cases h
              obtain ⟨xs,m,rfl,_,hcl,hxl,hf⟩:=DataW.trod_array his hx
              have hce:P.cellsOf e=k1.length:=by rw [cells_of w (tb.get hre).size,hl1']
              refine allW_rep mm cs (by rw [hcl,hlen,repK_len]) fun i hi=>?_
              have h4:=hf i hi
              rw [hce,List.getElem?_eq_getElem (by omega)] at h4
              exact trod_flat tb n e k1 hk1 hce m _ _ h4
      · cases h

/-- A slice of plain rows that came in. -/
theorem open_rows {α:Type} [Inhabited α] (f:α→List Value) (tb:Tb P) {t e:TypeId} {r re:TRow} {ks:List TK} {v:Value} {d:DataW H} {p:List MemPlace} (ht:tb.row t=some r) (hk:r.k = .slice e) (he:tb.row e=some re) (hf:flatE tb 8 e=some ks) (hl:Nat.beq ks.length re.size=true) (hpos:Nat.ble 1 ks.length=true)
    (hlen:∀ a,(f a).length=ks.length) (dec:∀ cs,allW ks cs→∃ a,f a=cs)
    {rc:Reach} {b0:Nat} (hv:Value.okWide P w rc b0 t v) (h:DataW.Trod enc P w base spare held t v d p) :
    ∃ (a:Option Addr) (rs:List α) (cap:Nat),v = .slice a rs.length cap∧RdSl w a f rs∧rs.length≤cap∧cap≤maxLen∧(∀ x∈rs,allW ks (f x))∧(a=none→cap=0):=by
  have hu:P.underlying t=some (.slice e):=by have:=(tb.get ht).is;rw [hk] at this;exact this
  obtain ⟨a0,len0,cap0,rfl⟩:=okWide_slice hu hv
  obtain ⟨fuel,hfu⟩:=h
  have hce:P.cellsOf e=ks.length:=by rw [cells_of w (tb.get he).size,Nat.eq_of_beq_eq_true hl]
  rcases open_slice hu hfu with ⟨h0,_⟩|⟨a,len,cap,m,n,D,Pl,hcs,hb,hlc,hm,hmm,hx,hi⟩
  · have:a0=none∧len0=0∧cap0=0:=by simpa [Value.cells] using h0
    obtain ⟨rfl,rfl,rfl⟩:=this
    exact ⟨none,[],0,rfl,.inl rfl,by simp,by simp,by simp,fun _=>rfl⟩
  · have:a0=some a∧len0=len∧cap0=cap:=by simpa [Value.cells] using hcs
    obtain ⟨rfl,rfl,rfl⟩:=this
    have hle:len0≤m:=by rw [hmm];split<;>omega
    obtain ⟨R,hR⟩:=choose_lt (α:=α) (p:=fun i x=>w.cells? base (a.add (i * P.cellsOf e)) (P.cellsOf e)=some (f x)∧allW ks (f x)) (n:=len0) (fun i hi'=>by
      obtain ⟨cs',h1,h2⟩:=hi i (by omega)
      have h3:=trod_flat tb 8 e ks hf hce _ _ _ h2
      obtain ⟨x,hx⟩:=dec cs' h3
      exact ⟨x,by rw [hx];exact h1,by rw [hx];exact h3⟩)
    have hrl:((List.range len0).map R).length=len0:=by simp
    refine ⟨some a,(List.range len0).map R,cap0,by rw [hrl],?_,by rw [hrl];exact hlc,hm,?_,fun h=>by cases h⟩
    · by_cases hz:len0=0
      · left;simp [hz]
      · right
        have hpos':=Nat.le_of_ble_eq_true hpos
        have hspot:a.spot=none:=by
          obtain ⟨_,h2,h3⟩:=World.cells?_some (hR 0 (by omega)).1
          have h4:=h3 0 (by omega)
          rw [List.getElem?_eq_getElem (by omega)] at h4
          unfold World.cell? at h4
          cases a with|mk b o s =>
          cases s with
          | none=>rfl
          | some s => 
            simp only [Addr.add] at h4
            split at h4
            · simp at h4
            · cases h4
        cases a with|mk b o s =>
        simp only at hspot
        subst hspot
        refine ⟨b,o,rfl,fun k hk'=>?_⟩
        rw [fl_len hlen,hrl] at hk'
        have hdm:=Nat.div_add_mod k ks.length
        have hml:=Nat.mod_lt k (show 0 < ks.length by omega)
        have hil:k / ks.length < len0:=by rw [Nat.div_lt_iff_lt_mul (by omega)];exact hk'
        have hgi:((List.range len0).map R)[k / ks.length]? = some (R (k / ks.length)):=by simp [hil]
        have h5:=fl_get hlen hgi hml
        rw [show k / ks.length * ks.length+k % ks.length=k by rw [Nat.mul_comm];exact hdm] at h5
        rw [h5]
        obtain ⟨_,h2,h3⟩:=World.cells?_some (hR _ hil).1
        have h4:=h3 (k % ks.length) (by rw [hce];exact hml)
        rw [Addr.add_none,Addr.add_none,hce] at h4
        rw [← h4,show o+k / ks.length * ks.length+k % ks.length=o+k by rw [Nat.add_assoc,show k / ks.length * ks.length+k % ks.length=k by rw [Nat.mul_comm];exact hdm]]
    · intro x hx'
      obtain ⟨i,hi',rfl⟩:=List.mem_map.1 hx'
      exact (hR i (List.mem_range.1 hi')).2

/-- The arguments read behind the call as before: nothing that was there has changed. -/
theorem trodAll_stays {W W':World} (hl:laidOutB P=true) (hb:Below W.heap.size W W') {sp:Nat→Bool}:∀ {ts:List TypeId} {vs:List Value} {ds:List (DataW H)} {ps:List MemPlace},(∀ t∈ts,P.readableRec t=true∧t < P.types.size) →
    DataW.TrodAll enc P W 0 (fun _=>true) true ts vs ds ps→(∀ p∈ps,p.block < W.heap.size∧sp p.block=true)→DataW.TrodAll enc P W' 0 sp true ts vs ds ps
  | [],vs,ds,ps,_,h,_=>by
    obtain ⟨rfl,rfl,rfl⟩:=trodAll_nil h
    exact trodAll_mk0
  | t :: ts,vs,ds,ps,hr,h,hp=>by
    obtain ⟨v,vs',d,ds',p,q,rfl,rfl,rfl,h1,h2⟩:=trodAll_cons h
    have g:=hr t List.mem_cons_self
    exact ⟨p,q,WideElems.Trod_stays hl g.1 g.2 h1 (fun x hx=>hb.same (hp x (List.mem_append_left _ hx)).1) (fun x hx=>(hp x (List.mem_append_left _ hx)).2),
      trodAll_stays hl hb (fun t' ht'=>hr t' (List.mem_cons_of_mem _ ht')) h2 (fun x hx=>hp x (List.mem_append_right _ hx)),rfl⟩
/-- A statement's last step: it returned true,and nothing that was there has changed. -/
theorem law_post {f:Func} {s:ChangeSpec} {apart fresh handsOn again:Bool} {W W':World} {args:Array Value} {ds gs:List (DataW H)} {before:List MemPlace} {tt:TypeId}
    (hW:DataW.Whole enc P f.params.toList s.vars apart W args.toList ds gs before) (hv:s.vars=[]) (hfn:s.fn H ds={ results:=[.lit (.bool true)],args:=ds,vars:=[] })
    (hrt:f.resultTypes = #[tt]) (htt:P.underlying tt=some .bool) (hl:laidOutB P=true) (hread:∀ t∈f.params.toList,P.readableRec t=true∧t < P.types.size) (hb:Below W.heap.size W W') :
    s.post enc P f apart fresh handsOn again W args (.bool true) W':=by
  have hlt:∀ p∈before,p.block < W.heap.size:=fun p hp=>hW.lt p hp
  obtain ⟨p,q,hA,hV,rfl,hz,hn⟩:=hW
  have hV':=hV
  rw [hv] at hV'
  obtain ⟨rfl,rfl⟩:=trodVars_none hV'
  rw [List.append_nil] at hlt hz hn
  have key:∀ sp:Nat→Bool,(∀ x∈p,sp x.block=true)→DataW.TrodAll enc P W' 0 sp true f.params.toList args.toList ds p:=fun sp hs=>trodAll_stays hl hb hread hA fun x hx=>⟨hlt x hx,hs x hx⟩
  have hres:∀ (b:Nat) (sp:Nat→Bool) (hd:Bool),DataW.TrodAll enc P W' b sp hd f.resultTypes.toList ((Value.bool true).resultList f.resultTypes.size) [.lit (.bool true)] []:=fun b sp hd=>by
    rw [hrt];exact trodAll_mk1 (shut_bool htt true)
  refine ⟨ds,[],p,[],p,[],⟨p,[],hA,hV,by simp,hz,hn⟩,?_,?_,?_,World.keptBut_mono (fun x hx=>⟨hx,.inr (.inl hx)⟩) (hb.frame (· ∈ p)),fun _=>⟨?_,?_⟩⟩
  · rw [List.append_nil,hfn];exact hres _ _ _
  · rw [List.append_nil,hfn];exact key _ fun x hx=>by simpa using hlt x hx
  · rw [List.append_nil,hfn,hv];rfl
  · exact ok_one hrt rfl (okWide_bool_mk htt true)
  · refine ⟨.lit (.bool true)::ds,[],p,⟨p,[],?_,by rw [hv];rfl,by simp,?_,hn⟩,fun x hx _=>hx⟩
    · rw [hrt]
      exact ⟨[],p,shut_bool htt true,key _ fun _ _=>rfl,rfl⟩
    · intro b off hx
      rw [hb.frozen (hlt _ hx)]
      exact hz b off hx
end
end Go.Proofs.Ytijbmkjebidanaa
set_option linter.unusedSimpArgs false
set_option linter.unusedVariables false
namespace Go.Proofs.Ytijbmkjebidanaa
open Go.ChangeShapes Go.WideShapes Go.ChangeAt Go.RowKit
theorem open_flat {α:Type} {P:Program} {H:Type} {enc:TypeId × Value→H} {w:World} {base:Nat} {spare:Nat→Bool} {held:Bool} (f:α→List Value) (tb:Tb P) {t:TypeId} {r:TRow} {fs:List (Nat × Nat × Nat)} {ks:List TK} {v:Value} {d:DataW H} {p:List MemPlace} (ht:tb.row t=some r) (hk:r.k = .strct fs) (hf:flatE tb 8 t=some ks) (hl:Nat.beq ks.length r.size=true)
    (dec:∀ cs,allW ks cs→∃ a,f a=cs) {rc:Reach} {b0:Nat} (hv:Value.okWide P w rc b0 t v) (h:DataW.Trod enc P w base spare held t v d p):∃ a,v = .agg ⟨f a⟩∧allW ks (f a):=by
  have his:=(tb.get ht).is
  rw [hk] at his
  obtain ⟨fields,h1,_⟩:=his
  obtain ⟨cs,rfl,_⟩:=okWide_struct h1 hv
  obtain ⟨fuel,hfu⟩:=h
  have hce:P.cellsOf t=ks.length:=by rw [cells_of w (tb.get ht).size,Nat.eq_of_beq_eq_true hl]
  have h3:=trod_flat tb 8 t ks hf hce _ _ _ hfu
  obtain ⟨a,ha⟩:=dec _ h3
  refine ⟨a,?_,by rw [ha];exact h3⟩
  rw [ha]
  cases cs
  rfl

set_option linter.unusedSectionVars false
open Go.Shelf Go.Deep
section
variable {H:Type} {enc:TypeId × Value→H} {P:Program} {w:World} {base:Nat} {spare:Nat→Bool} {held:Bool}
/-- What a type's cells may be,once they have been trodden. -/
def Opens (enc:TypeId × Value→H) (P:Program) (w:World) (base:Nat) (spare:Nat→Bool) (held:Bool) (t:TypeId) (Q:List Value→Prop):Prop:=∀ fuel cs x,DataW.trod enc P w base spare held fuel t cs=some x→Q cs
theorem Opens.flat (tb:Tb P) {t:TypeId} {r:TRow} {ks:List TK} (ht:tb.row t=some r) (hf:flatE tb 8 t=some ks) (hl:Nat.beq ks.length r.size=true):Opens enc P w base spare held t (allW ks) :=
  fun fuel cs x h=>trod_flat tb 8 t ks hf (by rw [cells_of w (tb.get ht).size,Nat.eq_of_beq_eq_true hl]) fuel cs x h
/-- One field of a struct. -/
theorem Opens.field (tb:Tb P) {t ft off sz:Nat} {r:TRow} {fs:List (Nat × Nat × Nat)} {Q:List Value→Prop} (ht:tb.row t=some r) (hk:r.k = .strct fs) (i:Nat) (hi:fldE fs i=some (ft,off,sz)) (hQ:Opens enc P w base spare held ft Q) :
    Opens enc P w base spare held t fun cs=>cs.length=r.size∧Q ((cs.drop off).take sz):=by
  intro fuel cs x hx
  have his:=(tb.get ht).is
  rw [hk] at his
  obtain ⟨fields,h1,h2⟩:=his
  obtain ⟨xs,m,rfl,_,hcl,hxl,hf⟩:=DataW.trod_struct h1 hx
  obtain ⟨f,g1,g2,g3,g4,_⟩:=Flds.get h2 hi
  have g1':fields[i]? = some f:=by rw [← g1];simp
  have h4:=hf i f g1'
  have hlt:i < xs.length:=by rw [hxl];exact (Array.getElem?_eq_some_iff.1 g1').1
  rw [List.getElem?_eq_getElem hlt,g2,g3,cells_of w g4] at h4
  exact ⟨by rw [hcl,cells_of w (tb.get ht).size],hQ _ _ _ h4⟩
theorem Opens.and {t:TypeId} {Q R:List Value→Prop} (h:Opens enc P w base spare held t Q) (h2:Opens enc P w base spare held t R):Opens enc P w base spare held t fun cs=>Q cs∧R cs:=fun f cs x hx=>⟨h f cs x hx,h2 f cs x hx⟩
theorem Opens.mono {t:TypeId} {Q R:List Value→Prop} (h:Opens enc P w base spare held t Q) (h2:∀ cs,Q cs→R cs):Opens enc P w base spare held t R:=fun f cs x hx=>h2 _ (h f cs x hx)
/-- A slice whose elements open. -/
theorem Opens.slice {α:Type} [Inhabited α] (f:α→List Value) (Q:α→Prop) (tb:Tb P) {t e:TypeId} {r re:TRow} (ht:tb.row t=some r) (hk:r.k = .slice e) (he:tb.row e=some re) (hpos:Nat.ble 1 re.size=true)
    (hlen:∀ a,(f a).length=re.size) (hE:Opens enc P w base spare held e fun cs=>∃ a,f a=cs∧Q a) :
    Opens enc P w base spare held t fun cs=>∃ (a:Option Addr) (rs:List α) (cap:Nat),cs=[.slice a rs.length cap]∧RdSl w a f rs∧rs.length≤cap∧cap≤maxLen∧(∀ x∈rs,Q x)∧(a=none→cap=0):=by
  intro fuel cs x hfu
  have hu:P.underlying t=some (.slice e):=by have:=(tb.get ht).is;rw [hk] at this;exact this
  have hce:P.cellsOf e=re.size:=cells_of w (tb.get he).size
  rcases open_slice hu hfu with ⟨h0,_⟩|⟨a,len,cap,m,n,D,Pl,hcs,hb,hlc,hm,hmm,hx,hi⟩
  · exact ⟨none,[],0,h0,.inl rfl,by simp,by simp,by simp,fun _=>rfl⟩
  · have hle:len≤m:=by rw [hmm];split<;>omega
    obtain ⟨R,hR⟩:=choose_lt (α:=α) (p:=fun i x=>w.cells? base (a.add (i * P.cellsOf e)) (P.cellsOf e)=some (f x)∧Q x) (n:=len) (fun i hi'=>by
      obtain ⟨cs',h1,h2⟩:=hi i (by omega)
      obtain ⟨x,hx,hq⟩:=hE _ _ _ h2
      exact ⟨x,by rw [hx];exact h1,hq⟩)
    have hrl:((List.range len).map R).length=len:=by simp
    refine ⟨some a,(List.range len).map R,cap,by rw [hrl];exact hcs,?_,by rw [hrl];exact hlc,hm,?_,fun h=>by cases h⟩
    · by_cases hz:len=0
      · left;simp [hz]
      · right
        have hpos':=Nat.le_of_ble_eq_true hpos
        have hspot:a.spot=none:=by
          obtain ⟨_,h2,h3⟩:=World.cells?_some (hR 0 (by omega)).1
          have h4:=h3 0 (by omega)
          rw [List.getElem?_eq_getElem (by omega)] at h4
          unfold World.cell? at h4
          cases a with|mk b o s =>
          cases s with
          | none=>rfl
          | some s =>
            simp only [Addr.add] at h4
            split at h4
            · simp at h4
            · cases h4
        cases a with|mk b o s =>
        simp only at hspot
        subst hspot
        refine ⟨b,o,rfl,fun k hk'=>?_⟩
        rw [fl_len hlen,hrl] at hk'
        have hdm:=Nat.div_add_mod k re.size
        have hml:=Nat.mod_lt k (show 0 < re.size by omega)
        have hil:k / re.size < len:=by rw [Nat.div_lt_iff_lt_mul (by omega)];exact hk'
        have hgi:((List.range len).map R)[k / re.size]? = some (R (k / re.size)):=by simp [hil]
        have h5:=fl_get hlen hgi hml
        rw [show k / re.size * re.size+k % re.size=k by rw [Nat.mul_comm];exact hdm] at h5
        rw [h5]
        obtain ⟨_,h2,h3⟩:=World.cells?_some (hR _ hil).1
        have h4:=h3 (k % re.size) (by rw [hce];exact hml)
        rw [Addr.add_none,Addr.add_none,hce] at h4
        rw [← h4,show o+k / re.size * re.size+k % re.size=o+k by rw [Nat.add_assoc,show k / re.size * re.size+k % re.size=k by rw [Nat.mul_comm];exact hdm]]
    · intro x hx'
      obtain ⟨i,hi',rfl⟩:=List.mem_map.1 hx'
      exact (hR i (List.mem_range.1 hi')).2
/-- An argument that opens. -/
theorem Opens.arg {t:TypeId} {Q:List Value→Prop} (hE:Opens enc P w base spare held t Q) {v:Value} {d:DataW H} {p:List MemPlace} (h:DataW.Trod enc P w base spare held t v d p):Q v.cells.toList:=by
  obtain ⟨fuel,hfu⟩:=h
  exact hE _ _ _ hfu
/-- A slice that came in. -/
theorem Opens.argSl {α:Type} {R:Option Addr→List α→Nat→Prop} (tb:Tb P) {t e:TypeId} {r:TRow} (ht:tb.row t=some r) (hk:r.k = .slice e) {v:Value} {d:DataW H} {p:List MemPlace} {rc:Reach} {b0:Nat} (hv:Value.okWide P w rc b0 t v)
    (hE:Opens enc P w base spare held t fun cs=>∃ (a:Option Addr) (rs:List α) (cap:Nat),cs=[.slice a rs.length cap]∧R a rs cap) (h:DataW.Trod enc P w base spare held t v d p):∃ (a:Option Addr) (rs:List α) (cap:Nat),v = .slice a rs.length cap∧R a rs cap:=by
  have hu:P.underlying t=some (.slice e):=by have:=(tb.get ht).is;rw [hk] at this;exact this
  obtain ⟨a0,len0,cap0,rfl⟩:=okWide_slice hu hv
  obtain ⟨a,rs,cap,h1,h2⟩:=hE.arg h
  simp only [Value.cells,List.cons.injEq,Value.slice.injEq,and_true] at h1
  obtain ⟨rfl,rfl,rfl⟩:=h1
  exact ⟨_,_,_,rfl,h2⟩
end
section
variable {H:Type} {enc:TypeId × Value→H} {P:Program} {w:World} {base:Nat} {spare:Nat→Bool} {held:Bool}
end
end Go.Proofs.Ytijbmkjebidanaa
set_option linter.unusedSimpArgs false
set_option linter.unusedVariables false
namespace Go.Proofs.Ytijbmkjebidanaa
open Go.ChangeShapes Go.WideShapes Go.ChangeAt Go.RowKit
theorem Try.own:ownKnob Try.prog.godebug=none:=by kernel_rfl
theorem Try.laidOut:laidOutB Try.prog=true:=by kernel_rfl
def clKs:List TK:=[.int .i64,.int .i64,.int .i64,.int .i64]
theorem cl_dec:∀ cs,allW clKs cs→∃ c:Cl,c.v=cs:=by
  rintro cs h
  simp only [clKs] at h
  match cs,h with
  | [.int k1 a,.int k2 b,.int k3 c,.int k4 d],h =>
    obtain ⟨⟨rfl,_⟩,⟨rfl,_⟩,⟨rfl,_⟩,⟨rfl,_⟩,_⟩:=h
    exact ⟨⟨a,b,c,d⟩,rfl⟩
def byKs:List TK:=[.int .u8]
theorem by_dec:∀ cs,allW byKs cs→∃ x:Int,u8V x=cs:=by
  rintro cs h
  simp only [byKs] at h
  match cs,h with
  | [.int k1 a],h =>
    obtain ⟨⟨rfl,_⟩,_⟩:=h
    exact ⟨a,rfl⟩
theorem byt_of {xs:List Int} (h:∀ x∈xs,allW byKs (u8V x)):Byt xs:=by
  intro x hx
  obtain ⟨⟨_,h2⟩,_⟩:=h x hx
  have e0:IntKind.u8.min=0:=rfl
  have e1:IntKind.u8.max=255:=rfl
  omega
theorem trodAll_five {H:Type} {enc:TypeId × Value→H} {P:Program} {w:World} {base:Nat} {spare:Nat→Bool} {held:Bool} {t t' t'' t3 t4:TypeId} {args:Array Value} {ds:List (DataW H)} {ps:List MemPlace} (h:DataW.TrodAll enc P w base spare held [t,t',t'',t3,t4] args.toList ds ps) :
    ∃ v v' v'' v3 v4 d d' d'' d3 d4 p p' p'' p3 p4,args = #[v,v',v'',v3,v4]∧ds=[d,d',d'',d3,d4]∧ps=p++p'++p''++p3++p4∧DataW.Trod enc P w base spare held t v d p∧DataW.Trod enc P w base spare held t' v' d' p' ∧ DataW.Trod enc P w base spare held t'' v'' d'' p'' ∧ DataW.Trod enc P w base spare held t3 v3 d3 p3∧DataW.Trod enc P w base spare held t4 v4 d4 p4:=by
  obtain ⟨v,vs,d,ds',p,q,hargs,rfl,rfl,hd,hrest⟩:=trodAll_cons h
  obtain ⟨v',vs',d',ds'',p',q',rfl,rfl,rfl,hd',hrest'⟩:=trodAll_cons hrest
  obtain ⟨v'',vs'',d'',ds''',p'',q'',rfl,rfl,rfl,hd'',hrest''⟩:=trodAll_cons hrest'
  obtain ⟨v3,vs3,d3,ds3,p3,q3,rfl,rfl,rfl,hd3,hrest3⟩:=trodAll_cons hrest''
  obtain ⟨v4,vs4,d4,ds4,p4,q4,rfl,rfl,rfl,hd4,hrest4⟩:=trodAll_cons hrest3
  obtain ⟨rfl,rfl,rfl⟩:=trodAll_nil hrest4
  exact ⟨v,v',v'',v3,v4,d,d',d'',d3,d4,p,p',p'',p3,p4,by cases args;simp_all,rfl,by simp,hd,hd',hd'',hd3,hd4⟩
end Go.Proofs.Ytijbmkjebidanaa
set_option linter.unusedSimpArgs false
set_option linter.unusedVariables false
namespace Go.Proofs.Ytijbmkjebidanaa
open Go.RowKit Go.Shelf
set_option maxRecDepth 100000
def k0:List Int:=[48,49,50,51,52,53,54,55,56,57,97,98,99,100,101,102]
def c5:Cl:=⟨5,0,0,1⟩
theorem known_ok:CallP Try.prog 46 [] (.bool true):=by
  have hkb:Byt k0:=by intro x hx;simp only [k0,List.mem_cons,List.not_mem_nil,or_false] at hx;omega
  have hkl:k0.length=16:=rfl
  have hr:c5.right:=by decide
  have hsl:=secret_len k0 c5
  have hsb:=secret_byt k0 c5
  have hmk:=fun bk w1 hk=>make_ok c5 hr bk k0 (by decide) hkb w1 hk
  have hgr:=fun bk w1 hk=>grant_ok bk k0 (by decide) hkb c5 hr 9 (by decide) (by decide) w1 hk
  have hcell:u8s k0++[]=[.int .u8 48,.int .u8 49,.int .u8 50,.int .u8 51,.int .u8 52,.int .u8 53,.int .u8 54,.int .u8 55,.int .u8 56,.int .u8 57,.int .u8 97,.int .u8 98,.int .u8 99,.int .u8 100,.int .u8 101,.int .u8 102]:=rfl
  generalize hd:secretI k0 c5=d at *
  have hx:senderI d 9=senderI d 9:=rfl
  have hxl:(senderI d 9).length=32:=derive_len _ _ _
  have hxb:Byt (senderI d 9):=derive_byt _ _ _
  have hsd:=fun bk w1 hk=>sender_ok bk d (by rw [hsl];decide) hsb 9 (by decide) (by decide) w1 hk
  generalize senderI d 9=x at *
  have htl:=tk_len (c:=c5) hsl
  have hto:=tk_one c5 d
  refine enterP (tb:=tb) Try.func46 rfl Try.ntmps46 rfl fun w0=>?_
  repeat' (first|(apply R.is1;first|(apply R.convSame;(iterate 6 exact rfl);(focus (repeat' first|exact Upd.head|apply Upd.tail|apply Upd.right);done))|(apply R.isBin;first|(apply R.pure;exact rfl;first|(apply Ok1.eql_t;exact rfl;exact rfl;omega)|(apply Ok1.eql_f;exact rfl;exact rfl;omega)|(apply Ok1.eqlP;(iterate 5 exact rfl))|(apply Ok1.eqlM;(iterate 5 exact rfl))|(apply Ok1.eqlS;(iterate 5 exact rfl)))|(apply R.eql rfl rfl rfl<;>intro)|(apply R.eqlF;(iterate 8 exact rfl);all_goals intro))|(apply R.isCall;first|(apply R.callE (vs:=[.slice (some ⟨_,0,none⟩) 16 16]);(iterate 3 exact rfl);exact Ext.none _;intro w1 hw1;exact new_ok (some ⟨_,0,none⟩) 16 16 k0 hkl.symm (by decide) w1 (RdSl.of (junk:=[]) hw1 (by (focus (repeat' first|exact At.head|apply At.tail|apply At.right);done)) (by rw [fl_u8];exact hcell.symm));rintro v Lo ⟨bk,ov,rfl,hov,_,rfl⟩)|(apply R.callV (vs:=[.pointer (some ⟨bk,0,none⟩),.agg _]);(iterate 3 exact rfl);intro w1 hw1;exact hmk bk w1 (KeyR.of hov hw1 (Ext.mem (by (focus (repeat' first|exact Ext.none _|exact Ext.one _ _|exact Ext.here _ _|exact Ext.all _|apply Ext.cons|apply Ext.app|apply Ext.two);done)))))|(apply R.callE (vs:=[.agg ⟨tkC c5 d⟩]);(iterate 3 exact rfl);exact Ext.none _;intro w1 hw1;exact key_ok c5 d hsl w1;rintro v Lo ⟨bk2,ov2,rfl,hov2,rfl⟩)|(apply R.callE (vs:=[.pointer (some ⟨bk2,0,none⟩),.int .i64 9]);(iterate 3 exact rfl);exact Ext.none _;intro w1 hw1;exact hsd bk2 w1 (KeyR.of (by rw [hsl];exact hov2) hw1 (Ext.mem (by (focus (repeat' first|exact Ext.none _|exact Ext.one _ _|exact Ext.here _ _|exact Ext.all _|apply Ext.cons|apply Ext.app|apply Ext.two);done))));rintro v Lo ⟨bk3,ov3,rfl,hov3,rfl⟩)|(apply R.callE (vs:=[.pointer (some ⟨bk,0,none⟩),.agg _,.int .i64 9]);(iterate 3 exact rfl);exact Ext.none _;intro w1 hw1;exact hgr bk w1 (KeyR.of hov hw1 (Ext.mem (by (focus (repeat' first|exact Ext.none _|exact Ext.one _ _|exact Ext.here _ _|exact Ext.all _|apply Ext.cons|apply Ext.app|apply Ext.two);done))));rintro v Lo ⟨bk4,ov4,rfl,hov4,rfl⟩)|(apply R.callE (vs:=[.pointer (some ⟨bk3,0,none⟩)]);(iterate 3 exact rfl);exact Ext.none _;intro w1 hw1;exact bytes_ok bk3 x (by rw [hxl];decide) w1 (KeyR.of (by rw [hxl];exact hov3) hw1 (Ext.mem (by (focus (repeat' first|exact Ext.none _|exact Ext.one _ _|exact Ext.here _ _|exact Ext.all _|apply Ext.cons|apply Ext.app|apply Ext.two);done))));rw [hxl];rintro v Lo ⟨ov5,hov5,rfl,rfl⟩;rw [slV_eq hov5])|(apply R.callE (vs:=[.pointer (some ⟨bk4,0,none⟩)]);(iterate 3 exact rfl);exact Ext.none _;intro w1 hw1;exact bytes_ok bk4 x (by rw [hxl];decide) w1 (KeyR.of (by rw [hxl];exact hov4) hw1 (Ext.mem (by (focus (repeat' first|exact Ext.none _|exact Ext.one _ _|exact Ext.here _ _|exact Ext.all _|apply Ext.cons|apply Ext.app|apply Ext.two);done))));rw [hxl];rintro v Lo ⟨ov6,hov6,rfl,rfl⟩;rw [slV_eq hov6])|(apply R.callV (vs:=[.slice (ovp ov5) 32 (ovc ov5 32),.slice (ovp ov6) 32 (ovc ov6 32)]);(iterate 3 exact rfl);intro w1 hw1;exact equal_ok (ovp ov5) (ovp ov6) 32 _ _ x hxl.symm (by decide) hxb w1 (rdown (by rw [hxl];exact hov5) hw1 (Ext.mem (by (focus (repeat' first|exact Ext.none _|exact Ext.one _ _|exact Ext.here _ _|exact Ext.all _|apply Ext.cons|apply Ext.app|apply Ext.two);done)))) (rdown (by rw [hxl];exact hov6) hw1 (Ext.mem (by (focus (repeat' first|exact Ext.none _|exact Ext.one _ _|exact Ext.here _ _|exact Ext.all _|apply Ext.cons|apply Ext.app|apply Ext.two);done))))))|(apply R.pure;exact rfl;first|(apply Ok1.load;exact rfl;(apply Ld.ownk;exact rfl;exact rfl;(focus (repeat' first|exact At.head|apply At.tail|apply At.right);done);exact subE_all htl))|(apply Ok1.move;exact rfl)|(apply Ok1.load;exact rfl;first|(apply Ld.own1;exact rfl;exact rfl;(focus (repeat' first|exact At.head|apply At.tail|apply At.right);done);exact rfl)|(apply Ld.ownk;exact rfl;exact rfl;(focus (repeat' first|exact At.head|apply At.tail|apply At.right);done);exact rfl)|(apply Ld.old1;exact rfl;exact rfl;assumption;(first|exact List.not_mem_nil|assumption))|(apply Ld.blk1;exact rfl;exact rfl;assumption;(first|exact List.not_mem_nil|assumption);exact rfl)|(apply Ld.blkk;exact rfl;exact rfl;assumption;(first|exact List.not_mem_nil|assumption);exact rfl))|(apply Ok1.assign;exact rfl)|(apply Ok1.build;(iterate 5 exact rfl))|(apply Ok1.extract;exact rfl;exact rfl)|(apply Ok1.pick_t;exact rfl;exact rfl)|(apply Ok1.pick_f;exact rfl;exact rfl)|(apply Ok1.pick_h;exact rfl;assumption;exact rfl)|(apply Ok1.pick_n;exact rfl;assumption;exact rfl)|(apply Ok1.buildA;(iterate 6 exact rfl))|(apply Ok1.convI64;(iterate 5 exact rfl);omega;omega)|(apply Ok1.convU64;(iterate 5 exact rfl);omega;omega)|(apply Ok1.convU32;(iterate 5 exact rfl);omega;omega)|(apply Ok1.convU8;(iterate 5 exact rfl);omega;omega)|(apply Ok1.conv;(iterate 5 exact rfl)))|(apply R.alloc;(iterate 3 exact rfl);intro)|(apply R.buildSlice;(iterate 12 exact rfl);intro))|(apply R.is0;first|(apply R.store;(iterate 4 exact rfl);exact htl;exact hto;(focus (repeat' first|exact Upd.head|apply Upd.tail|apply Upd.right);done);exact setE_all htl)|(apply R.store;(iterate 6 exact rfl);(focus (repeat' first|exact Upd.head|apply Upd.tail|apply Upd.right);done);exact rfl)|fail)|(apply R.isG;first|(apply R.guard_run;exact rfl;exact rfl)|(apply R.guard_not;(iterate 3 exact rfl))|(apply R.guard_not0;exact rfl;exact rfl)|(apply R.guard_un;(iterate 3 exact rfl))|(apply R.guard_un0;exact rfl;exact rfl)|(apply R.guard rfl rfl ?_ (fun h=>⟨rfl,?_⟩)<;>try intro))|apply R.nil|(apply T.is;first|apply T.seq|apply T.region|apply T.block|apply T.scope|apply T.label|apply T.skip|apply T.exit|apply T.ret|(apply T.cond_t;exact rfl)|(apply T.cond_f;exact rfl)|(apply T.cond_h;exact rfl;assumption)|(apply T.cond_n;exact rfl;assumption)|(apply T.cond rfl<;>intro))|apply Rnd.step)
  all_goals (apply RetOk.t;exact rfl)
  all_goals rfl
set_option linter.unusedSectionVars false
section
variable {X:Cx} {σ:Env} {L:Lst} {ty:TypeId} {pos:String} {af:Array Edge} {d:Option Nat} {g:Option (Nat × Bool)} {x:Operand} {κ α:Type} {kv:κ→Value} {vv:α→Value} {ms:Ms κ α} {clk b c:Nat}
theorem find_born {ms:Ms κ α} {e:κ × α × Nat} (he:e∈ms) (hnd:(ms.map (·.2.2)).Nodup):(Array.mk (ms.map fun x=>(⟨kv x.1,vv x.2.1,x.2.2⟩:MapEntry))).find? (fun y=>y.born == e.2.2)=some ⟨kv e.1,vv e.2.1,e.2.2⟩:=by
  rw [List.find?_toArray]
  induction ms with
  | nil=>cases he
  | cons m ms ih =>
    simp only [List.map_cons,List.nodup_cons] at hnd
    simp only [List.map_cons,List.find?_cons]
    rcases List.mem_cons.1 he with rfl|he
    · simp
    · have:m.2.2≠e.2.2:=fun h=>hnd.1 (h ▸ List.mem_map.2 ⟨e,he,rfl⟩)
      simp only [beq_eq_false_iff_ne.2 this]
      exact ih he hnd.2
theorem Ok1.entry {e:κ × α × Nat} {seen:List Nat} (hx:ev σ x=some (.pointer (some ⟨c,0,none⟩))) (hit:At L c (.mapIter (some b) clk ⟨seen++[e.2.2]⟩ clk)) (hat:At L b (mobj kv vv ms clk)) (he:e∈ms) (hnd:(ms.map (·.2.2)).Nodup) :
    Ok1 X ⟨d,.entry x,ty,pos,af,g⟩ σ L (.tuple ⟨[kv e.1,vv e.2.1]⟩):=.mk fun a w ha hw=>by
  have hb:=hw.get _ _ hat.mem
  have hc:=hw.get _ _ hit.mem
  have g1:(getObj c).run X.P w = .ok (.mapIter (some b) clk ⟨seen++[e.2.2]⟩ clk) w:=by simp only [getObj,Sem.run,hc]
  have g2:(getObj b).run X.P w = .ok (mobj kv vv ms clk) w:=by simp only [getObj,Sem.run,hb];rfl
  have hback:(Array.mk (seen++[e.2.2])).back? = some e.2.2:=by simp
  have hf:=find_born (kv:=kv) (vv:=vv) he hnd
  simp only [execOp,ha.ev hx,Instr.entry,Sem.run_bind,g1,Result.andThen_ok,hback,g2,mobj,bne_self_eq_false,Bool.false_eq_true,if_false,hf,Sem.run_pure]
end
theorem nodup_map_born {κ α:Type} {l:Ms κ α} (h:(l.map (·.2.2)).Nodup):l.Nodup:=by
  induction l with
  | nil=>simp
  | cons m l ih =>
    simp only [List.map_cons,List.nodup_cons] at h ⊢
    exact ⟨fun hm=>h.1 (List.mem_map.2 ⟨m,hm,rfl⟩),ih h.2⟩
theorem nodup_sub_len {β:Type} [DecidableEq β]:∀ {l m:List β},l.Nodup→(∀ x∈l,x∈m)→l.length≤m.length
  | [],_,_,_=>Nat.zero_le _
  | a :: l,m,h,hs=>by
    rw [List.nodup_cons] at h
    have h1:=hs a List.mem_cons_self
    have h2:l.length≤(m.erase a).length:=nodup_sub_len h.2 fun x hx=>by
      have hne:x≠a:=fun e=>h.1 (e ▸ hx)
      exact (List.mem_erase_of_ne hne).2 (hs x (List.mem_cons_of_mem _ hx))
    rw [List.length_erase_of_mem h1] at h2
    have:0 < m.length:=List.length_pos_of_mem h1
    simp only [List.length_cons]
    omega
/-- Which entries have been met. -/
structure Met {κ α:Type} (ms vis:Ms κ α):Prop where
  nd:(vis.map (·.2.2)).Nodup
  sub:∀ e∈vis,e∈ms
theorem Met.start {κ α:Type} (ms:Ms κ α):Met ms []:=⟨by simp,by simp⟩
theorem Met.step {κ α:Type} {ms vis:Ms κ α} (h:Met ms vis) {e:κ × α × Nat} (he:e∈ms) (hn:e.2.2 ∉ vis.map (·.2.2)):Met ms (vis++[e]):=by
  refine ⟨?_,?_⟩
  · rw [List.map_append,List.nodup_append]
    refine ⟨h.nd,by simp,?_⟩
    intro a ha b hb e'
    simp only [List.map_cons,List.map_nil,List.mem_singleton] at hb
    subst hb;subst e'
    exact hn ha
  · intro x hx
    rcases List.mem_append.1 hx with hx|hx
    · exact h.sub x hx
    · rw [List.mem_singleton.1 hx];exact he
theorem Met.perm {κ α:Type} {ms vis:Ms κ α} (h:Met ms vis) (hnd:(ms.map (·.2.2)).Nodup) (hall:∀ e∈ms,e.2.2∈vis.map (·.2.2)):vis.Perm ms:=by
  classical
  have nv:vis.Nodup:=nodup_map_born h.nd
  have nm:ms.Nodup:=nodup_map_born hnd
  refine (List.perm_ext_iff_of_nodup nv nm).2 fun e=>⟨h.sub e,fun he=>?_⟩
  obtain ⟨e',h1,h2⟩:=List.mem_map.1 (hall e he)
  have h3:=h.sub e' h1
  have:e'=e:=by
    have inj:∀ (ms:Ms κ α),(ms.map (·.2.2)).Nodup→e'∈ms→e∈ms→e'.2.2=e.2.2→e'=e:=by
      intro ms
      induction ms with
      | nil=>intro _ h;cases h
      | cons m ms ih =>
        intro hn h1 h2 h3
        simp only [List.map_cons,List.nodup_cons] at hn
        rcases List.mem_cons.1 h1 with a1|a1
        · rcases List.mem_cons.1 h2 with a2|a2
          · rw [a1,a2]
          · exact (hn.1 (a1 ▸ h3 ▸ List.mem_map.2 ⟨e,a2,rfl⟩)).elim
        · rcases List.mem_cons.1 h2 with a2|a2
          · exact (hn.1 (a2 ▸ h3 ▸ List.mem_map.2 ⟨e',a1,rfl⟩)).elim
          · exact ih hn.2 a1 a2 h3
    exact inj ms hnd h3 he h2
  exact this ▸ h1
theorem Met.le {κ α:Type} {ms vis:Ms κ α} (h:Met ms vis) (hnd:(ms.map (·.2.2)).Nodup) {e:κ × α × Nat} (he:e∈ms) (hn:e.2.2 ∉ vis.map (·.2.2)):vis.length < ms.length:=by
  have h2:=h.step he hn
  have h1:((vis++[e]).map (·.2.2)).length≤(ms.map (·.2.2)).length:=nodup_sub_len h2.nd fun x hx=>by
    obtain ⟨y,hy,rfl⟩:=List.mem_map.1 hx
    exact List.mem_map.2 ⟨y,h2.sub y hy,rfl⟩
  simp only [List.length_map,List.length_append,List.length_cons,List.length_nil] at h1
  omega
end Go.Proofs.Ytijbmkjebidanaa
set_option linter.unusedSimpArgs false
set_option linter.unusedVariables false
set_option linter.unusedSectionVars false
namespace Go.Proofs.Ytijbmkjebidanaa
section
variable {κ α:Type} [DecidableEq κ]
def mkeys (ms:Ms κ α):List κ:=ms.map (·.1)
theorem mget_none {k:κ}:∀ {ms:Ms κ α},mget k ms=none ↔ k ∉ mkeys ms
  | []=>by simp [mget,mkeys]
  | x :: r=>by
    have ih:=mget_none (k:=k) (ms:=r)
    by_cases h:x.1=k
    · simp [mget,mkeys,h]
    · simp only [mget,h,if_false,ih,mkeys,List.map_cons,List.mem_cons,not_or]
      exact ⟨fun h'=>⟨fun e=>h e.symm,h'⟩,fun h'=>h'.2⟩
theorem mget_mset {k:κ} {a o:α} (c:κ):∀ {ms:Ms κ α},mget k ms=some o→mget c (mset k a ms)=if k=c then some a else mget c ms
  | [],h=>by simp [mget] at h
  | x :: r,h=>by
    by_cases hk:x.1=k
    · simp only [mset,hk,if_true,mget]
      split<;>rfl
    · simp only [mget,hk,if_false] at h
      have ih:=mget_mset c h (a:=a)
      simp only [mset,hk,if_false,mget,ih]
      by_cases hc:x.1=c
      · rw [if_pos hc,if_pos hc,if_neg (fun e=>hk (by rw [hc,← e]))]
      · rw [if_neg hc,if_neg hc]
theorem mget_snoc {k:κ} {a:α} {b:Nat} (c:κ):∀ {ms:Ms κ α},mget k ms=none→mget c (ms++[(k,a,b)])=if k=c then some a else mget c ms
  | [],_=>by simp [mget]
  | x :: r,h=>by
    by_cases hk:x.1=k
    · simp [mget,hk] at h
    · simp only [mget,hk,if_false] at h
      have ih:=mget_snoc c h (a:=a) (b:=b)
      simp only [List.cons_append,mget,ih]
      by_cases hc:x.1=c
      · rw [if_pos hc,if_pos hc,if_neg (fun e=>hk (by rw [hc,← e]))]
      · rw [if_neg hc,if_neg hc]
theorem mdel_sub (k:κ):∀ (ms:Ms κ α),(mdel k ms).Sublist ms
  | []=>.slnil
  | x::r=>by
    by_cases hk:x.1=k
    · simp only [mdel,hk,if_true];exact List.sublist_cons_self _ _
    · simp only [mdel,hk,if_false];exact (mdel_sub k r).cons_cons _
theorem mget_mdel {k:κ} (c:κ):∀ {ms:Ms κ α},(mkeys ms).Nodup→mget c (mdel k ms)=if k=c then none else mget c ms
  | [],_=>by simp [mdel,mget]
  | x :: r,hn=>by
    simp only [mkeys,List.map_cons,List.nodup_cons] at hn
    by_cases hk:x.1=k
    · simp only [mdel,hk,if_true,mget]
      split
      · rename_i hc
        exact mget_none.2 (by rw [← hc,← hk];exact hn.1)
      · rfl
    · have ih:=mget_mdel (k:=k) c hn.2
      simp only [mdel,hk,if_false,mget,ih]
      by_cases hc:x.1=c
      · rw [if_pos hc,if_pos hc,if_neg (fun e=>hk (by rw [hc,← e]))]
      · rw [if_neg hc,if_neg hc]
/-- A map that is in order: keys once each,stamps once each and below the clock. -/
structure MWf (s:Ms κ α × Nat):Prop where
  bnd:∀ e∈s.1,e.2.2 < s.2
  nd:(s.1.map (·.2.2)).Nodup
  keys:(mkeys s.1).Nodup
theorem MWf.nil:MWf (([]:Ms κ α),0):=⟨by simp,by simp,by simp [mkeys]⟩
theorem MWf.snoc {s:Ms κ α × Nat} (h:MWf s) {k:κ} {a:α} (hk:mget k s.1=none):MWf (s.1++[(k,a,s.2)],s.2+1):=by
  refine ⟨fun e he=>?_,?_,?_⟩
  · rcases List.mem_append.1 he with he|he
    · have:=h.bnd e he;simp only;omega
    · rw [List.mem_singleton.1 he];simp
  · rw [List.map_append,List.nodup_append]
    refine ⟨h.nd,by simp,fun x hx y hy e=>?_⟩
    obtain ⟨z,hz,rfl⟩:=List.mem_map.1 hx
    have:=h.bnd z hz
    simp only [List.map_cons,List.map_nil,List.mem_singleton] at hy
    omega
  · simp only [mkeys,List.map_append,List.nodup_append]
    refine ⟨h.keys,by simp,fun x hx y hy e=>?_⟩
    simp only [List.map_cons,List.map_nil,List.mem_singleton] at hy
    exact mget_none.1 hk (hy ▸ e ▸ hx)
theorem MWf.del {s:Ms κ α × Nat} (h:MWf s) (k:κ):MWf (mdel k s.1,s.2) :=
  ⟨fun e he=>h.bnd e ((mdel_sub k s.1).subset he),((mdel_sub k s.1).map _).nodup h.nd,((mdel_sub k s.1).map _).nodup h.keys⟩
end
end Go.Proofs.Ytijbmkjebidanaa
set_option linter.unusedSimpArgs false
set_option linter.unusedVariables false
namespace Go.Proofs.Ytijbmkjebidanaa
open Go.RowKit Go.Shelf
set_option maxRecDepth 100000
theorem clvinjK {a b:Cl}:([.int .i64 a.id,.int .i64 a.roles,.int .i64 a.exp,.int .i64 a.ser]:List Value)=[.int .i64 b.id,.int .i64 b.roles,.int .i64 b.exp,.int .i64 b.ser] ↔ a=b:=by
  simp only [List.cons.injEq,Value.int.injEq,true_and,and_true]
  constructor
  · rintro ⟨h1,h2,h3,h4⟩
    cases a;cases b;simp_all
  · rintro h;simp [h]
theorem ktK:KeyT Try.prog 34 kvC:=KeyT.flat tb (fun c:Cl=>[.int .i64 c.id,.int .i64 c.roles,.int .i64 c.exp,.int .i64 c.ser]) rfl rfl rfl (fun _=>rfl) fun _ _ h=>clvinjK.1 h
theorem len64_ok (x:Int) (h0:0≤x) (h1:x≤18446744073709551615):CallP Try.prog 103 [.int .u64 x] (.int .i64 (blen x.toNat)):=by
  refine enterP (tb:=tb) Try.func103 rfl Try.ntmps103 rfl fun w=>?_
  repeat' (first|(apply R.is1;first|(apply R.isBin;first|(apply R.pure;exact rfl;first|(apply Ok1.add64;exact rfl;exact rfl;omega;omega)|(apply Ok1.geq_t;exact rfl;exact rfl;omega)|(apply Ok1.geq_f;exact rfl;exact rfl;omega)|(apply Ok1.shr;exact rfl;exact rfl;omega;exact Nat.le_of_ble_eq_true rfl;(first|exact pwE1|exact pwE2|exact pwE3|exact pwE4|exact pwE5|exact pwE6|exact pwE7|exact pwE8|exact pwE16|exact pwE24|exact pwE32|exact rfl)))|(apply R.geq rfl rfl rfl<;>intro))|(apply R.pure;exact rfl;first|(apply Ok1.len8;(iterate 4 exact rfl);omega;omega;kernel_rfl)|(apply Ok1.move;exact rfl)|(apply Ok1.assign;exact rfl)|(apply Ok1.index1;(iterate 6 exact rfl);omega;omega;exact rfl)|(apply Ok1.indexk;(iterate 6 exact rfl);omega;omega;exact rfl)|(apply Ok1.convI64;(iterate 5 exact rfl);omega;omega)|(apply Ok1.convU64;(iterate 5 exact rfl);omega;omega)|(apply Ok1.convU32;(iterate 5 exact rfl);omega;omega)|(apply Ok1.convU8;(iterate 5 exact rfl);omega;omega)|(apply Ok1.conv;(iterate 5 exact rfl))))|(apply R.is0;first|fail)|(apply R.isG;first|(apply R.guard_run;exact rfl;exact rfl)|(apply R.guard_not;(iterate 3 exact rfl))|(apply R.guard_not0;exact rfl;exact rfl)|(apply R.guard_un;(iterate 3 exact rfl))|(apply R.guard_un0;exact rfl;exact rfl)|(apply R.guard rfl rfl ?_ (fun h=>⟨rfl,?_⟩)<;>try intro))|apply R.nil|(apply T.is;first|apply T.seq|apply T.region|apply T.block|apply T.scope|apply T.label|apply T.skip|apply T.exit|apply T.ret|(apply T.cond_t;exact rfl)|(apply T.cond_f;exact rfl)|(apply T.cond_h;exact rfl;assumption)|(apply T.cond_n;exact rfl;assumption)|(apply T.cond rfl<;>intro))|apply Rnd.step)
  all_goals (apply RetOk.t;exact rfl)
  all_goals congr 1
  all_goals rw [Nat.min_eq_left (blen_le 8 (by omega))]
  all_goals first
    | (rw [blen32 (x:=x.toNat) (by omega),blen16 (x:=x.toNat / 4294967296) (by omega),blen8 (x:=x.toNat / 4294967296 / 65536) (by omega),show (x / 4294967296 / 65536 / 256).toNat=x.toNat / 4294967296 / 65536 / 256 by omega];omega)
    | (rw [blen32 (x:=x.toNat) (by omega),blen16 (x:=x.toNat / 4294967296) (by omega),show (x / 4294967296 / 65536).toNat=x.toNat / 4294967296 / 65536 by omega];omega)
    | (rw [blen32 (x:=x.toNat) (by omega),blen8 (x:=x.toNat / 4294967296) (by omega),show (x / 4294967296 / 256).toNat=x.toNat / 4294967296 / 256 by omega];omega)
    | (rw [blen32 (x:=x.toNat) (by omega),show (x / 4294967296).toNat=x.toNat / 4294967296 by omega];omega)
    | (rw [blen16 (x:=x.toNat) (by omega),blen8 (x:=x.toNat / 65536) (by omega),show (x / 65536 / 256).toNat=x.toNat / 65536 / 256 by omega];omega)
    | (rw [blen16 (x:=x.toNat) (by omega),show (x / 65536).toNat=x.toNat / 65536 by omega];omega)
    | (rw [blen8 (x:=x.toNat) (by omega),show (x / 256).toNat=x.toNat / 256 by omega];omega)
    | omega
theorem len_ok (x:Int) (h0:0≤x) (h1:x≤18446744073709551615):CallP Try.prog 85 [.int .u64 x] (.int .i64 (blen x.toNat)):=by
  refine enterP (tb:=tb) Try.func85 rfl Try.ntmps85 rfl fun w=>?_
  repeat' (first|(apply R.is1;first|(apply R.isCall;first|apply R.callP rfl rfl rfl (len64_ok _ (by omega) (by omega)))|(apply R.pure;exact rfl;first|(apply Ok1.move;exact rfl)|(apply Ok1.assign;exact rfl)|(apply Ok1.convI64;(iterate 5 exact rfl);omega;omega)|(apply Ok1.convU64;(iterate 5 exact rfl);omega;omega)|(apply Ok1.convU32;(iterate 5 exact rfl);omega;omega)|(apply Ok1.convU8;(iterate 5 exact rfl);omega;omega)|(apply Ok1.conv;(iterate 5 exact rfl))))|(apply R.is0;first|fail)|(apply R.isG;first|(apply R.guard_run;exact rfl;exact rfl)|(apply R.guard_not;(iterate 3 exact rfl))|(apply R.guard_not0;exact rfl;exact rfl)|(apply R.guard_un;(iterate 3 exact rfl))|(apply R.guard_un0;exact rfl;exact rfl)|(apply R.guard rfl rfl ?_ (fun h=>⟨rfl,?_⟩)<;>try intro))|apply R.nil|(apply T.is;first|apply T.seq|apply T.region|apply T.block|apply T.scope|apply T.label|apply T.skip|apply T.exit|apply T.ret|(apply T.cond_t;exact rfl)|(apply T.cond_f;exact rfl)|(apply T.cond_h;exact rfl;assumption)|(apply T.cond_n;exact rfl;assumption)|(apply T.cond rfl<;>intro))|apply Rnd.step)
  all_goals (apply RetOk.t;exact rfl)
  rfl
end Go.Proofs.Ytijbmkjebidanaa
set_option linter.unusedSimpArgs false
set_option linter.unusedVariables false
namespace Go.Proofs.Ytijbmkjebidanaa
open Go.RowKit Go.Shelf Go.Sort
def ltC (c d:Cl):Prop:=c.ser < d.ser ∨ c.ser=d.ser∧(c.id < d.id ∨ c.id=d.id∧(c.exp < d.exp ∨ c.exp=d.exp∧c.roles < d.roles))
theorem cmpI_neg (x y:Int):cmpI x y < 0 ↔ x < y:=by
  unfold cmpI
  repeat' split
  all_goals omega
theorem cmpI_zero (x y:Int):cmpI x y=0 ↔ x=y:=by
  unfold cmpI
  repeat' split
  all_goals omega
theorem cmpCl_neg (c d:Cl):cmpCl c d < 0 ↔ ltC c d:=by
  unfold cmpCl ltC
  split
  · rename_i h;subst h;simp
  · have h1:=cmpI_neg c.ser d.ser
    have h2:=cmpI_neg c.id d.id
    have h3:=cmpI_neg c.exp d.exp
    have h4:=cmpI_neg c.roles d.roles
    have z1:=cmpI_zero c.ser d.ser
    have z2:=cmpI_zero c.id d.id
    have z3:=cmpI_zero c.exp d.exp
    have z4:=cmpI_zero c.roles d.roles
    unfold or4
    repeat' split
    all_goals omega
theorem cl_ext {c d:Cl} (h1:c.ser=d.ser) (h2:c.id=d.id) (h3:c.exp=d.exp) (h4:c.roles=d.roles):c=d:=by cases c;cases d;simp_all
theorem ltC_total {c d:Cl} (h:¬ ltC c d) (h':¬ ltC d c):c=d:=by
  unfold ltC at h h'
  apply cl_ext<;>omega
end Go.Proofs.Ytijbmkjebidanaa
set_option linter.unusedSimpArgs false
set_option linter.unusedVariables false
set_option linter.unusedSectionVars false
namespace Go.Proofs.Ytijbmkjebidanaa
open Go.RowKit Go.Shelf Go.Sort
section
variable {α:Type} [Inhabited α] {enc:α→List Value} {k:Nat}
theorem flatK_get (hk : ∀ x,(enc x).length=k) (d:Array α) {t:Nat} (ht:t < d.size * k):(flatK enc k d)[t]? = (fl enc d.toList)[t]?:=by
  have k0 : 0 < k := by rcases Nat.eq_zero_or_pos k with h|h;· subst h;simp at ht
                        · exact h
  have hdm:=Nat.div_add_mod t k
  have hml:=Nat.mod_lt t k0
  have hil:t / k < d.size:=by rw [Nat.div_lt_iff_lt_mul k0];exact ht
  have hg:d.toList[t / k]? = some d[t / k]!:=by simp [hil]
  have h5:=fl_get hk hg hml
  rw [show t / k * k+t % k=t by rw [Nat.mul_comm];exact hdm] at h5
  rw [h5]
  have h6:=get_flatK enc k d t ht
  rw [getElem!_pos _ t (by simpa using ht)] at h6
  rw [Array.getElem?_eq_getElem (by simpa using ht),h6,List.getElem?_eq_getElem (by rw [hk];exact hml),getElem!_pos _ _ (by rw [hk];exact hml)]
theorem putCells_own (hk:∀ x,(enc x).length=k) (d:Array α) {old junk:List Value} (ho:old.length=d.size * k) :
    putCells id 0 (flatK enc k d) ⟨old++junk⟩=⟨fl enc d.toList++junk⟩:=by
  apply Array.ext_getElem?
  intro t
  have hl:(fl enc d.toList).length=d.size * k:=by rw [fl_len hk];simp
  simp only [putCells,Array.getElem?_mapIdx,Nat.zero_le,true_and,Nat.zero_add,Nat.sub_zero,size_flatK,id,List.getElem?_toArray]
  by_cases ht:t < d.size * k
  · rw [List.getElem?_append_left (by omega),List.getElem?_append_left (by omega),List.getElem?_eq_getElem (by omega),← flatK_get hk d ht]
    simp [ht]
  · rw [List.getElem?_append_right (by omega),List.getElem?_append_right (by omega),ho,hl]
    cases junk[t - d.size * k]? with
    | none=>rfl
    | some v=>simp [ht]

theorem sortWorld_own (hk:∀ x,(enc x).length=k) {w:World} {b m:Nat} {d:Array α} {os:Array Obj} {old junk:List Value} {e:TypeId} {fz:Nat × Nat} (hb:w.heap[b]? = some (.cells ⟨old++junk⟩ e fz)) (ho:old.length=d.size * k) :
    Chg [b] w (sortWorldK enc k w b 0 m d os)∧(sortWorldK enc k w b 0 m d os).heap[b]? = some (.cells ⟨fl enc d.toList++junk⟩ e fz):=by
  have hlt:=(Array.getElem?_eq_some_iff.1 hb).1
  refine ⟨⟨rfl,rfl,rfl,?_,?_,?_⟩,?_⟩
  · simp [sortWorldK,grow,putRowK,putRow,mapBlock,Sort.ahead]
  · simp [sortWorldK,grow,putRowK,putRow,mapBlock,Sort.ahead]
  · intro i hi hs
    have hne:b≠i:=fun h=>hs (by simp [h])
    simp [sortWorldK,grow,putRowK,putRow,mapBlock,Sort.ahead,Array.getElem?_append,hi,Array.getElem_modify,hne]
  · simp only [sortWorldK,grow,putRowK,putRow,mapBlock,Sort.ahead]
    rw [Array.getElem?_append_left (by simpa using hlt),Array.getElem?_modify,if_pos rfl,hb]
    simp only [Option.map_some,onCells,putCells_own hk d ho]

/-- Ascending: no later one is less than an earlier one. -/
def Asc (cf:α→α→Int) (rs:List α):Prop:=rs.Pairwise fun a b=>¬ cf b a < 0

/-- What the program's slices.SortFunc does to an own slice of rows. -/
theorem sort_ok {P:Program} {ρ:Ren} (L:SlLaysF0.n6 P ρ) (aE:∀ w,(isAgg (ρ.t 24)).run P w = .ok true w) (zE:∀ w,(Go.sizeOf (ρ.t 24)).run P w = .ok k w) (hk:∀ x,(enc x).length=k) (h1:∀ x,∀ v∈enc x,v.oneCell'=true) (cf:α→α→Int) (hO:SWO (ltOf cf)) (g:Nat) (cb:List Value) {f:FuncId} (hf:ρ.f 6=f)
    (b cap:Nat) (rs:List α) (junk:List Value) (e:TypeId) (w:World) (he:Enters P g) (hsz:rs.length≤1000000)
    (hcmp:∀ W,Chg [b] w W→∀ x y,CallW P g ([.agg ⟨enc x⟩,.agg ⟨enc y⟩]++cb) W fun v _=>v = .int .i64 (cf x y)) :
    CallM P f [.slice (some ⟨b,0,none⟩) rs.length cap,.func (.func g) #[] cb.toArray] [(b,.cells ⟨fl enc rs++junk⟩ e (0,0))] w fun v L'=>v = .tuple #[]∧∃ rs':List α,rs'.Perm rs∧Asc cf rs' ∧ L'=[(b,.cells ⟨fl enc rs'++junk⟩ e (0,0))] :=
  ⟨fun hw=>by
    subst hf
    have hb:=hw.get b _ List.mem_cons_self
    have hlt:=(Array.getElem?_eq_some_iff.1 hb).1
    have hfl:(fl enc rs).length=rs.length * k:=fl_len hk rs
    have hH:HoldsK enc k w b 0 rs.toArray:=by
      intro j hj
      have hj':j < rs.length * k:=by simpa using hj
      have h2:=flatK_get hk rs.toArray (t:=j) (by simpa using hj')
      refine ⟨?_,?_⟩
      · simp only [World.cell?,hb,Nat.zero_add]
        rw [getElem!_pos _ j hj]
        rw [Array.getElem?_eq_getElem hj] at h2
        simp only [id,h2]
        simp [List.getElem?_append_left,hfl,hj']
      · simp [World.frozen?,hb]
    have hcm:CmpLays P g cb.toArray enc k cf b 0 rs.toArray.size w:=by
      intro m os dk hs x y
      have hc:=(sortWorld_own hk (m:=m) (d:=dk) (os:=os) hb (by rw [hfl,hs];simp)).1
      have:=(hcmp _ hc x y).run
      have e1:(#[Value.agg (enc x).toArray,Value.agg (enc y).toArray]++cb.toArray:Array Value)=([Value.agg ⟨enc x⟩,Value.agg ⟨enc y⟩]++cb).toArray:=by simp
      rw [e1]
      refine Calls.mono this ?_
      rintro e w' ⟨v,h3,h4,h5⟩
      exact ⟨by rw [h3,h4],h5.grow⟩
    have:=AnyQ.slices_SortFunc L k aE zE enc hk h1 cf hO g cb.toArray b 0 cap rs.toArray w he hcm hH hlt (by simp;omega)
    have e0:rs.toArray.size=rs.length:=by simp
    rw [e0] at this
    refine Calls.mono this ?_
    rintro e' w' ⟨h3,d',n,os,hp,hs,hw'⟩
    have hds:d'.size=rs.length:=by simpa using hp.1
    obtain ⟨g1,g2⟩:=sortWorld_own hk (m:=n) (d:=d') (os:=os) hb (by rw [hfl,hds])
    refine ⟨.tuple #[],[(b,.cells ⟨fl enc d'.toList++junk⟩ e (0,0))],h3,⟨rfl,d'.toList,?_,?_,rfl⟩,?_⟩
    · have h4:=hp.2.2
      have e1:d'.extract 0 rs.length=d':=by rw [← hds];simp
      have e2:rs.toArray.extract 0 rs.length=rs.toArray:=by rw [← e0];simp
      rw [e1,e2] at h4
      exact h4
    · refine List.pairwise_iff_getElem.2 fun i j hi hj hij=>?_
      have h4:=hs i j (Nat.zero_le _) hij (by simp at hj ⊢;omega)
      simp only [ltOf,decide_eq_false_iff_not] at h4
      simp only [Array.length_toList] at hi hj
      rw [getElem!_pos d' i (by omega),getElem!_pos d' j (by omega)] at h4
      exact h4
    · rw [hw']
      exact hw.upd .head g1 g2⟩
end
end Go.Proofs.Ytijbmkjebidanaa
set_option linter.unusedSimpArgs false
set_option linter.unusedVariables false
namespace Go.Proofs.Ytijbmkjebidanaa
open Go.RowKit Go.Shelf Go.Sort
set_option maxRecDepth 100000
theorem insC_nil (p:Option Addr) (cap:Nat) (f:Value):CallP Try.prog 94 [.slice p 0 cap,.int .i64 0,.int .i64 0,f] (.tuple #[]):=by
  refine enterP (tb:=tb) Try.func94 rfl Try.ntmps94 rfl fun w=>?_
  repeat' (first|(apply R.is1;first|(apply R.isBin;first|(apply R.pure;exact rfl;first|(apply Ok1.add64;exact rfl;exact rfl;omega;omega)|(apply Ok1.sub64;exact rfl;exact rfl;omega;omega)|(apply Ok1.lss_t;exact rfl;exact rfl;omega)|(apply Ok1.lss_f;exact rfl;exact rfl;omega)|(apply Ok1.gtr_t;exact rfl;exact rfl;omega)|(apply Ok1.gtr_f;exact rfl;exact rfl;omega))|(apply R.lss rfl rfl rfl<;>intro)|(apply R.gtr rfl rfl rfl<;>intro))|(apply R.pure;exact rfl;first|(apply Ok1.move;exact rfl)|(apply Ok1.load;exact rfl;first|(apply Ld.own1;exact rfl;exact rfl;(focus (repeat' first|exact At.head|apply At.tail|apply At.right);done);exact rfl)|(apply Ld.ownk;exact rfl;exact rfl;(focus (repeat' first|exact At.head|apply At.tail|apply At.right);done);exact rfl)|(apply Ld.old1;exact rfl;exact rfl;assumption;(first|exact List.not_mem_nil|assumption))|(apply Ld.blk1;exact rfl;exact rfl;assumption;(first|exact List.not_mem_nil|assumption);exact rfl)|(apply Ld.blkk;exact rfl;exact rfl;assumption;(first|exact List.not_mem_nil|assumption);exact rfl))|(apply Ok1.assign;exact rfl)|(apply Ok1.indexAddr;(iterate 5 exact rfl);omega;omega)|(apply Ok1.indexAddrA;(iterate 5 exact rfl);omega;omega)|(apply Ok1.pick_t;exact rfl;exact rfl)|(apply Ok1.pick_f;exact rfl;exact rfl)|(apply Ok1.pick_h;exact rfl;assumption;exact rfl)|(apply Ok1.pick_n;exact rfl;assumption;exact rfl)))|(apply R.is0;first|(apply R.store;(iterate 6 exact rfl);(focus (repeat' first|exact Upd.head|apply Upd.tail|apply Upd.right);done);exact rfl)|fail)|(apply R.isG;first|(apply R.guard_run;exact rfl;exact rfl)|(apply R.guard_not;(iterate 3 exact rfl))|(apply R.guard_not0;exact rfl;exact rfl)|(apply R.guard_un;(iterate 3 exact rfl))|(apply R.guard_un0;exact rfl;exact rfl)|(apply R.guard rfl rfl ?_ (fun h=>⟨rfl,?_⟩)<;>try intro))|apply R.nil|(apply T.is;first|apply T.rounds 2|apply T.seq|apply T.region|apply T.block|apply T.scope|apply T.label|apply T.skip|apply T.exit|apply T.ret|(apply T.cond_t;exact rfl)|(apply T.cond_f;exact rfl)|(apply T.cond_h;exact rfl;assumption)|(apply T.cond_n;exact rfl;assumption)|(apply T.cond rfl<;>intro))|apply Rnd.step)
  all_goals (apply RetOk.n)
  all_goals rfl
theorem pdqC_nil (p:Option Addr) (cap:Nat) (l:Int) (f:Value):CallP Try.prog 84 [.slice p 0 cap,.int .i64 0,.int .i64 0,.int .i64 l,f] (.tuple #[]):=by
  refine enterP (tb:=tb) Try.func84 rfl Try.ntmps84 rfl fun w=>?_
  repeat' (first|(apply R.is1;first|(apply R.isBin;first|(apply R.pure;exact rfl;first|(apply Ok1.add64;exact rfl;exact rfl;omega;omega)|(apply Ok1.sub64;exact rfl;exact rfl;omega;omega)|(apply Ok1.lss_t;exact rfl;exact rfl;omega)|(apply Ok1.lss_f;exact rfl;exact rfl;omega)|(apply Ok1.leq_t;exact rfl;exact rfl;omega)|(apply Ok1.leq_f;exact rfl;exact rfl;omega)|(apply Ok1.gtr_t;exact rfl;exact rfl;omega)|(apply Ok1.gtr_f;exact rfl;exact rfl;omega)|(apply Ok1.geq_t;exact rfl;exact rfl;omega)|(apply Ok1.geq_f;exact rfl;exact rfl;omega)|(apply Ok1.eql_t;exact rfl;exact rfl;omega)|(apply Ok1.eql_f;exact rfl;exact rfl;omega)|(apply Ok1.quo64;exact rfl;exact rfl;omega;omega;omega)|(apply Ok1.eqlP;(iterate 5 exact rfl))|(apply Ok1.eqlM;(iterate 5 exact rfl))|(apply Ok1.eqlS;(iterate 5 exact rfl)))|(apply R.lss rfl rfl rfl<;>intro)|(apply R.leq rfl rfl rfl<;>intro)|(apply R.gtr rfl rfl rfl<;>intro)|(apply R.geq rfl rfl rfl<;>intro)|(apply R.eql rfl rfl rfl<;>intro)|(apply R.eqlF;(iterate 8 exact rfl);all_goals intro))|(apply R.isCall;first|apply R.callP rfl rfl rfl (insC_nil _ _ _))|(apply R.pure;exact rfl;first|(apply Ok1.move;exact rfl)|(apply Ok1.load;exact rfl;first|(apply Ld.own1;exact rfl;exact rfl;(focus (repeat' first|exact At.head|apply At.tail|apply At.right);done);exact rfl)|(apply Ld.ownk;exact rfl;exact rfl;(focus (repeat' first|exact At.head|apply At.tail|apply At.right);done);exact rfl)|(apply Ld.old1;exact rfl;exact rfl;assumption;(first|exact List.not_mem_nil|assumption))|(apply Ld.blk1;exact rfl;exact rfl;assumption;(first|exact List.not_mem_nil|assumption);exact rfl)|(apply Ld.blkk;exact rfl;exact rfl;assumption;(first|exact List.not_mem_nil|assumption);exact rfl))|(apply Ok1.assign;exact rfl)|(apply Ok1.indexAddr;(iterate 5 exact rfl);omega;omega)|(apply Ok1.indexAddrA;(iterate 5 exact rfl);omega;omega)|(apply Ok1.extract;exact rfl;exact rfl)|(apply Ok1.pick_t;exact rfl;exact rfl)|(apply Ok1.pick_f;exact rfl;exact rfl)|(apply Ok1.pick_h;exact rfl;assumption;exact rfl)|(apply Ok1.pick_n;exact rfl;assumption;exact rfl)|(apply Ok1.not_t;exact rfl)|(apply Ok1.not_f;exact rfl)|(apply Ok1.not;exact rfl)|(apply Ok1.neg;exact rfl)))|(apply R.is0;first|fail)|(apply R.isG;first|(apply R.guard_run;exact rfl;exact rfl)|(apply R.guard_not;(iterate 3 exact rfl))|(apply R.guard_not0;exact rfl;exact rfl)|(apply R.guard_un;(iterate 3 exact rfl))|(apply R.guard_un0;exact rfl;exact rfl)|(apply R.guard rfl rfl ?_ (fun h=>⟨rfl,?_⟩)<;>try intro))|apply R.nil|(apply T.is;first|apply T.rounds 2|apply T.seq|apply T.region|apply T.block|apply T.scope|apply T.label|apply T.skip|apply T.exit|apply T.ret|(apply T.cond_t;exact rfl)|(apply T.cond_f;exact rfl)|(apply T.cond_h;exact rfl;assumption)|(apply T.cond_n;exact rfl;assumption)|(apply T.cond rfl<;>intro))|apply Rnd.step)
  all_goals (apply RetOk.n)
  all_goals rfl
theorem sortC_nil (p:Option Addr) (cap:Nat) (f:Value):CallP Try.prog 67 [.slice p 0 cap,f] (.tuple #[]):=by
  refine enterP (tb:=tb) Try.func67 rfl Try.ntmps67 rfl fun w=>?_
  repeat' (first|(apply R.is1;first|(apply R.isCall;first|apply R.callP rfl rfl rfl (len_ok _ (by omega) (by omega))|apply R.callP rfl rfl rfl (pdqC_nil _ _ _ _)|(apply R.pure;exact rfl;first|(apply Ok1.lenS;(iterate 3 exact rfl))|(apply Ok1.lenStr;(iterate 3 exact rfl))|(apply Ok1.lenMm;(iterate 3 exact rfl);(focus (repeat' first|exact At.head|apply At.tail|apply At.right);done))|(apply Ok1.lenM_nil;(iterate 3 exact rfl))))|(apply R.pure;exact rfl;first|(apply Ok1.move;exact rfl)|(apply Ok1.assign;exact rfl)|(apply Ok1.convI64;(iterate 5 exact rfl);omega;omega)|(apply Ok1.convU64;(iterate 5 exact rfl);omega;omega)|(apply Ok1.convU32;(iterate 5 exact rfl);omega;omega)|(apply Ok1.convU8;(iterate 5 exact rfl);omega;omega)|(apply Ok1.conv;(iterate 5 exact rfl))))|(apply R.is0;first|fail)|(apply R.isG;first|(apply R.guard_run;exact rfl;exact rfl)|(apply R.guard_not;(iterate 3 exact rfl))|(apply R.guard_not0;exact rfl;exact rfl)|(apply R.guard_un;(iterate 3 exact rfl))|(apply R.guard_un0;exact rfl;exact rfl)|(apply R.guard rfl rfl ?_ (fun h=>⟨rfl,?_⟩)<;>try intro))|apply R.nil|(apply T.is;first|apply T.seq|apply T.region|apply T.block|apply T.scope|apply T.label|apply T.skip|apply T.exit|apply T.ret|(apply T.cond_t;exact rfl)|(apply T.cond_f;exact rfl)|(apply T.cond_h;exact rfl;assumption)|(apply T.cond_n;exact rfl;assumption)|(apply T.cond rfl<;>intro))|apply Rnd.step)
  all_goals (apply RetOk.n)
  all_goals rfl

theorem Cl.v_len (c:Cl):c.v.length=4:=rfl
theorem swoC:SWO (ltOf cmpCl) where
  irrefl:=fun x=>by simp only [ltOf,decide_eq_false_iff_not,cmpCl_neg,ltC];omega
  trans:=fun x y z=>by simp only [ltOf,decide_eq_true_eq,cmpCl_neg,ltC];omega
  ntrans:=fun x y z=>by simp only [ltOf,decide_eq_false_iff_not,cmpCl_neg,ltC];omega
theorem sortC_ok (rs:List Cl) (hlen:rs.length≤1000) (ov:Ov) (hov:OvOk 4 ov rs.length (fl Cl.v rs)) (w:World) :
    CallM Try.prog 67 [slV ov rs.length,.func (.func 68) #[] #[]] (blkL 34 ov (fl Cl.v rs)) w fun v L=>v = .tuple #[]∧∃ rs',rs'.Perm rs∧Asc cmpCl rs' ∧ L=blkL 34 ov (fl Cl.v rs'):=by
  cases ov with
  | none =>
    have h0:rs.length=0:=hov.2
    have:rs=[]:=by cases rs;rfl;simp at h0
    subst this
    exact ⟨fun hw=>((sortC_nil none 0 _).run w).mono fun e' w' ⟨h1,h2⟩=>⟨_,_,h1,⟨rfl,[],.refl _,.nil,rfl⟩,hw.step h2⟩⟩
  | some x =>
    obtain ⟨b,j,junk⟩:=x
    exact sort_ok Try.sortC (fun w=>(tb.get (t:=34) rfl).agg rfl w) (tb.get (t:=34) rfl).size Cl.v_len (fun x v hv=>by
      simp only [Cl.v,List.mem_cons,List.not_mem_nil,or_false] at hv
      rcases hv with rfl|rfl|rfl|rfl<;>rfl) _ swoC 68 [] rfl b _ rs junk _ w (tb.ent rfl) (by omega)
      (fun W hW x y=>(compare_ok x y).at W)
end Go.Proofs.Ytijbmkjebidanaa
set_option linter.unusedSimpArgs false
set_option linter.unusedVariables false
namespace Go.Proofs.Ytijbmkjebidanaa
open Go.RowKit Go.Shelf
section
variable {X:Cx} {σ:Env} {L:Lst} {ty t:TypeId} {pos:String} {af:Array Edge} {x y:Operand} {r:TRow}
end
section
variable {X:Cx} {σ:Env} {L:Lst} {ty t:TypeId} {pos:String} {af:Array Edge} {x y:Operand} {r:TRow} {xs ys:List Value} {ks:List TK}
end
/-- The walk stops here. -/
structure Stop (p:Prop):Prop where
  of:p
section
variable {X:Cx} {Q:Post} {σ:Env} {L:Lst}
theorem T.stop (i:Nat) {ops:Array Oper} {g:Bool} {c d:Code} (h:Stop (T X (.seq (.seq (.region i ops g) c) d) Q σ L)):T X (.seq (.seq (.region i ops g) c) d) Q σ L:=h.of
theorem T.stop1 (i:Nat) {ops:Array Oper} {g:Bool} {d:Code} (h:Stop (T X (.seq (.region i ops g) d) Q σ L)):T X (.seq (.region i ops g) d) Q σ L:=h.of
end
theorem CallW.toM {P:Program} {f:FuncId} {vs:List Value} {w:World} {v:Value} (h:CallW P f vs w fun x _=>x=v):CallM P f vs [] w fun x L=>x=v∧L=[] :=
  ⟨fun _=>h.run.mono fun e w' ⟨x,h1,h2,h3⟩=>⟨x,[],h1,⟨h2,rfl⟩,⟨h3,by simp,by simp,by simp⟩⟩⟩

section
variable {X:Cx} {σ:Env} {L Lr:Lst} {d:Option Nat} {dd:Nat} {ty:TypeId} {pos:String} {af:Array Edge} {g:Option (Nat × Bool)} {x y:Operand} {t t2 e:TypeId} {r r2 re:TRow}
variable {all:Array Oper} {rest:List Oper} {K:Env→Lst→Prop} {p:Option Addr} {n cap i:Nat}
end
section
variable {X:Cx} {σ:Env} {L Lr:Lst} {d:Option Nat} {ty:TypeId} {pos:String} {af:Array Edge} {g:Option (Nat × Bool)} {x:Operand} {t e:TypeId} {r re:TRow} {p:Option Addr} {n m cap b o i:Nat}
end
set_option maxRecDepth 100000
/-- A key in blocks of one's own. -/
structure KE where
  bk:Nat
  ov:Ov
  K:List Int
def KE.L (x:KE):Lst:=KL x.bk x.ov x.K
def KE.ok (x:KE):Prop:=OvOk 1 x.ov x.K.length (u8s x.K)
def vvE (x:KE):Value:=.pointer (some ⟨x.bk,0,none⟩)
theorem ring_x1 {c:Cl} {s:List Int} (hs:s.length=32) (m1 m2:Nat):(ringC c s m1 m2)[36]? = some (.map (some m1)):=by
  rw [ringC,List.getElem?_append_right (by rw [tk_len hs];exact Nat.le_refl _),tk_len hs];rfl
theorem ring_x2 {c:Cl} {s:List Int} (hs:s.length=32) (m1 m2:Nat):(ringC c s m1 m2)[37]? = some (.map (some m2)):=by
  rw [ringC,List.getElem?_append_right (by rw [tk_len hs];decide),tk_len hs];rfl
theorem ring_cl (c:Cl) {s:List Int} (m1 m2:Nat):subE (ringC c s m1 m2) 0 4=some (clC c):=by
  rw [ringC,tkC,List.append_assoc];exact subE_app (clC c) _ rfl
def addE7 (ms:Ms Cl KE) (d:Cl):Int:=if ¬ d.right then 10 else match mget d ms with
  | some _=>8
  | none=>if ms.length=16 then 6 else 0
section
variable (br:Nat) (c:Cl) (s:List Int) (hs:s.length=32) (m1 m2:Nat) (e9:TypeId) (f9:Nat × Nat)
theorem radd_nok (d:Cl) (hd:d.right) (p:Nat):CallP Try.prog 29 [.pointer (some ⟨p,0,none⟩),kvC d,.pointer none] (.int .i64 1):=by
  have hck:=check_ok d.id d.roles d.exp d.ser
  rw [if_pos hd] at hck
  refine enterP (tb:=tb) Try.func29 rfl Try.ntmps29 rfl fun w=>?_
  simp only [kvC]
  repeat' (first|(apply R.is1;first|(apply R.isBin;(apply R.pure;exact rfl;first|(apply Ok1.eqlP;(iterate 5 exact rfl))|(apply Ok1.neq_f;exact rfl;exact rfl;omega)))|(apply R.isCall;apply R.callP rfl rfl rfl hck)|(apply R.pure;exact rfl;first|(apply Ok1.load;exact rfl;(apply Ld.ownk;exact rfl;exact rfl;exact At.head;exact rfl))|(apply Ok1.move;exact rfl)|(apply Ok1.assign;exact rfl))|(apply R.box;(iterate 3 exact rfl);intro))|apply R.nil|(apply T.is;first|apply T.seq|apply T.region|apply T.block|apply T.skip|apply T.ret|(apply T.cond_t;exact rfl)|(apply T.cond_f;exact rfl)))
  (apply RetOk.t;exact rfl)
  rfl
theorem radd_ok (hs:s.length=32) (ms:Ms Cl KE) (clk:Nat) (d:Cl) (bk:Nat) (K:List Int) (hK:K.length≤1000000) (w:World) (hb:w.heap[br]? = some (.cells ⟨ringC c s m1 m2⟩ e9 f9)) (hm:br ∉ [m1]) (hkc:∀ w1,Chg [m1] w w1→KeyR w1 bk K) :
    CallM Try.prog 29 [.pointer (some ⟨br,0,none⟩),kvC d,.pointer (some ⟨bk,0,none⟩)] [(m1,mobj kvC vvE ms clk)] w fun v L=>v = .int .i64 (addE7 ms d)∧((addE7 ms d≠0∧L=[(m1,mobj kvC vvE ms clk)]) ∨ (addE7 ms d=0∧∃ x:KE,x.K=K∧x.ok∧L=x.L++[(m1,mobj kvC vvE (ms++[(d,x,clk)]) (clk+1))])):=by
  have hby:=fun w1 h=>bytes_ok bk K (by omega) w1 h
  have hck:=check_ok d.id d.roles d.exp d.ser
  have hx1:=ring_x1 (c:=c) hs m1 m2
  have hx2:=ring_x2 (c:=c) hs m1 m2
  have hcl:=ring_cl c (s:=s) m1 m2
  by_cases hr:d.right
  · rw [if_pos hr] at hck
    cases hg:mget d ms with
    | some a =>
      have hE:addE7 ms d=8:=by unfold addE7;rw [if_neg (by simpa using hr),hg]
      rw [hE]
      refine enterK (tb:=tb) Try.func29 rfl Try.ntmps29 rfl ?_
      simp only [kvC]
      repeat' (first|(apply R.is1;first|(apply R.isBin;(apply R.pure;exact rfl;first|(apply Ok1.eqlP;(iterate 5 exact rfl))|(apply Ok1.neq_f;exact rfl;exact rfl;omega)))|(apply R.isCall;apply R.callP rfl rfl rfl hck)|(apply R.pure;exact rfl;first|(apply Ok1.load;exact rfl;(apply Ld.ownk;exact rfl;exact rfl;exact At.head;exact rfl))|(apply Ok1.move;exact rfl)|(apply Ok1.assign;exact rfl))|(apply R.box;(iterate 3 exact rfl);intro))|apply R.nil|(apply T.is;first|(apply T.drawC (id:=8) [0,1] (by decide);((apply A.tk 0;exact rfl;kernel_rfl;(apply Ok1.move;exact rfl))<;>(apply A.tk 1;exact rfl;kernel_rfl;(apply Ok1.nilCheck;exact rfl))<;>(apply A.tk 2;exact rfl;kernel_rfl;(apply Ok1.fieldAddr;(iterate 5 exact rfl)))<;>(apply A.tk 3;exact rfl;kernel_rfl;(apply Ok1.load;exact rfl;(apply Ld.blk1;exact rfl;exact rfl;exact hb;exact hm;exact hx1)))<;>(apply A.tk 4;exact rfl;kernel_rfl;(apply Ok1.load;exact rfl;(apply Ld.ownk;exact rfl;exact rfl;exact At.head;exact rfl)))<;>(apply A.tk 5;exact rfl;kernel_rfl;(apply Ok1.lookup_some (kv:=kvC) (vv:=vvE) d ktK;(iterate 6 exact rfl);(focus (repeat' first|exact At.head|apply At.tail);done);assumption;(exact (if_neg Bool.false_ne_true).symm)))<;>((apply A.tk 6;exact rfl;kernel_rfl;(apply Ok1.neqP;(iterate 5 exact rfl))))<;>(apply A.tk 7;exact rfl;kernel_rfl;(apply Ok1.assign;exact rfl))<;>(apply A.done;kernel_rfl)))|apply T.seq|apply T.region|apply T.block|apply T.skip|apply T.ret|(apply T.cond_t;exact rfl)|(apply T.cond_f;exact rfl)))
      (apply RetOk.t;exact rfl)
      exact ⟨_,by (focus (repeat' first|exact Keep.nil _|exact Ext.one _ _|apply Keep.cons|apply Ext.cons);done),rfl,.inl ⟨by decide,rfl⟩⟩
    | none =>
      by_cases hl:ms.length=16
      · have hE:addE7 ms d=6:=by unfold addE7;rw [if_neg (by simpa using hr),hg];exact if_pos hl
        rw [hE]
        refine enterK (tb:=tb) Try.func29 rfl Try.ntmps29 rfl ?_
        simp only [kvC]
        repeat' (first|(apply R.is1;first|(apply R.isBin;(apply R.pure;exact rfl;first|(apply Ok1.eqlP;(iterate 5 exact rfl))|(apply Ok1.eql_t;exact rfl;exact rfl;omega)|(apply Ok1.neq_f;exact rfl;exact rfl;omega)))|(apply R.isCall;first|apply R.callP rfl rfl rfl hck|(apply R.pure;exact rfl;(apply Ok1.lenMm;(iterate 3 exact rfl);(focus (repeat' first|exact At.head|apply At.tail);done))))|(apply R.pure;exact rfl;first|(apply Ok1.load;exact rfl;first|(apply Ld.ownk;exact rfl;exact rfl;exact At.head;exact rfl)|(apply Ld.blk1;exact rfl;exact rfl;exact hb;exact hm;exact hx1))|(apply Ok1.move;exact rfl)|(apply Ok1.fieldAddr;(iterate 5 exact rfl))|(apply Ok1.assign;exact rfl)|(apply Ok1.nilCheck;exact rfl))|(apply R.box;(iterate 3 exact rfl);intro))|apply R.nil|(apply T.is;first|(apply T.drawC (id:=8) [0,1] (by decide);((apply A.tk 0;exact rfl;kernel_rfl;(apply Ok1.move;exact rfl))<;>(apply A.tk 1;exact rfl;kernel_rfl;(apply Ok1.nilCheck;exact rfl))<;>(apply A.tk 2;exact rfl;kernel_rfl;(apply Ok1.fieldAddr;(iterate 5 exact rfl)))<;>(apply A.tk 3;exact rfl;kernel_rfl;(apply Ok1.load;exact rfl;(apply Ld.blk1;exact rfl;exact rfl;exact hb;exact hm;exact hx1)))<;>(apply A.tk 4;exact rfl;kernel_rfl;(apply Ok1.load;exact rfl;(apply Ld.ownk;exact rfl;exact rfl;exact At.head;exact rfl)))<;>(apply A.tk 5;exact rfl;kernel_rfl;(apply Ok1.lookup_none (kv:=kvC) (vv:=vvE) d ktK;(iterate 6 exact rfl);(focus (repeat' first|exact At.head|apply At.tail);done);assumption;(exact (if_neg Bool.false_ne_true).symm)))<;>((apply A.tk 6;exact rfl;kernel_rfl;(apply Ok1.neqP;(iterate 5 exact rfl))))<;>(apply A.tk 7;exact rfl;kernel_rfl;(apply Ok1.assign;exact rfl))<;>(apply A.done;kernel_rfl)))|apply T.seq|apply T.region|apply T.block|apply T.skip|apply T.ret|(apply T.cond_t;exact rfl)|(apply T.cond_f;exact rfl)))
        all_goals skip
        (apply RetOk.t;exact rfl)
        exact ⟨_,by (focus (repeat' first|exact Keep.nil _|exact Ext.one _ _|apply Keep.cons|apply Ext.cons);done),rfl,.inl ⟨by decide,rfl⟩⟩
      · have hE:addE7 ms d=0:=by unfold addE7;rw [if_neg (by simpa using hr),hg];exact if_neg hl
        rw [hE]
        refine enterK (tb:=tb) Try.func29 rfl Try.ntmps29 rfl ?_
        simp only [kvC]
        repeat' (first|(apply R.is1;first|(apply R.isBin;(apply R.pure;exact rfl;first|(apply Ok1.eqlP;(iterate 5 exact rfl))|(apply Ok1.eql_f;exact rfl;exact rfl;omega)|(apply Ok1.neq_f;exact rfl;exact rfl;omega)))|(apply R.isCall;first|apply R.callP rfl rfl rfl hck|(apply R.pure;exact rfl;(apply Ok1.lenMm;(iterate 3 exact rfl);(focus (repeat' first|exact At.head|apply At.tail);done))))|(apply R.pure;exact rfl;first|(apply Ok1.load;exact rfl;first|(apply Ld.ownk;exact rfl;exact rfl;exact At.head;exact rfl)|(apply Ld.blk1;exact rfl;exact rfl;exact hb;exact hm;exact hx1))|(apply Ok1.move;exact rfl)|(apply Ok1.fieldAddr;(iterate 5 exact rfl))|(apply Ok1.assign;exact rfl)|(apply Ok1.nilCheck;exact rfl))|(apply R.box;(iterate 3 exact rfl);intro))|apply R.nil|(apply T.is;first|(apply T.drawC (id:=8) [0,1] (by decide);((apply A.tk 0;exact rfl;kernel_rfl;(apply Ok1.move;exact rfl))<;>(apply A.tk 1;exact rfl;kernel_rfl;(apply Ok1.nilCheck;exact rfl))<;>(apply A.tk 2;exact rfl;kernel_rfl;(apply Ok1.fieldAddr;(iterate 5 exact rfl)))<;>(apply A.tk 3;exact rfl;kernel_rfl;(apply Ok1.load;exact rfl;(apply Ld.blk1;exact rfl;exact rfl;exact hb;exact hm;exact hx1)))<;>(apply A.tk 4;exact rfl;kernel_rfl;(apply Ok1.load;exact rfl;(apply Ld.ownk;exact rfl;exact rfl;exact At.head;exact rfl)))<;>(apply A.tk 5;exact rfl;kernel_rfl;(apply Ok1.lookup_none (kv:=kvC) (vv:=vvE) d ktK;(iterate 6 exact rfl);(focus (repeat' first|exact At.head|apply At.tail);done);assumption;(exact (if_neg Bool.false_ne_true).symm)))<;>((apply A.tk 6;exact rfl;kernel_rfl;(apply Ok1.neqP;(iterate 5 exact rfl))))<;>(apply A.tk 7;exact rfl;kernel_rfl;(apply Ok1.assign;exact rfl))<;>(apply A.done;kernel_rfl)))|(apply T.drawC (id:=12) [0] (by decide);((apply A.tk 0;exact rfl;kernel_rfl;(apply Ok1.move;exact rfl))<;>(apply A.tk 1;exact rfl;kernel_rfl;(apply Ok1.nilCheck;exact rfl))<;>(apply A.tk 2;exact rfl;kernel_rfl;(apply Ok1.fieldAddr;(iterate 5 exact rfl)))<;>(apply A.tk 3;exact rfl;kernel_rfl;(apply Ok1.load;exact rfl;(apply Ld.blk1;exact rfl;exact rfl;exact hb;exact hm;exact hx1)))<;>(apply A.tk 4;exact rfl;kernel_rfl;(apply Ok1.load;exact rfl;(apply Ld.ownk;exact rfl;exact rfl;exact At.head;exact rfl)))<;>(apply A.tk 5;exact rfl;kernel_rfl;(apply Ok1.move;exact rfl))<;>(apply A.one 6;kernel_rfl;exact rfl;(((apply R.callE (vs:=[.pointer (some ⟨bk,0,none⟩)]);(iterate 3 exact rfl);exact Ext.none _;intro w1 hw1;exact hby w1 (hkc w1 hw1.chg);rintro v Lo ⟨oc,hoc,rfl,rfl⟩;rw [slV_eq hoc])));apply R.nil;refine ⟨?_,?_⟩;(focus (repeat' first|exact trivial|exact At.head|apply At.right|refine ⟨?_,?_⟩)))<;>(apply A.one 7;kernel_rfl;exact rfl;(((apply R.callE (vs:=[.slice (ovp oc) K.length (ovc oc K.length)]);(iterate 3 exact rfl);exact Ext.none _;intro w1 hw1;exact new_ok (ovp oc) K.length (ovc oc K.length) K rfl (by omega) w1 (rdown hoc hw1 (Ext.mem (by (focus ((repeat' (exact Ext.here _ _));done)))));rintro v Lo ⟨bk2,ov2,rfl,hov2,_,rfl⟩)));apply R.nil;refine ⟨?_,?_⟩;(focus (repeat' first|exact trivial|exact At.head|apply At.tail|apply At.right|refine ⟨?_,?_⟩)))<;>(apply A.one 8;kernel_rfl;exact rfl;(((apply R.mapSet_new (kv:=kvC) (vv:=vvE) (a:=⟨bk2,ov2,K⟩) d ktK;(iterate 7 exact rfl);(focus (repeat' first|exact Upd.head|apply Upd.tail|apply Upd.right);done);exact hg)));apply R.nil;refine ⟨?_,?_⟩;(focus (repeat' first|exact trivial|exact At.head|apply At.tail|apply At.right|refine ⟨?_,?_⟩)))<;>(apply A.done;kernel_rfl)))|apply T.seq|apply T.region|apply T.block|apply T.skip|apply T.ret|(apply T.cond_f;exact rfl)))
        all_goals skip
        all_goals (apply RetOk.t;exact rfl)
        all_goals refine ⟨_,?_,rfl,.inr ⟨(by trivial),⟨bk2,ov2,K⟩,rfl,hov2,rfl⟩⟩
        all_goals simp only [KE.L,KL]
        all_goals generalize blkL 5 ov2 (u8s K)=K2
        all_goals (focus (repeat' first|exact Keep.nil _|exact Ext.one _ _|exact Ext.here _ _|apply Keep.cons|apply Keep.app|apply Ext.cons|apply Ext.app);done)
  · rw [if_neg hr] at hck
    have hE:addE7 ms d=10:=by unfold addE7;rw [if_pos hr]
    rw [hE]
    refine enterK (tb:=tb) Try.func29 rfl Try.ntmps29 rfl ?_
    simp only [kvC]
    repeat' (first|(apply R.is1;first|(apply R.isBin;(apply R.pure;exact rfl;first|(apply Ok1.eqlP;(iterate 5 exact rfl))|(apply Ok1.neq_t;exact rfl;exact rfl;omega)))|(apply R.isCall;apply R.callP rfl rfl rfl hck)|(apply R.pure;exact rfl;first|(apply Ok1.load;exact rfl;(apply Ld.ownk;exact rfl;exact rfl;exact At.head;exact rfl))|(apply Ok1.move;exact rfl)|(apply Ok1.assign;exact rfl))|(apply R.box;(iterate 3 exact rfl);intro))|apply R.nil|(apply T.is;first|apply T.seq|apply T.region|apply T.skip|apply T.ret|(apply T.cond_t;exact rfl)|(apply T.cond_f;exact rfl)))
    (apply RetOk.t;exact rfl)
    exact ⟨_,by (focus (repeat' first|exact Keep.nil _|exact Ext.one _ _|apply Keep.cons|apply Ext.cons);done),rfl,.inl ⟨by decide,rfl⟩⟩
theorem rfrom_none (hs:s.length=32) (ms:Ms Cl KE) (clk:Nat) (d:Cl) (hg:mget d ms=none) (w:World) (hb:w.heap[br]? = some (.cells ⟨ringC c s m1 m2⟩ e9 f9)) (hm:br ∉ [m1]) :
    CallM Try.prog 33 [.pointer (some ⟨br,0,none⟩),kvC d] [(m1,mobj kvC vvE ms clk)] w fun v L=>v = .tuple #[.pointer none,.int .i64 7]∧L=[(m1,mobj kvC vvE ms clk)]:=by
  have hx1:=ring_x1 (c:=c) hs m1 m2
  have hx2:=ring_x2 (c:=c) hs m1 m2
  have hcl:=ring_cl c (s:=s) m1 m2
  refine enterK (tb:=tb) Try.func33 rfl Try.ntmps33 rfl ?_
  simp only [kvC]
  repeat' (first|(apply R.is1;first|(apply R.isBin;(apply R.pure;exact rfl;(apply Ok1.eqlP;(iterate 5 exact rfl))))|(apply R.pure;exact rfl;first|(apply Ok1.move;exact rfl)|(apply Ok1.assign;exact rfl))|(apply R.box;(iterate 3 exact rfl);intro))|apply R.nil|(apply T.is;first|(apply T.drawC (id:=3) [0,1] (by decide);((apply A.tk 0;exact rfl;kernel_rfl;(apply Ok1.move;exact rfl))<;>(apply A.tk 1;exact rfl;kernel_rfl;(apply Ok1.nilCheck;exact rfl))<;>(apply A.tk 2;exact rfl;kernel_rfl;(apply Ok1.fieldAddr;(iterate 5 exact rfl)))<;>(apply A.tk 3;exact rfl;kernel_rfl;(apply Ok1.load;exact rfl;(apply Ld.blk1;exact rfl;exact rfl;exact hb;exact hm;exact hx1)))<;>(apply A.tk 4;exact rfl;kernel_rfl;(apply Ok1.load;exact rfl;(apply Ld.ownk;exact rfl;exact rfl;exact At.head;exact rfl)))<;>(apply A.tk 5;exact rfl;kernel_rfl;(apply Ok1.lookup_none (kv:=kvC) (vv:=vvE) d ktK;(iterate 6 exact rfl);(focus (repeat' first|exact At.head|apply At.tail);done);assumption;(exact (if_neg Bool.false_ne_true).symm)))<;>((apply A.tk 6;exact rfl;kernel_rfl;(apply Ok1.eqlP;(iterate 5 exact rfl))))<;>(apply A.tk 7;exact rfl;kernel_rfl;(apply Ok1.assign;exact rfl))<;>(apply A.done;kernel_rfl)))|apply T.seq|apply T.region|apply T.block|apply T.ret|(apply T.cond_t;exact rfl)|(apply T.cond_f;exact rfl)))
  (apply RetOk.tt;exact rfl;exact rfl)
  exact ⟨_,by (focus (repeat' first|exact Keep.nil _|exact Ext.one _ _|apply Keep.cons|apply Ext.cons);done),rfl,rfl⟩
theorem rfrom_ok (hs:s.length=32) (ms:Ms Cl KE) (clk:Nat) (d:Cl) (x:KE) (hg:mget d ms=some x) (hK:x.K.length≤1000000) (w:World) (hb:w.heap[br]? = some (.cells ⟨ringC c s m1 m2⟩ e9 f9)) (hm:br ∉ [m1]) (hkc:∀ w1,Chg [m1] w w1→KeyR w1 x.bk x.K) :
    CallM Try.prog 33 [.pointer (some ⟨br,0,none⟩),kvC d] [(m1,mobj kvC vvE ms clk)] w fun v L=>∃ y:KE,y.K=x.K∧y.ok∧v = .tuple #[.pointer (some ⟨y.bk,0,none⟩),.int .i64 0]∧L=y.L++[(m1,mobj kvC vvE ms clk)]:=by
  obtain ⟨bk,ovk,K⟩:=x
  simp only at hK hkc ⊢
  have hby:=fun w1 h=>bytes_ok bk K (by omega) w1 h
  have hx1:=ring_x1 (c:=c) hs m1 m2
  have hx2:=ring_x2 (c:=c) hs m1 m2
  have hcl:=ring_cl c (s:=s) m1 m2
  refine enterK (tb:=tb) Try.func33 rfl Try.ntmps33 rfl ?_
  simp only [kvC]
  repeat' (first|(apply R.is1;first|(apply R.isBin;(apply R.pure;exact rfl;(apply Ok1.eqlP;(iterate 5 exact rfl))))|(apply R.pure;exact rfl;first|(apply Ok1.move;exact rfl)|(apply Ok1.assign;exact rfl))|(apply R.box;(iterate 3 exact rfl);intro))|apply R.nil|(apply T.is;first|(apply T.drawC (id:=3) [0,1] (by decide);((apply A.tk 0;exact rfl;kernel_rfl;(apply Ok1.move;exact rfl))<;>(apply A.tk 1;exact rfl;kernel_rfl;(apply Ok1.nilCheck;exact rfl))<;>(apply A.tk 2;exact rfl;kernel_rfl;(apply Ok1.fieldAddr;(iterate 5 exact rfl)))<;>(apply A.tk 3;exact rfl;kernel_rfl;(apply Ok1.load;exact rfl;(apply Ld.blk1;exact rfl;exact rfl;exact hb;exact hm;exact hx1)))<;>(apply A.tk 4;exact rfl;kernel_rfl;(apply Ok1.load;exact rfl;(apply Ld.ownk;exact rfl;exact rfl;exact At.head;exact rfl)))<;>(apply A.tk 5;exact rfl;kernel_rfl;(apply Ok1.lookup_some (kv:=kvC) (vv:=vvE) d ktK;(iterate 6 exact rfl);(focus (repeat' first|exact At.head|apply At.tail);done);assumption;(exact (if_neg Bool.false_ne_true).symm)))<;>((apply A.tk 6;exact rfl;kernel_rfl;(apply Ok1.eqlP;(iterate 5 exact rfl))))<;>(apply A.tk 7;exact rfl;kernel_rfl;(apply Ok1.assign;exact rfl))<;>(apply A.done;kernel_rfl)))|(apply T.drawC (id:=5) [0,1] (by decide);((apply A.tk 0;exact rfl;kernel_rfl;(apply Ok1.move;exact rfl))<;>(apply A.tk 1;exact rfl;kernel_rfl;(apply Ok1.nilCheck;exact rfl))<;>(apply A.tk 2;exact rfl;kernel_rfl;(apply Ok1.fieldAddr;(iterate 5 exact rfl)))<;>(apply A.tk 3;exact rfl;kernel_rfl;(apply Ok1.load;exact rfl;(apply Ld.blk1;exact rfl;exact rfl;exact hb;exact hm;exact hx1)))<;>(apply A.tk 4;exact rfl;kernel_rfl;(apply Ok1.load;exact rfl;(apply Ld.ownk;exact rfl;exact rfl;exact At.head;exact rfl)))<;>(apply A.tk 5;exact rfl;kernel_rfl;(apply Ok1.lookup_some (kv:=kvC) (vv:=vvE) d ktK;(iterate 6 exact rfl);(focus (repeat' first|exact At.head|apply At.tail);done);assumption;(exact (if_neg Bool.false_ne_true).symm)))<;>(apply A.one 6;kernel_rfl;exact rfl;(((apply R.callE (vs:=[.pointer (some ⟨bk,0,none⟩)]);(iterate 3 exact rfl);exact Ext.none _;intro w1 hw1;exact hby w1 (hkc w1 hw1.chg);rintro v Lo ⟨oc,hoc,rfl,rfl⟩;rw [slV_eq hoc])));apply R.nil;refine ⟨?_,?_⟩;(focus (repeat' first|exact trivial|exact At.head|apply At.tail|apply At.right|refine ⟨?_,?_⟩)))<;>(apply A.one 7;kernel_rfl;exact rfl;(((apply R.callE (vs:=[.slice (ovp oc) K.length (ovc oc K.length)]);(iterate 3 exact rfl);exact Ext.none _;intro w1 hw1;exact new_ok (ovp oc) K.length (ovc oc K.length) K rfl (by omega) w1 (rdown hoc hw1 (Ext.mem (by (focus ((repeat' (exact Ext.here _ _));done)))));rintro v Lo ⟨bk2,ov2,rfl,hov2,_,rfl⟩)));apply R.nil;refine ⟨?_,?_⟩;(focus (repeat' first|exact trivial|exact At.head|apply At.tail|apply At.right|refine ⟨?_,?_⟩)))<;>(apply A.tk 8;exact rfl;kernel_rfl;(apply Ok1.assign;exact rfl))<;>(apply A.tk 9;exact rfl;kernel_rfl;(apply Ok1.assign;exact rfl))<;>(apply A.done;kernel_rfl)))|apply T.seq|apply T.region|apply T.block|apply T.skip|apply T.ret|(apply T.cond_f;exact rfl)))
  all_goals (apply RetOk.tt;exact rfl;exact rfl)
  all_goals refine ⟨_,?_,⟨bk2,ov2,K⟩,rfl,hov2,rfl,rfl⟩
  all_goals simp only [KE.L,KL]
  all_goals generalize blkL 5 ov2 (u8s K)=K2
  all_goals (focus (repeat' first|exact Keep.nil _|exact Ext.one _ _|exact Ext.here _ _|apply Keep.cons|apply Keep.app|apply Ext.cons|apply Ext.app);done)
end
theorem KeyT.intK {P:Program} (tb:Tb P) {t:Nat} {r:TRow} {k:IntKind} (ht:tb.row t=some r) (hk:r.k = .int k):KeyT P t (fun z:Int=>.int k z):=by
  have hu:P.underlying t=some (.int k):=by have:=(tb.get ht).is;rw [hk] at this;exact this
  refine ⟨fun w a b=>⟨decide (a=b),?_,by simp⟩,fun w e a=>?_,fun a=>?_,⟨_,hu,?_⟩⟩
  · have hE:∀ n,(Op.equalIn (n+1) t (.int k a) (.int k b)).run P w = .ok (decide (a=b)) w:=by
      intro n
      rw [Op.equalIn]
      simp [run_underlying hu]
      rfl
    obtain ⟨n,hm⟩:∃ n,Op.maxDepth=n+1:=⟨_,rfl⟩
    simp [Op.equal,hm,hE]
  · obtain ⟨n,hm⟩:∃ n,10000=n+1:=⟨9999,rfl⟩
    rw [hm,Instr.checkKey]
    simp [run_underlying hu]
  · simp [Instr.sameBits]
  · first
      | exact .inl fun a b=>rfl
      | exact .inr fun a b=>⟨decide (a=b),by simp [Instr.sameNow];rfl,by simp⟩
def iV (x:Int):List Value:=[.int .i64 x]
theorem iV_len (x:Int):(iV x).length=1:=rfl
/-- A part: a slice of integers. -/
structure Pi where
  p:Option Addr
  cap:Nat
  xs:List Int
deriving Inhabited
theorem rto_off7 (br:Nat) (c:Cl) (s:List Int) (hs:s.length=32) (m1 m2:Nat) (e:TypeId) (n:Int) (h:n < 1 ∨ n > 65535) (w:World) (hb:w.heap[br]? = some (.cells ⟨ringC c s m1 m2⟩ e (0,0))) :
    CallM Try.prog 41 [.pointer (some ⟨br,0,none⟩),.int .i64 n] [] w fun v L=>v = .tuple #[.pointer none,.int .i64 10]∧L=[]:=by
  refine enterK (tb:=tb) Try.func41 rfl Try.ntmps41 rfl ?_
  repeat' (first|(apply R.is1;first|(apply R.isBin;(apply R.pure;exact rfl;(apply Ok1.eqlP;(iterate 5 exact rfl))))|(apply R.isCall;first|(apply R.callE (vs:=[.agg ⟨tkC c s⟩]);(iterate 3 exact rfl);exact Ext.none _;intro w1 hw1;exact key_ok c s hs w1;rintro v Lo ⟨bk2,ov2,rfl,hov2,rfl⟩)|apply R.callP rfl rfl rfl (sender_off _ n h))|(apply R.pure;exact rfl;first|(apply Ok1.load;exact rfl;apply Ld.blkk;exact rfl;exact rfl;exact hb;exact List.not_mem_nil;exact ring_tk c hs m1 m2)|(apply Ok1.move;exact rfl)|(apply Ok1.fieldAddr;(iterate 5 exact rfl))|(apply Ok1.assign;exact rfl)|(apply Ok1.extract;exact rfl;exact rfl)|(apply Ok1.nilCheck;exact rfl)))|apply R.nil|(apply T.is;first|apply T.seq|apply T.region|apply T.skip|apply T.ret|(apply T.cond_f;exact rfl)))
  all_goals (apply RetOk.tt;exact rfl;exact rfl)
  all_goals exact ⟨_,by (focus ((repeat' (exact Keep.nil _));done)),rfl,rfl⟩
theorem rseed_off7 (br:Nat) (c:Cl) (s:List Int) (hs:s.length=32) (m1 m2:Nat) (e:TypeId) (n:Int) (h:n < 0 ∨ n > 3) (w:World) (hb:w.heap[br]? = some (.cells ⟨ringC c s m1 m2⟩ e (0,0))) :
    CallM Try.prog 44 [.pointer (some ⟨br,0,none⟩),.int .i64 n] [] w fun v L=>v = .tuple #[.pointer none,.int .i64 10]∧L=[]:=by
  refine enterK (tb:=tb) Try.func44 rfl Try.ntmps44 rfl ?_
  repeat' (first|(apply R.is1;first|(apply R.isBin;(apply R.pure;exact rfl;(apply Ok1.eqlP;(iterate 5 exact rfl))))|(apply R.isCall;first|(apply R.callE (vs:=[.agg ⟨tkC c s⟩]);(iterate 3 exact rfl);exact Ext.none _;intro w1 hw1;exact key_ok c s hs w1;rintro v Lo ⟨bk2,ov2,rfl,hov2,rfl⟩)|apply R.callP rfl rfl rfl (seed_off _ n h))|(apply R.pure;exact rfl;first|(apply Ok1.load;exact rfl;apply Ld.blkk;exact rfl;exact rfl;exact hb;exact List.not_mem_nil;exact ring_tk c hs m1 m2)|(apply Ok1.move;exact rfl)|(apply Ok1.fieldAddr;(iterate 5 exact rfl))|(apply Ok1.assign;exact rfl)|(apply Ok1.extract;exact rfl;exact rfl)|(apply Ok1.nilCheck;exact rfl)))|apply R.nil|(apply T.is;first|apply T.seq|apply T.region|apply T.skip|apply T.ret|(apply T.cond_f;exact rfl)))
  all_goals (apply RetOk.tt;exact rfl;exact rfl)
  all_goals exact ⟨_,by (focus ((repeat' (exact Keep.nil _));done)),rfl,rfl⟩
theorem rseed_ok7 (br:Nat) (c:Cl) (s:List Int) (hs:s.length=32) (hsb:Byt s) (m1 m2:Nat) (e:TypeId) (n:Int) (h1:0≤n) (h2:n≤3) (w:World) (hb:w.heap[br]? = some (.cells ⟨ringC c s m1 m2⟩ e (0,0))) :
    CallM Try.prog 44 [.pointer (some ⟨br,0,none⟩),.int .i64 n] [] w fun v L=>∃ bk' ov,v = .tuple #[.pointer (some ⟨bk',0,none⟩),.int .i64 0]∧OvOk 1 ov 32 (u8s (seedI s n))∧L=KL bk' ov (seedI s n):=by
  refine enterK (tb:=tb) Try.func44 rfl Try.ntmps44 rfl ?_
  repeat' (first|(apply R.is1;first|(apply R.isBin;(apply R.pure;exact rfl;(apply Ok1.eqlP;(iterate 5 exact rfl))))|(apply R.isCall;first|(apply R.callE (vs:=[.agg ⟨tkC c s⟩]);(iterate 3 exact rfl);exact Ext.none _;intro w1 hw1;exact key_ok c s hs w1;rintro v Lo ⟨bk2,ov2,rfl,hov2,rfl⟩)|(apply R.callE (vs:=[.pointer (some ⟨bk2,0,none⟩),.int .i64 n]);(iterate 3 exact rfl);exact Ext.none _;intro w1 hw1;exact seed_ok bk2 s (by rw [hs];decide) hsb n h1 h2 w1 (KeyR.of (by rw [hs];exact hov2) hw1 (Ext.mem (by (focus ((repeat' (exact Ext.here _ _));done)))));rintro v Lo ⟨bk3,ov3,rfl,hov3,rfl⟩))|(apply R.pure;exact rfl;first|(apply Ok1.load;exact rfl;apply Ld.blkk;exact rfl;exact rfl;exact hb;exact List.not_mem_nil;exact ring_tk c hs m1 m2)|(apply Ok1.move;exact rfl)|(apply Ok1.fieldAddr;(iterate 5 exact rfl))|(apply Ok1.assign;exact rfl)|(apply Ok1.extract;exact rfl;exact rfl)|(apply Ok1.nilCheck;exact rfl)))|apply R.nil|(apply T.is;first|apply T.seq|apply T.region|apply T.skip|apply T.ret|(apply T.cond_f;exact rfl)))
  all_goals (apply RetOk.tt;exact rfl;exact rfl)
  all_goals refine ⟨_,?_,bk3,ov3,rfl,hov3,rfl⟩
  all_goals (focus (repeat' first|exact Ext.one _ _|exact Ext.here _ _|apply Keep.cons|apply Keep.last);done)
/-- What is wrong with a kind and its place;the key for it. -/
def notI (k:IntKind) (x y:Int):Int:=k.wrap (BitVec.ofInt k.bits x &&& ~~~ BitVec.ofInt k.bits y).toNat
section
variable {X:Cx} {σ:Env} {L:Lst} {d:Option Nat} {ty ty2 t:TypeId} {pos:String} {af:Array Edge} {g:Option (Nat × Bool)} {x y:Operand} {i j:Int} {k:IntKind}
theorem Ok1.notK (hx:ev σ x=some (.int k i)) (hy:ev σ y=some (.int k j)):Ok1 X ⟨d,.binOp .andNot t x y ty2,ty,pos,af,g⟩ σ L (.int k (notI k i j)):=.mk fun a w ha hw=>by
  simp [execOp,ha.ev hx,ha.ev hy,eqGuard,binOp,Op.intBits,notI]
end
/-- Has a mask a role's bit? -/
def hasB (M r:Int):Bool:=decide (notI .i64 (pw r.toNat) M=0)
def hlv7:Nat→Int→Int
  | 0,m=>m
  | n+1,m=>hlv7 n m / 2
theorem hasB_hlv:∀ (m:Fin 256) (r:Fin 8),hasB (m.val:Int) (r.val:Int)=decide (hlv7 r.val (m.val:Int) % 2=1):=by decide +kernel
theorem covers_ok (M m:Int):CallP Try.prog 83 [.int .i64 M,.int .i64 m] (.bool (decide (notI .i64 m M=0))):=by
  refine enterP (tb:=tb) Try.func83 rfl Try.ntmps83 rfl fun w=>?_
  by_cases h:notI .i64 m M=0
  · rw [decide_eq_true h]
    repeat' (first|(apply R.is1;first|(apply R.isBin;(apply R.pure;exact rfl;first|(apply Ok1.notK;exact rfl;exact rfl)|(apply Ok1.eql_t;exact rfl;exact rfl;omega)))|(apply R.pure;exact rfl;first|(apply Ok1.move;exact rfl)|(apply Ok1.assign;exact rfl)))|apply R.nil|(apply T.is;first|apply T.seq|apply T.region|apply T.ret))
    all_goals skip
    (apply RetOk.t;exact rfl)
    rfl
  · rw [decide_eq_false h]
    repeat' (first|(apply R.is1;first|(apply R.isBin;(apply R.pure;exact rfl;first|(apply Ok1.notK;exact rfl;exact rfl)|(apply Ok1.eql_f;exact rfl;exact rfl;omega)))|(apply R.pure;exact rfl;first|(apply Ok1.move;exact rfl)|(apply Ok1.assign;exact rfl)))|apply R.nil|(apply T.is;first|apply T.seq|apply T.region|apply T.ret))
    all_goals skip
    (apply RetOk.t;exact rfl)
    rfl
theorem mask1_ok (p:Option Addr) (cap:Nat) (r:Int) (h0:0≤r) (h7:r≤7) (w:World) (hp:RdSl w p iV [r]):CallW Try.prog 82 [.slice p 1 cap] w fun v _=>v = .tuple #[.int .i64 (pw r.toNat),.int .i64 0]:=by
  obtain ⟨bb,o,hpe,H⟩:=hp.at (i:=0) rfl
  replace H:=H 1 iV_len
  have hr:r=0 ∨ r=1 ∨ r=2 ∨ r=3 ∨ r=4 ∨ r=5 ∨ r=6 ∨ r=7:=by omega
  refine enterW (tb:=tb) Try.func82 rfl Try.ntmps82 rfl ?_
  rcases hr with rfl|rfl|rfl|rfl|rfl|rfl|rfl|rfl
  all_goals repeat' (first|(apply R.is1;first|(apply R.isBin;(apply R.pure;exact rfl;first|(apply Ok1.shl;exact rfl;exact rfl;omega;decide;exact rfl)|(apply Ok1.orK;exact rfl;exact rfl)|(apply Ok1.add64;exact rfl;exact rfl;omega;omega)|(apply Ok1.lss_t;exact rfl;exact rfl;omega)|(apply Ok1.lss_f;exact rfl;exact rfl;omega)|(apply Ok1.geq_f;exact rfl;exact rfl;omega)))|(apply R.isCall;(apply R.pure;exact rfl;(apply Ok1.lenS;(iterate 3 exact rfl))))|(apply R.pure;exact rfl;first|(apply Ok1.indexAddrP;(iterate 4 exact rfl);exact hpe;exact rfl;omega;omega)|(apply Ok1.load;exact rfl;apply Ld.row0 H;exact rfl;exact List.not_mem_nil;(iterate 3 exact rfl))|(apply Ok1.move;exact rfl)|(apply Ok1.assign;exact rfl)|(apply Ok1.pick_f;exact rfl;exact rfl)))|(apply R.isG;(apply R.guard_run;exact rfl;exact rfl))|apply R.nil|(apply T.is;first|apply T.rounds 2|apply T.seq|apply T.region|apply T.block|apply T.skip|apply T.exit|apply T.ret|(apply T.cond_t;exact rfl)|(apply T.cond_f;exact rfl)))
  all_goals (apply RetOk.tt;exact rfl;exact rfl)
  all_goals rfl
theorem has1_ok (c:Cl) (p:Option Addr) (cap:Nat) (r:Int) (h0:0≤r) (h7:r≤7) (w:World) (hp:RdSl w p iV [r]):CallW Try.prog 66 [kvC c,.slice p 1 cap] w fun v _=>v = .bool (hasB c.roles r):=by
  have hm:=fun w1 (h:Chg [] w w1)=>mask1_ok p cap r h0 h7 w1 (hp.chg' h (fun _=>Off.nil _))
  have hcv:=covers_ok c.roles (pw r.toNat)
  unfold hasB
  simp only [kvC]
  refine enterW (tb:=tb) Try.func66 rfl Try.ntmps66 rfl ?_
  generalize pw r.toNat=pr at *
  repeat' (first|(apply R.is1;first|(apply R.isBin;(apply R.pure;exact rfl;(apply Ok1.eql_t;exact rfl;exact rfl;omega)))|(apply R.isCall;first|(apply R.callV (vs:=[.slice p 1 cap]);(iterate 3 exact rfl);intro w1 hw1;exact hm w1 hw1.chg)|apply R.callP rfl rfl rfl hcv)|(apply R.pure;exact rfl;first|(apply Ok1.load;exact rfl;(apply Ld.own1;exact rfl;exact rfl;exact At.head;exact rfl))|(apply Ok1.move;exact rfl)|(apply Ok1.fieldAddr;(iterate 5 exact rfl))|(apply Ok1.assign;exact rfl)|(apply Ok1.extract;exact rfl;exact rfl)|(apply Ok1.pick_t;exact rfl;exact rfl))|(apply R.box;(iterate 3 exact rfl);intro))|(apply R.isG;(apply R.guard_run;exact rfl;exact rfl))|apply R.nil|(apply T.is;first|apply T.seq|apply T.region|apply T.ret))
  all_goals (apply RetOk.t;exact rfl)
  all_goals rfl
section
variable (br:Nat) (c:Cl) (s:List Int) (hs:s.length=32) (m1 m2:Nat) (e9:TypeId) (f9:Nat × Nat)
theorem rlearn_range (r:Int) (h:r < 0 ∨ 7 < r) (k:Option Addr):CallP Try.prog 36 [.pointer (some ⟨br,0,none⟩),.int .i64 r,.pointer k] (.int .i64 10):=by
  refine enterP (tb:=tb) Try.func36 rfl Try.ntmps36 rfl fun w=>?_
  repeat' (first|(apply R.is1;first|(apply R.isBin;first|(apply R.pure;exact rfl;first|(apply Ok1.eqlP;(iterate 5 exact rfl))|(apply Ok1.geq_t;exact rfl;exact rfl;omega))|(apply R.lss rfl rfl rfl<;>intro))|(apply R.pure;exact rfl;first|(apply Ok1.move;exact rfl)|(apply Ok1.assign;exact rfl)|(apply Ok1.pick_t;exact rfl;exact rfl)|(apply Ok1.pick_f;exact rfl;exact rfl)))|(apply R.isG;first|(apply R.guard_run;exact rfl;exact rfl)|(apply R.guard_not;(iterate 3 exact rfl)))|apply R.nil|(apply T.is;first|apply T.seq|apply T.region|apply T.block|apply T.ret|(apply T.cond_t;exact rfl)|(apply T.cond_f;exact rfl)))
  all_goals skip
  all_goals (apply RetOk.t;exact rfl)
  all_goals rfl
theorem rlearn_nok (r:Int) (h0:0≤r) (h7:r≤7):CallP Try.prog 36 [.pointer (some ⟨br,0,none⟩),.int .i64 r,.pointer none] (.int .i64 1):=by
  refine enterP (tb:=tb) Try.func36 rfl Try.ntmps36 rfl fun w=>?_
  repeat' (first|(apply R.is1;first|(apply R.isBin;(apply R.pure;exact rfl;first|(apply Ok1.eqlP;(iterate 5 exact rfl))|(apply Ok1.lss_f;exact rfl;exact rfl;omega)|(apply Ok1.geq_f;exact rfl;exact rfl;omega)))|(apply R.pure;exact rfl;first|(apply Ok1.move;exact rfl)|(apply Ok1.assign;exact rfl)|(apply Ok1.pick_f;exact rfl;exact rfl)))|(apply R.isG;(apply R.guard_run;exact rfl;exact rfl))|apply R.nil|(apply T.is;first|apply T.seq|apply T.region|apply T.block|apply T.ret|(apply T.cond_t;exact rfl)|(apply T.cond_f;exact rfl)))
  all_goals skip
  all_goals (apply RetOk.t;exact rfl)
  all_goals rfl
def putK (ms:Ms Int KE) (clk:Nat) (r:Int) (x:KE):Ms Int KE × Nat:=match mget r ms with
  | some _=>(mset r x ms,clk)
  | none=>(ms++[(r,x,clk)],clk+1)
theorem rlearn_ok (hs:s.length=32) (ms:Ms Int KE) (clk:Nat) (r:Int) (h0:0≤r) (h7:r≤7) (bk:Nat) (K:List Int) (hK:K.length≤1000000) (w:World) (hb:w.heap[br]? = some (.cells ⟨ringC c s m1 m2⟩ e9 f9)) (hm:br ∉ [m2]) (hkc:∀ w1,Chg [m2] w w1→KeyR w1 bk K) :
    CallM Try.prog 36 [.pointer (some ⟨br,0,none⟩),.int .i64 r,.pointer (some ⟨bk,0,none⟩)] [(m2,mobj kvR vvE ms clk)] w fun v L=>(hasB c.roles r=false∧v = .int .i64 12∧L=[(m2,mobj kvR vvE ms clk)]) ∨ (hasB c.roles r=true∧v = .int .i64 0∧∃ x:KE,x.K=K∧x.ok∧L=x.L++[(m2,mobj kvR vvE (putK ms clk r x).1 (putK ms clk r x).2)]):=by
  have hby:=fun w1 h=>bytes_ok bk K (by omega) w1 h
  have hx1:=ring_x1 (c:=c) hs m1 m2
  have hx2:=ring_x2 (c:=c) hs m1 m2
  have hcl:=ring_cl c (s:=s) m1 m2
  have hha:=fun p cap w1 h=>has1_ok c p cap r h0 h7 w1 h
  have ki:=KeyT.intK (P:=Try.prog) tb (t:=3) rfl rfl
  have hcc:clC c=[.int .i64 c.id,.int .i64 c.roles,.int .i64 c.exp,.int .i64 c.ser]:=rfl
  simp only [kvC] at hha
  rw [hcc] at hcl
  cases hB:hasB c.roles r with
  | false =>
    rw [hB] at hha
    refine enterK (tb:=tb) Try.func36 rfl Try.ntmps36 rfl ?_
    repeat' (first|(apply R.is1;first|(apply R.isBin;(apply R.pure;exact rfl;first|(apply Ok1.eqlP;(iterate 5 exact rfl))|(apply Ok1.lss_f;exact rfl;exact rfl;omega)|(apply Ok1.geq_f;exact rfl;exact rfl;omega)))|(apply R.isCall;(apply R.callV (vs:=[.agg ⟨_⟩,.slice (some ⟨_,0,none⟩) 1 1]);(iterate 3 exact rfl);intro w1 hw1;exact hha _ _ w1 (RdSl.of (junk:=[]) hw1 (by exact At.head) rfl)))|(apply R.pure;exact rfl;first|(apply Ok1.load;exact rfl;(apply Ld.blkk;exact rfl;exact rfl;exact hb;exact hm;exact hcl))|(apply Ok1.move;exact rfl)|(apply Ok1.fieldAddr;(iterate 5 exact rfl))|(apply Ok1.assign;exact rfl)|(apply Ok1.pick_f;exact rfl;exact rfl)|(apply Ok1.not_f;exact rfl)|(apply Ok1.nilCheck;exact rfl))|(apply R.buildSlice;(iterate 12 exact rfl);intro))|(apply R.isG;(apply R.guard_run;exact rfl;exact rfl))|apply R.nil|(apply T.is;first|apply T.seq|apply T.region|apply T.block|apply T.ret|(apply T.cond_t;exact rfl)|(apply T.cond_f;exact rfl)))
    all_goals skip
    (apply RetOk.t;exact rfl)
    exact ⟨_,by (focus (repeat' first|exact Keep.nil _|exact Ext.one _ _|apply Keep.cons|apply Ext.cons);done),.inl ⟨rfl,rfl,rfl⟩⟩
  | true =>
    rw [hB] at hha
    unfold putK
    cases hg:mget r ms with
    | some a =>
      refine enterK (tb:=tb) Try.func36 rfl Try.ntmps36 rfl ?_
      repeat' (first|(apply R.is1;first|(apply R.isBin;(apply R.pure;exact rfl;first|(apply Ok1.eqlP;(iterate 5 exact rfl))|(apply Ok1.lss_f;exact rfl;exact rfl;omega)|(apply Ok1.geq_f;exact rfl;exact rfl;omega)))|(apply R.isCall;(apply R.callV (vs:=[.agg ⟨_⟩,.slice (some ⟨_,0,none⟩) 1 1]);(iterate 3 exact rfl);intro w1 hw1;exact hha _ _ w1 (RdSl.of (junk:=[]) hw1 (by exact At.head) rfl)))|(apply R.pure;exact rfl;first|(apply Ok1.load;exact rfl;(apply Ld.blkk;exact rfl;exact rfl;exact hb;exact hm;exact hcl))|(apply Ok1.move;exact rfl)|(apply Ok1.fieldAddr;(iterate 5 exact rfl))|(apply Ok1.assign;exact rfl)|(apply Ok1.pick_f;exact rfl;exact rfl)|(apply Ok1.not_t;exact rfl)|(apply Ok1.nilCheck;exact rfl))|(apply R.buildSlice;(iterate 12 exact rfl);intro))|(apply R.isG;(apply R.guard_run;exact rfl;exact rfl))|apply R.nil|(apply T.is;first|(apply T.drawC (id:=9) [] (by decide);((apply A.tk 0;exact rfl;kernel_rfl;(apply Ok1.move;exact rfl))<;>(apply A.tk 1;exact rfl;kernel_rfl;(apply Ok1.nilCheck;exact rfl))<;>(apply A.tk 2;exact rfl;kernel_rfl;(apply Ok1.fieldAddr;(iterate 5 exact rfl)))<;>(apply A.tk 3;exact rfl;kernel_rfl;(apply Ok1.load;exact rfl;(apply Ld.blk1;exact rfl;exact rfl;exact hb;exact hm;exact hx2)))<;>(apply A.tk 4;exact rfl;kernel_rfl;(apply Ok1.move;exact rfl))<;>(apply A.tk 5;exact rfl;kernel_rfl;(apply Ok1.move;exact rfl))<;>(apply A.one 6;kernel_rfl;exact rfl;(((apply R.callE (vs:=[.pointer (some ⟨bk,0,none⟩)]);(iterate 3 exact rfl);exact Ext.none _;intro w1 hw1;exact hby w1 (hkc w1 hw1.chg);rintro v Lo ⟨oc,hoc,rfl,rfl⟩;rw [slV_eq hoc])));apply R.nil;refine ⟨?_,?_⟩;(focus ((repeat' (exact trivial)))))<;>(apply A.one 7;kernel_rfl;exact rfl;(((apply R.callE (vs:=[.slice (ovp oc) K.length (ovc oc K.length)]);(iterate 3 exact rfl);exact Ext.none _;intro w1 hw1;exact new_ok (ovp oc) K.length (ovc oc K.length) K rfl (by omega) w1 (rdown hoc hw1 (Ext.mem (by (focus ((repeat' (exact Ext.here _ _));done)))));rintro v Lo ⟨bk2,ov2,rfl,hov2,_,rfl⟩)));apply R.nil;refine ⟨?_,?_⟩;(focus ((repeat' (exact trivial)))))<;>(apply A.one 8;kernel_rfl;exact rfl;(((apply R.mapSet_old (kv:=kvR) (vv:=vvE) (a:=⟨bk2,ov2,K⟩) r ki;(iterate 7 exact rfl);(focus (repeat' first|exact Upd.head|apply Upd.tail|apply Upd.right);done);exact hg)));apply R.nil;refine ⟨?_,?_⟩;(focus ((repeat' (exact trivial)))))<;>(apply A.done;kernel_rfl)))|apply T.seq|apply T.region|apply T.block|apply T.skip|apply T.ret|(apply T.cond_f;exact rfl)))
      all_goals skip
      all_goals (apply RetOk.t;exact rfl)
      all_goals refine ⟨_,?_,.inr ⟨rfl,rfl,⟨bk2,ov2,K⟩,rfl,hov2,rfl⟩⟩
      all_goals simp only [KE.L,KL]
      all_goals generalize blkL 5 ov2 (u8s K)=K2
      all_goals (focus (repeat' first|exact Keep.nil _|exact Ext.one _ _|exact Ext.here _ _|apply Keep.cons|apply Keep.app|apply Ext.cons|apply Ext.app);done)
    | none =>
      refine enterK (tb:=tb) Try.func36 rfl Try.ntmps36 rfl ?_
      repeat' (first|(apply R.is1;first|(apply R.isBin;(apply R.pure;exact rfl;first|(apply Ok1.eqlP;(iterate 5 exact rfl))|(apply Ok1.lss_f;exact rfl;exact rfl;omega)|(apply Ok1.geq_f;exact rfl;exact rfl;omega)))|(apply R.isCall;(apply R.callV (vs:=[.agg ⟨_⟩,.slice (some ⟨_,0,none⟩) 1 1]);(iterate 3 exact rfl);intro w1 hw1;exact hha _ _ w1 (RdSl.of (junk:=[]) hw1 (by exact At.head) rfl)))|(apply R.pure;exact rfl;first|(apply Ok1.load;exact rfl;(apply Ld.blkk;exact rfl;exact rfl;exact hb;exact hm;exact hcl))|(apply Ok1.move;exact rfl)|(apply Ok1.fieldAddr;(iterate 5 exact rfl))|(apply Ok1.assign;exact rfl)|(apply Ok1.pick_f;exact rfl;exact rfl)|(apply Ok1.not_t;exact rfl)|(apply Ok1.nilCheck;exact rfl))|(apply R.buildSlice;(iterate 12 exact rfl);intro))|(apply R.isG;(apply R.guard_run;exact rfl;exact rfl))|apply R.nil|(apply T.is;first|(apply T.drawC (id:=9) [] (by decide);((apply A.tk 0;exact rfl;kernel_rfl;(apply Ok1.move;exact rfl))<;>(apply A.tk 1;exact rfl;kernel_rfl;(apply Ok1.nilCheck;exact rfl))<;>(apply A.tk 2;exact rfl;kernel_rfl;(apply Ok1.fieldAddr;(iterate 5 exact rfl)))<;>(apply A.tk 3;exact rfl;kernel_rfl;(apply Ok1.load;exact rfl;(apply Ld.blk1;exact rfl;exact rfl;exact hb;exact hm;exact hx2)))<;>(apply A.tk 4;exact rfl;kernel_rfl;(apply Ok1.move;exact rfl))<;>(apply A.tk 5;exact rfl;kernel_rfl;(apply Ok1.move;exact rfl))<;>(apply A.one 6;kernel_rfl;exact rfl;(((apply R.callE (vs:=[.pointer (some ⟨bk,0,none⟩)]);(iterate 3 exact rfl);exact Ext.none _;intro w1 hw1;exact hby w1 (hkc w1 hw1.chg);rintro v Lo ⟨oc,hoc,rfl,rfl⟩;rw [slV_eq hoc])));apply R.nil;refine ⟨?_,?_⟩;(focus ((repeat' (exact trivial)))))<;>(apply A.one 7;kernel_rfl;exact rfl;(((apply R.callE (vs:=[.slice (ovp oc) K.length (ovc oc K.length)]);(iterate 3 exact rfl);exact Ext.none _;intro w1 hw1;exact new_ok (ovp oc) K.length (ovc oc K.length) K rfl (by omega) w1 (rdown hoc hw1 (Ext.mem (by (focus ((repeat' (exact Ext.here _ _));done)))));rintro v Lo ⟨bk2,ov2,rfl,hov2,_,rfl⟩)));apply R.nil;refine ⟨?_,?_⟩;(focus ((repeat' (exact trivial)))))<;>(apply A.one 8;kernel_rfl;exact rfl;(((apply R.mapSet_new (kv:=kvR) (vv:=vvE) (a:=⟨bk2,ov2,K⟩) r ki;(iterate 7 exact rfl);(focus (repeat' first|exact Upd.head|apply Upd.tail|apply Upd.right);done);exact hg)));apply R.nil;refine ⟨?_,?_⟩;(focus ((repeat' (exact trivial)))))<;>(apply A.done;kernel_rfl)))|apply T.seq|apply T.region|apply T.block|apply T.skip|apply T.ret|(apply T.cond_f;exact rfl)))
      all_goals skip
      all_goals (apply RetOk.t;exact rfl)
      all_goals refine ⟨_,?_,.inr ⟨rfl,rfl,⟨bk2,ov2,K⟩,rfl,hov2,rfl⟩⟩
      all_goals simp only [KE.L,KL]
      all_goals generalize blkL 5 ov2 (u8s K)=K2
      all_goals (focus (repeat' first|exact Keep.nil _|exact Ext.one _ _|exact Ext.here _ _|apply Keep.cons|apply Keep.app|apply Ext.cons|apply Ext.app);done)
theorem rlabel_range (r:Int) (h:r < 0 ∨ 7 < r):CallP Try.prog 38 [.pointer (some ⟨br,0,none⟩),.int .i64 r] (.tuple #[.pointer none,.int .i64 10]):=by
  refine enterP (tb:=tb) Try.func38 rfl Try.ntmps38 rfl fun w=>?_
  repeat' (first|(apply R.is1;first|(apply R.isBin;first|(apply R.pure;exact rfl;first|(apply Ok1.eqlP;(iterate 5 exact rfl))|(apply Ok1.geq_t;exact rfl;exact rfl;omega))|(apply R.lss rfl rfl rfl<;>intro))|(apply R.pure;exact rfl;first|(apply Ok1.move;exact rfl)|(apply Ok1.assign;exact rfl)|(apply Ok1.pick_t;exact rfl;exact rfl)|(apply Ok1.pick_f;exact rfl;exact rfl)))|(apply R.isG;first|(apply R.guard_run;exact rfl;exact rfl)|(apply R.guard_not;(iterate 3 exact rfl)))|apply R.nil|(apply T.is;first|apply T.seq|apply T.region|apply T.block|apply T.ret|(apply T.cond_t;exact rfl)|(apply T.cond_f;exact rfl)))
  all_goals skip
  all_goals (apply RetOk.tt;exact rfl;exact rfl)
  all_goals rfl
theorem rlabel_none (hs:s.length=32) (ms:Ms Int KE) (clk:Nat) (r:Int) (h0:0≤r) (h7:r≤7) (hg:mget r ms=none) (w:World) (hb:w.heap[br]? = some (.cells ⟨ringC c s m1 m2⟩ e9 f9)) (hm:br ∉ [m2]) :
    CallM Try.prog 38 [.pointer (some ⟨br,0,none⟩),.int .i64 r] [(m2,mobj kvR vvE ms clk)] w fun v L=>v = .tuple #[.pointer none,.int .i64 7]∧L=[(m2,mobj kvR vvE ms clk)]:=by
  have hx1:=ring_x1 (c:=c) hs m1 m2
  have hx2:=ring_x2 (c:=c) hs m1 m2
  have hcl:=ring_cl c (s:=s) m1 m2
  have ki:=KeyT.intK (P:=Try.prog) tb (t:=3) rfl rfl
  refine enterK (tb:=tb) Try.func38 rfl Try.ntmps38 rfl ?_
  repeat' (first|(apply R.is1;first|(apply R.isBin;(apply R.pure;exact rfl;first|(apply Ok1.eqlP;(iterate 5 exact rfl))|(apply Ok1.lss_f;exact rfl;exact rfl;omega)|(apply Ok1.geq_f;exact rfl;exact rfl;omega)))|(apply R.pure;exact rfl;first|(apply Ok1.load;exact rfl;(apply Ld.blk1;exact rfl;exact rfl;exact hb;exact hm;exact hx2))|(apply Ok1.lookup_none (kv:=kvR) (vv:=vvE) r ki;(iterate 6 exact rfl);exact At.head;assumption;(exact (if_neg Bool.false_ne_true).symm))|(apply Ok1.move;exact rfl)|(apply Ok1.fieldAddr;(iterate 5 exact rfl))|(apply Ok1.assign;exact rfl)|(apply Ok1.pick_f;exact rfl;exact rfl)|(apply Ok1.nilCheck;exact rfl)))|(apply R.isG;(apply R.guard_run;exact rfl;exact rfl))|apply R.nil|(apply T.is;first|apply T.seq|apply T.region|apply T.block|apply T.ret|(apply T.cond_t;exact rfl)|(apply T.cond_f;exact rfl)))
  all_goals skip
  (apply RetOk.tt;exact rfl;exact rfl)
  exact ⟨_,by (focus (repeat' first|exact Keep.nil _|exact Ext.one _ _|apply Keep.cons);done),rfl,rfl⟩
theorem rlabel_ok (hs:s.length=32) (ms:Ms Int KE) (clk:Nat) (r:Int) (h0:0≤r) (h7:r≤7) (x:KE) (hg:mget r ms=some x) (hK:x.K.length≤1000000) (w:World) (hb:w.heap[br]? = some (.cells ⟨ringC c s m1 m2⟩ e9 f9)) (hm:br ∉ [m2]) (hkc:∀ w1,Chg [m2] w w1→KeyR w1 x.bk x.K) :
    CallM Try.prog 38 [.pointer (some ⟨br,0,none⟩),.int .i64 r] [(m2,mobj kvR vvE ms clk)] w fun v L=>∃ y:KE,y.K=x.K∧y.ok∧v = .tuple #[.pointer (some ⟨y.bk,0,none⟩),.int .i64 0]∧L=y.L++[(m2,mobj kvR vvE ms clk)]:=by
  obtain ⟨bk,ovk,K⟩:=x
  simp only at hK hkc ⊢
  have hby:=fun w1 h=>bytes_ok bk K (by omega) w1 h
  have hx1:=ring_x1 (c:=c) hs m1 m2
  have hx2:=ring_x2 (c:=c) hs m1 m2
  have hcl:=ring_cl c (s:=s) m1 m2
  have ki:=KeyT.intK (P:=Try.prog) tb (t:=3) rfl rfl
  refine enterK (tb:=tb) Try.func38 rfl Try.ntmps38 rfl ?_
  repeat' (first|(apply R.is1;first|(apply R.isBin;(apply R.pure;exact rfl;first|(apply Ok1.eqlP;(iterate 5 exact rfl))|(apply Ok1.lss_f;exact rfl;exact rfl;omega)|(apply Ok1.geq_f;exact rfl;exact rfl;omega)))|(apply R.isCall;first|(apply R.callE (vs:=[.pointer (some ⟨bk,0,none⟩)]);(iterate 3 exact rfl);exact Ext.none _;intro w1 hw1;exact hby w1 (hkc w1 hw1.chg);rintro v Lo ⟨oc,hoc,rfl,rfl⟩;rw [slV_eq hoc])|(apply R.callE (vs:=[.slice (ovp oc) K.length (ovc oc K.length)]);(iterate 3 exact rfl);exact Ext.none _;intro w1 hw1;exact new_ok (ovp oc) K.length (ovc oc K.length) K rfl (by omega) w1 (rdown hoc hw1 (Ext.mem (by (focus ((repeat' (exact Ext.here _ _));done)))));rintro v Lo ⟨bk2,ov2,rfl,hov2,_,rfl⟩))|(apply R.pure;exact rfl;first|(apply Ok1.load;exact rfl;(apply Ld.blk1;exact rfl;exact rfl;exact hb;exact hm;exact hx2))|(apply Ok1.lookup_some (kv:=kvR) (vv:=vvE) r ki;(iterate 6 exact rfl);exact At.head;assumption;(exact (if_neg Bool.false_ne_true).symm))|(apply Ok1.move;exact rfl)|(apply Ok1.fieldAddr;(iterate 5 exact rfl))|(apply Ok1.assign;exact rfl)|(apply Ok1.pick_f;exact rfl;exact rfl)|(apply Ok1.nilCheck;exact rfl)))|(apply R.isG;(apply R.guard_run;exact rfl;exact rfl))|apply R.nil|(apply T.is;first|apply T.seq|apply T.region|apply T.block|apply T.skip|apply T.ret|(apply T.cond_f;exact rfl)))
  all_goals skip
  all_goals (apply RetOk.tt;exact rfl;exact rfl)
  all_goals refine ⟨_,?_,⟨bk2,ov2,K⟩,rfl,hov2,rfl,rfl⟩
  all_goals simp only [KE.L,KL]
  all_goals generalize blkL 5 ov2 (u8s K)=K2
  all_goals (focus (repeat' first|exact Keep.nil _|exact Ext.one _ _|exact Ext.here _ _|apply Keep.cons|apply Keep.app|apply Ext.app);done)
end
end Go.Proofs.Ytijbmkjebidanaa
set_option linter.unusedSimpArgs false
set_option linter.unusedVariables false
namespace Go.Proofs.Ytijbmkjebidanaa
open Go.RowKit Go.Shelf Go.Sort
set_option maxRecDepth 100000
section
variable (br:Nat) (c:Cl) (s:List Int) (hs:s.length=32) (m1 m2:Nat) (e9:TypeId) (f9:Nat × Nat)
theorem rdrop2_ok (hs:s.length=32) (ms:Ms Cl KE) (clk:Nat) (hnd:(mkeys ms).Nodup) (hl:ms.length≤1000) (d:Cl) (p:Option Addr) (cap:Nat) (w:World) (hp:RdSl w p Cl.v [d,d]) (hq:Off p [m1]) (hb:w.heap[br]? = some (.cells ⟨ringC c s m1 m2⟩ e9 f9)) (hm:br ∉ [m1]) :
    CallM Try.prog 32 [.pointer (some ⟨br,0,none⟩),.slice p 2 cap] [(m1,mobj kvC vvE ms clk)] w fun v L=>v = .int .i64 (if mget d ms=none then 0 else 1)∧L=[(m1,mobj kvC vvE (mdel d ms) clk)]:=by
  have hx1:=ring_x1 (c:=c) hs m1 m2
  have hx2:=ring_x2 (c:=c) hs m1 m2
  have hcl:=ring_cl c (s:=s) m1 m2
  obtain ⟨bb,o,hpe,H⟩:=hp.at (i:=0) rfl
  obtain ⟨bb2,o2,hpe2,H2⟩:=hp.at (i:=1) rfl
  cases hpe.symm.trans hpe2
  replace H:=H 4 Cl.v_len
  replace H2:=H2 4 Cl.v_len
  have hS:bb ∉ [m1]:=hq _ hpe
  have hS2:bb ∉ [m1]:=hS
  have hg2:mget d (mdel d ms)=none:=by rw [mget_mdel d hnd,if_pos rfl]
  cases hg:mget d ms with
  | none =>
    rw [mdel_none d ms hg,if_pos rfl]
    refine enterK (tb:=tb) Try.func32 rfl Try.ntmps32 rfl ?_
    repeat' (first|(apply R.is1;first|(apply R.isBin;(apply R.pure;exact rfl;first|(apply Ok1.eqlP;(iterate 5 exact rfl))|(apply Ok1.add64;exact rfl;exact rfl;omega;omega)|(apply Ok1.lss_t;exact rfl;exact rfl;omega)))|(apply R.isCall;(apply R.pure;exact rfl;(apply Ok1.lenS;(iterate 3 exact rfl))))|(apply R.pure;exact rfl;first|(apply Ok1.indexAddrP;(iterate 4 exact rfl);exact hpe;exact rfl;omega;omega)|(apply Ok1.load;exact rfl;first|(apply Ld.rowk0 H;exact rfl;exact hS;(iterate 3 exact rfl))|(apply Ld.rowk0 H2;exact rfl;exact hS2;(iterate 3 exact rfl)))|(apply Ok1.move;exact rfl)|(apply Ok1.assign;exact rfl))|(apply R.alloc;(iterate 3 exact rfl);intro))|(apply R.is0;(apply R.store;(iterate 6 exact rfl);exact Upd.head;exact rfl))|apply R.nil|(apply T.is;first|apply T.rounds 3|(apply T.drawC (id:=7) [0,1] (by decide);((apply A.tk 0;exact rfl;kernel_rfl;(apply Ok1.move;exact rfl))<;>(apply A.tk 1;exact rfl;kernel_rfl;(apply Ok1.nilCheck;exact rfl))<;>(apply A.tk 2;exact rfl;kernel_rfl;(apply Ok1.fieldAddr;(iterate 5 exact rfl)))<;>(apply A.tk 3;exact rfl;kernel_rfl;(apply Ok1.load;exact rfl;((apply Ld.blk1;exact rfl;exact rfl;exact hb;exact hm;exact hx1))))<;>(apply A.tk 4;exact rfl;kernel_rfl;(apply Ok1.load;exact rfl;((apply Ld.ownk;exact rfl;exact rfl;exact At.head;exact rfl))))<;>(apply A.tk 5;exact rfl;kernel_rfl;(apply Ok1.lookup_none (kv:=kvC) (vv:=vvE) d ktK;(iterate 6 exact rfl);(focus (repeat' first|exact At.head|apply At.tail);done);assumption;(exact (if_neg Bool.false_ne_true).symm)))<;>((apply A.tk 6;exact rfl;kernel_rfl;(apply Ok1.eqlP;(iterate 5 exact rfl))))<;>(apply A.done;kernel_rfl)))|apply T.seq|apply T.region|apply T.block|apply T.scope|apply T.label|apply T.skip|apply T.exit|(apply T.cond_t;exact rfl)|(apply T.cond_f;exact rfl)))
    all_goals repeat' (first|(apply R.is1;first|(apply R.isBin;(apply R.pure;exact rfl;first|(apply Ok1.add64;exact rfl;exact rfl;omega;omega)|(apply Ok1.lss_f;exact rfl;exact rfl;omega)))|(apply R.pure;exact rfl;first|(apply Ok1.move;exact rfl)|(apply Ok1.assign;exact rfl)))|apply R.nil|(apply T.is;first|(apply T.drawC (id:=7) [0,2] (by decide);((apply A.tk 0;exact rfl;kernel_rfl;(apply Ok1.move;exact rfl))<;>(apply A.tk 1;exact rfl;kernel_rfl;(apply Ok1.nilCheck;exact rfl))<;>(apply A.tk 2;exact rfl;kernel_rfl;(apply Ok1.fieldAddr;(iterate 5 exact rfl)))<;>(apply A.tk 3;exact rfl;kernel_rfl;(apply Ok1.load;exact rfl;((apply Ld.blk1;exact rfl;exact rfl;exact hb;exact hm;exact hx1))))<;>(apply A.tk 4;exact rfl;kernel_rfl;(apply Ok1.load;exact rfl;((apply Ld.ownk;exact rfl;exact rfl;exact At.head;exact rfl))))<;>(apply A.tk 5;exact rfl;kernel_rfl;(apply Ok1.lookup_none (kv:=kvC) (vv:=vvE) d ktK;(iterate 6 exact rfl);(focus (repeat' first|exact At.head|apply At.tail);done);assumption;(exact (if_neg Bool.false_ne_true).symm)))<;>((apply A.tk 6;exact rfl;kernel_rfl;(apply Ok1.eqlP;(iterate 5 exact rfl))))<;>(apply A.done;kernel_rfl)))|apply T.seq|apply T.region|apply T.exit|apply T.ret|(apply T.cond_t;exact rfl)|(apply T.cond_f;exact rfl)))
    all_goals (apply RetOk.t;exact rfl)
    all_goals exact ⟨_,by (focus (repeat' first|exact Keep.nil _|exact Ext.one _ _|apply Keep.cons|apply Ext.cons);done),rfl,rfl⟩
  | some x =>
    rw [if_neg (by simp)]
    refine enterK (tb:=tb) Try.func32 rfl Try.ntmps32 rfl ?_
    repeat' (first|(apply R.is1;first|(apply R.isBin;(apply R.pure;exact rfl;first|(apply Ok1.eqlP;(iterate 5 exact rfl))|(apply Ok1.add64;exact rfl;exact rfl;omega;omega)|(apply Ok1.lss_t;exact rfl;exact rfl;omega)))|(apply R.isCall;(apply R.pure;exact rfl;(apply Ok1.lenS;(iterate 3 exact rfl))))|(apply R.pure;exact rfl;first|(apply Ok1.indexAddrP;(iterate 4 exact rfl);exact hpe;exact rfl;omega;omega)|(apply Ok1.load;exact rfl;first|(apply Ld.rowk0 H;exact rfl;exact hS;(iterate 3 exact rfl))|(apply Ld.rowk0 H2;exact rfl;exact hS2;(iterate 3 exact rfl)))|(apply Ok1.move;exact rfl)|(apply Ok1.assign;exact rfl))|(apply R.alloc;(iterate 3 exact rfl);intro))|(apply R.is0;(apply R.store;(iterate 6 exact rfl);exact Upd.head;exact rfl))|apply R.nil|(apply T.is;first|apply T.rounds 3|(apply T.drawC (id:=7) [0,1] (by decide);((apply A.tk 0;exact rfl;kernel_rfl;(apply Ok1.move;exact rfl))<;>(apply A.tk 1;exact rfl;kernel_rfl;(apply Ok1.nilCheck;exact rfl))<;>(apply A.tk 2;exact rfl;kernel_rfl;(apply Ok1.fieldAddr;(iterate 5 exact rfl)))<;>(apply A.tk 3;exact rfl;kernel_rfl;(apply Ok1.load;exact rfl;((apply Ld.blk1;exact rfl;exact rfl;exact hb;exact hm;exact hx1))))<;>(apply A.tk 4;exact rfl;kernel_rfl;(apply Ok1.load;exact rfl;((apply Ld.ownk;exact rfl;exact rfl;exact At.head;exact rfl))))<;>(apply A.tk 5;exact rfl;kernel_rfl;(apply Ok1.lookup_some (kv:=kvC) (vv:=vvE) d ktK;(iterate 6 exact rfl);(focus (repeat' first|exact At.head|apply At.tail);done);assumption;(exact (if_neg Bool.false_ne_true).symm)))<;>((apply A.tk 6;exact rfl;kernel_rfl;(apply Ok1.eqlP;(iterate 5 exact rfl))))<;>(apply A.done;kernel_rfl)))|(apply T.drawC (id:=8) [0] (by decide);((apply A.tk 0;exact rfl;kernel_rfl;(apply Ok1.move;exact rfl))<;>(apply A.tk 1;exact rfl;kernel_rfl;(apply Ok1.nilCheck;exact rfl))<;>(apply A.tk 2;exact rfl;kernel_rfl;(apply Ok1.fieldAddr;(iterate 5 exact rfl)))<;>(apply A.tk 3;exact rfl;kernel_rfl;(apply Ok1.load;exact rfl;((apply Ld.blk1;exact rfl;exact rfl;exact hb;exact hm;exact hx1))))<;>(apply A.tk 4;exact rfl;kernel_rfl;(apply Ok1.load;exact rfl;((apply Ld.ownk;exact rfl;exact rfl;exact At.head;exact rfl))))<;>(apply A.one 5;kernel_rfl;exact rfl;(((apply R.mapDel (vd:=none) (kv:=kvC) (vv:=vvE) d ktK;(iterate 5 exact rfl);(focus (repeat' first|exact Upd.head|apply Upd.tail);done))));apply R.nil;refine ⟨?_,?_⟩;(focus ((repeat' (first|exact trivial|(refine ⟨?_,?_⟩;exact At.head))))))<;>(apply A.done;kernel_rfl)))|apply T.seq|apply T.region|apply T.block|apply T.scope|apply T.label|apply T.skip|(apply T.cond_t;exact rfl)|(apply T.cond_f;exact rfl)))
    all_goals repeat' (first|(apply R.is1;first|(apply R.isBin;(apply R.pure;exact rfl;first|(apply Ok1.add64;exact rfl;exact rfl;omega;omega)|(apply Ok1.lss_f;exact rfl;exact rfl;omega)))|(apply R.pure;exact rfl;first|(apply Ok1.move;exact rfl)|(apply Ok1.assign;exact rfl)))|apply R.nil|(apply T.is;first|(apply T.drawC (id:=7) [0,2] (by decide);((apply A.tk 0;exact rfl;kernel_rfl;(apply Ok1.move;exact rfl))<;>(apply A.tk 1;exact rfl;kernel_rfl;(apply Ok1.nilCheck;exact rfl))<;>(apply A.tk 2;exact rfl;kernel_rfl;(apply Ok1.fieldAddr;(iterate 5 exact rfl)))<;>(apply A.tk 3;exact rfl;kernel_rfl;(apply Ok1.load;exact rfl;((apply Ld.blk1;exact rfl;exact rfl;exact hb;exact hm;exact hx1))))<;>(apply A.tk 4;exact rfl;kernel_rfl;(apply Ok1.load;exact rfl;((apply Ld.ownk;exact rfl;exact rfl;exact At.head;exact rfl))))<;>(apply A.tk 5;exact rfl;kernel_rfl;(apply Ok1.lookup_none (kv:=kvC) (vv:=vvE) d ktK;(iterate 6 exact rfl);(focus (repeat' first|exact At.head|apply At.tail);done);assumption;(exact (if_neg Bool.false_ne_true).symm)))<;>((apply A.tk 6;exact rfl;kernel_rfl;(apply Ok1.eqlP;(iterate 5 exact rfl))))<;>(apply A.done;kernel_rfl)))|apply T.seq|apply T.region|apply T.exit|apply T.ret|(apply T.cond_t;exact rfl)|(apply T.cond_f;exact rfl)))
    all_goals (apply RetOk.t;exact rfl)
    all_goals exact ⟨_,by (focus (repeat' first|exact Keep.nil _|exact Ext.one _ _|apply Keep.cons|apply Ext.cons);done),rfl,rfl⟩
theorem rknown_ok (hs:s.length=32) (ms:Ms Cl KE) (clk:Nat) (hwf:MWf (ms,clk)) (hl:ms.length≤1000) (w:World) (hb:w.heap[br]? = some (.cells ⟨ringC c s m1 m2⟩ e9 f9)) (hm:br ∉ [m1]) :
    CallM Try.prog 39 [.pointer (some ⟨br,0,none⟩)] [(m1,mobj kvC vvE ms clk)] w fun v L=>∃ ov cs,cs.Perm (mkeys ms)∧Asc cmpCl cs∧OvOk 4 ov cs.length (fl Cl.v cs)∧v=slV ov cs.length∧L=blkL 34 ov (fl Cl.v cs)++[(m1,mobj kvC vvE ms clk)]:=by
  have hx1:=ring_x1 (c:=c) hs m1 m2
  have hx2:=ring_x2 (c:=c) hs m1 m2
  have hcl:=ring_cl c (s:=s) m1 m2
  refine enterK (tb:=tb) Try.func39 rfl Try.ntmps39 rfl ?_
  repeat' (first|(apply R.is1;first|(apply R.range (kv:=kvC) (vv:=vvE) (ms:=ms) (clk:=clk);(iterate 4 exact rfl);exact At.head;intro bi)|(apply R.isBin;(apply R.pure;exact rfl;(apply Ok1.eqlP;(iterate 5 exact rfl))))|(apply R.pure;exact rfl;first|(apply Ok1.load;exact rfl;(apply Ld.blk1;exact rfl;exact rfl;exact hb;exact hm;exact hx1))|(apply Ok1.move;exact rfl)|(apply Ok1.fieldAddr;(iterate 5 exact rfl))|(apply Ok1.assign;exact rfl)|(apply Ok1.nilCheck;exact rfl)))|apply R.nil|(apply T.is;first|apply T.seq|apply T.region|apply T.block|apply T.skip|(apply T.cond_f;exact rfl)))
  apply T.loopK (α:=Ms Cl KE × Ov) (I:=fun x=>Met ms x.1∧OvOk 4 x.2 (mkeys x.1).length (fl Cl.v (mkeys x.1))) (σi:=fun x=>[(3,slV x.2 (mkeys x.1).length),(11,.pointer (some ⟨bi,0,none⟩))])
    (Li:=fun x=>(bi,.mapIter (some m1) clk ⟨x.1.map (·.2.2)⟩ clk)::(m1,mobj kvC vvE ms clk)::blkL 34 x.2 (fl Cl.v (mkeys x.1))) (μ:=fun x=>ms.length - x.1.length) (i0:=([],none))
  · exact ⟨Met.start _,OvOk.start 4⟩
  · exact ⟨rfl,rfl,trivial⟩
  · simp only [blkL]
    (focus (repeat' first|exact Keep.nil _|exact Ext.one _ _|apply Keep.cons);done)
  · rintro ⟨vis,ov⟩ ⟨hmet,hov⟩
    simp only at hmet hov ⊢
    have hvl:vis.length≤ms.length:=by classical exact nodup_sub_len (nodup_map_born hmet.nd) hmet.sub
    have hkl:(mkeys vis).length=vis.length:=by simp [mkeys]
    have hke:∀ e,mkeys (vis++[e])=mkeys vis++[e.1]:=fun e=>by simp [mkeys]
    repeat' (first|(apply R.is1;first|(apply R.next (kv:=kvC) (vv:=vvE) (ms:=ms);exact rfl;exact rfl;(focus (repeat' first|exact At.head|apply At.tail);done);exact At.head;exact hwf.bnd;intro hall;rotate_left 1;intro e he hne;apply Exists.intro;apply And.intro;exact Upd.head)|(apply R.isCall;(apply R.append1;(iterate 12 exact rfl);(focus (repeat' first|exact OwnAt.base hov|apply OwnAt.tail);done);exact At.head;exact rfl;exact rfl;omega;omega;intro b2 j2 k2 hj2))|(apply R.pure;exact rfl;first|(apply Ok1.entry;exact rfl;exact At.head;(focus (repeat' first|exact At.head|apply At.tail);done);assumption;exact hwf.nd)|(apply Ok1.load;exact rfl;(apply Ld.ownk;exact rfl;exact rfl;exact At.head;exact rfl))|(apply Ok1.move;exact rfl)|(apply Ok1.assign;exact rfl)|(apply Ok1.extract;exact rfl;exact rfl))|(apply R.alloc;(iterate 3 exact rfl);intro)|(apply R.buildSlice;(iterate 12 exact rfl);intro))|(apply R.is0;(apply R.store;(iterate 6 exact rfl);exact Upd.head;exact rfl))|apply R.nil|(apply T.is;first|apply T.seq|apply T.region|apply T.block|apply T.skip|apply T.exit|(apply T.cond_t;exact rfl)|(apply T.cond_f;exact rfl)))
    · refine ⟨(vis++[e],some (b2,j2,k2)),⟨hmet.step he hne,?_⟩,?_,?_,?_⟩
      · have:=hov.some (b:=b2) (ys:=Cl.v e.1) (m:=1) rfl hj2
        simpa only [hke,List.length_append,List.length_cons,List.length_nil,fl_snoc] using this
      · have:=hmet.le hwf.nd he hne
        simp only [List.length_append,List.length_cons,List.length_nil]
        omega
      · simp only [hke,List.length_append,List.length_cons,List.length_nil]
        exact ⟨rfl,rfl,trivial⟩
      · simp only [hke,List.map_append,List.map_cons,List.map_nil,fl_snoc]
        (focus (repeat' first|exact Keep.nil _|exact Ext.one _ _|apply Keep.cons|apply Ext.cons);done)
    · have hperm:vis.Perm ms:=hmet.perm hwf.nd hall
      have hsort:=fun w1=>sortC_ok (mkeys vis) (by omega) ov hov w1
      repeat' (first|(apply R.is1;first|(apply R.isCall;(apply R.callE;(iterate 3 exact rfl);(focus (exact Ext.cons _ (Ext.cons _ (Ext.all _))));intro w1 hw1;exact hsort w1;rintro v Lo ⟨rfl,cs,hp',hasc,rfl⟩))|(apply R.pure;exact rfl;first|(apply Ok1.move;exact rfl)|(apply Ok1.assign;exact rfl)))|apply R.nil|(apply T.is;first|apply T.seq|apply T.region|apply T.ret))
      have hl2:(mkeys vis).length=cs.length:=hp'.length_eq.symm
      (apply RetOk.t;exact rfl)
      refine ⟨blkL 34 ov (fl Cl.v cs)++[(m1,mobj kvC vvE ms clk)],?_,ov,cs,hp'.trans (hperm.map _),hasc,?_,by rw [hl2],rfl⟩
      · (focus (repeat' first|exact Keep.nil _|exact Ext.one _ _|exact Ext.here _ _|apply Keep.cons|apply Keep.app|apply Ext.cons);done)
      · rw [← hl2];exact ⟨by rw [fl_len Cl.v_len,← hl2],hov.2⟩
end
end Go.Proofs.Ytijbmkjebidanaa
set_option linter.unusedSimpArgs false
set_option linter.unusedVariables false
namespace Go.Proofs.Ytijbmkjebidanaa
open Go.RowKit Go.Shelf Go.Sort
set_option maxRecDepth 100000
/-- The document's entry. -/
structure DE where
  c:Cl
  p:Option Addr
  cap:Nat
  xs:List Int
def DE.v (d:DE):List Value:=[.int .i64 d.c.id,.int .i64 d.c.roles,.int .i64 d.c.exp,.int .i64 d.c.ser,.slice d.p d.xs.length d.cap]
theorem DE.v_len (d:DE):d.v.length=5:=rfl
theorem DE.v_one (d:DE):d.v.all Value.oneCell'=true:=rfl
def pos7 (dl:List DE) (c:Cl):Int:=match dl.findIdx? fun x=>decide (x.c=c) with|some i=>(i:Int)|none=>-1
theorem pos7_at {dl:List DE} {c:Cl} {i:Nat} {x:DE} (hp:∀ j y,j < i→dl[j]? = some y→y.c≠c) (hx:dl[i]? = some x) (he:x.c=c):pos7 dl c=i:=by
  obtain ⟨hlt,hxe⟩:=List.getElem?_eq_some_iff.1 hx
  have:dl.findIdx? (fun x=>decide (x.c=c))=some i:=by
    rw [List.findIdx?_eq_some_iff_getElem]
    refine ⟨hlt,by simp [hxe,he],fun j hj=>?_⟩
    have:=hp j dl[j] hj (List.getElem?_eq_getElem (by omega))
    simpa using this
  unfold pos7
  rw [this]
theorem pos7_none {dl:List DE} {c:Cl} (hp:∀ y∈dl,y.c≠c):pos7 dl c = -1:=by
  have:dl.findIdx? (fun x=>decide (x.c=c))=none:=by
    rw [List.findIdx?_eq_none_iff]
    intro x hx
    simpa using hp x hx
  unfold pos7
  rw [this]
theorem pos7_find (dl:List DE) (c:Cl):((∀ y∈dl,y.c≠c)∧pos7 dl c = -1) ∨ ∃ (i:Nat) (x:DE),dl[i]? = some x∧x.c=c∧pos7 dl c=i:=by
  cases hf:dl.findIdx? fun x=>decide (x.c=c) with
  | none =>
    left
    refine ⟨fun y hy=>?_,by unfold pos7;rw [hf]⟩
    have:=List.findIdx?_eq_none_iff.1 hf y hy
    simpa using this
  | some i =>
    right
    obtain ⟨hlt,h1,h2⟩:=List.findIdx?_eq_some_iff_getElem.1 hf
    exact ⟨i,dl[i],List.getElem?_eq_getElem hlt,by simpa using h1,by unfold pos7;rw [hf]⟩
theorem vfind7_ok (p:Option Addr) (cap:Nat) (dl:List DE) (hlen:dl.length≤1000) (c:Cl) (w:World) (hp:RdSl w p DE.v dl) :
    CallW Try.prog 28 [.slice p dl.length cap,kvC c] w fun v _=>v = .int .i64 (pos7 dl c):=by
  refine enterW (tb:=tb) Try.func28 rfl Try.ntmps28 rfl ?_
  simp only [kvC]
  repeat' (first|(apply R.is1;first|(apply R.pure;exact rfl;(apply Ok1.assign;exact rfl))|(apply R.box;(iterate 3 exact rfl);intro))|apply R.nil|(apply T.is;first|apply T.seq|apply T.region|apply T.block))
  rename_i bc
  apply T.loopK (α:=Nat) (I:=fun i=>i≤dl.length∧∀ j y,j < i→dl[j]? = some y→y.c≠c) (σi:=fun i=>[(0,.slice p dl.length cap),(3,.pointer (some ⟨bc,0,none⟩)),(5,.int .i64 i)]) (Li:=fun i=>[(bc,.cells ⟨[.int .i64 c.id,.int .i64 c.roles,.int .i64 c.exp,.int .i64 c.ser]⟩ 24 (0,0))]) (μ:=fun i=>dl.length - i) (i0:=0)
  · exact ⟨Nat.zero_le _,by simp⟩
  · exact ⟨rfl,rfl,rfl,trivial⟩
  · (focus (repeat' first|exact Keep.nil _|exact Ext.one _ _|apply Keep.cons);done)
  · rintro i ⟨hi,hn⟩
    rcases Nat.lt_or_ge i dl.length with hlt|hge
    · obtain ⟨e,he⟩:∃ e,dl[i]? = some e:=⟨_,List.getElem?_eq_getElem (by omega)⟩
      obtain ⟨b,o,hpe,H⟩:=hp.at he
      replace H:=H 5 DE.v_len
      repeat' (first|(apply R.is1;first|(apply R.isBin;(apply R.pure;exact rfl;first|(apply Ok1.add64;exact rfl;exact rfl;omega;omega)|(apply Ok1.lss_t;exact rfl;exact rfl;omega)))|(apply R.isCall;(apply R.pure;exact rfl;(apply Ok1.lenS;(iterate 3 exact rfl))))|(apply R.pure;exact rfl;first|(apply Ok1.move;exact rfl)|(apply Ok1.assign;exact rfl)))|apply R.nil|(apply T.is;first|(apply T.drawC (id:=4) [0] (by decide);((apply A.tk 0;exact rfl;kernel_rfl;(apply Ok1.move;exact rfl))<;>(apply A.tk 1;exact rfl;kernel_rfl;(apply Ok1.move;exact rfl))<;>(apply A.tk 2;exact rfl;kernel_rfl;(apply Ok1.indexAddrP;(iterate 4 exact rfl);exact hpe;exact rfl;omega;omega))<;>(apply A.tk 3;exact rfl;kernel_rfl;(apply Ok1.fieldAddr;(iterate 5 exact rfl)))<;>(apply A.tk 4;exact rfl;kernel_rfl;(apply Ok1.load;exact rfl;apply Ld.rowk H;exact rfl;exact List.not_mem_nil;(iterate 3 exact rfl)))<;>(apply A.tk 5;exact rfl;kernel_rfl;(apply Ok1.load;exact rfl;(apply Ld.ownk;exact rfl;exact rfl;exact At.head;exact rfl)))<;>((apply A.tk 6;exact rfl;kernel_rfl;((apply Ok1.eqlF;(iterate 7 exact rfl)));apply A.dec (t:=18);exact rfl;all_goals intro))<;>(apply A.done;kernel_rfl)))|apply T.seq|apply T.region|apply T.block|apply T.skip|apply T.ret|(apply T.cond_t;exact rfl)|(apply T.cond_f;exact rfl)))
      · have hc:e.c=c:=clvinjK.1 ‹_›
        (apply RetOk.t;exact rfl)
        rw [pos7_at hn he hc]
      · have hc:e.c≠c:=fun h=>absurd (clvinjK.2 h) ‹_›
        refine ⟨i+1,⟨by omega,fun j x hj hx=>?_⟩,by omega,⟨rfl,rfl,rfl,trivial⟩,by (focus (repeat' first|exact Keep.nil _|exact Ext.one _ _|apply Keep.cons);done)⟩
        rcases Nat.lt_or_ge j i with h|h
        · exact hn j x h hx
        · have:j=i:=by omega
          subst this
          rw [he] at hx;cases hx;exact hc
    · have him:i=dl.length:=by omega
      subst him
      repeat' (first|(apply R.is1;first|(apply R.isBin;(apply R.pure;exact rfl;(apply Ok1.lss_f;exact rfl;exact rfl;omega)))|(apply R.isCall;(apply R.pure;exact rfl;(apply Ok1.lenS;(iterate 3 exact rfl))))|(apply R.pure;exact rfl;first|(apply Ok1.move;exact rfl)|(apply Ok1.assign;exact rfl)))|apply R.nil|(apply T.is;first|apply T.seq|apply T.region|apply T.exit|apply T.ret|(apply T.cond_f;exact rfl)))
      (apply RetOk.t;exact rfl)
      rw [pos7_none fun y hy=>by
        obtain ⟨j,hj,rfl⟩:=List.mem_iff_getElem.1 hy
        exact hn j _ hj (List.getElem?_eq_getElem hj)]
/-- Inserted ahead of the first that is greater. -/
def ins7:List DE→DE→List DE
  | [],e=>[e]
  | x::r,e=>if lessCl e.c x.c then e::x::r else x::ins7 r e
def put7 (l:List DE) (e:DE):Bool:=l.any fun x=>lessCl e.c x.c
def acc7 (l:List DE) (e:DE):List DE:=if put7 l e then ins7 l e else l
theorem put7_t {l:List DE} {e:DE} (h:put7 l e=true):∃ y∈l,lessCl e.c y.c=true:=by simpa [put7] using h
theorem put7_f {l:List DE} {e:DE} (h:put7 l e=false):∀ y∈l,¬ lessCl e.c y.c=true:=by simpa [put7] using h
theorem ins7_len (e:DE):∀ l:List DE,(ins7 l e).length=l.length+1
  | []=>rfl
  | y::r=>by
    simp only [ins7]
    split
    · rfl
    · simp only [List.length_cons,ins7_len e r]
theorem ins7_put {e x:DE}:∀ {l:List DE},(∃ y∈l,lessCl e.c y.c=true)→ins7 (l++[x]) e=ins7 l e++[x]
  | [],h=>by simp at h
  | y :: r,h=>by
    simp only [List.cons_append,ins7]
    split
    · rfl
    · rename_i hy
      have:∃ y∈r,lessCl e.c y.c=true:=by
        obtain ⟨z,hz,hlt⟩:=h
        rcases List.mem_cons.1 hz with rfl|hz
        · exact absurd hlt hy
        · exact ⟨z,hz,hlt⟩
      rw [ins7_put this]
      rfl
theorem ins7_end {e:DE}:∀ {l:List DE},(∀ y∈l,¬ lessCl e.c y.c=true)→ins7 l e=l++[e]
  | [],_=>rfl
  | y::r,h=>by
    simp only [ins7]
    rw [if_neg (h y List.mem_cons_self),ins7_end fun z hz=>h z (List.mem_cons_of_mem _ hz)]
    rfl
theorem ins7_new {e x:DE} (hx:lessCl e.c x.c=true):∀ {l:List DE},(∀ y∈l,¬ lessCl e.c y.c=true)→ins7 (l++[x]) e=l++[e]++[x]
  | [],_=>by simp [ins7,hx]
  | y::r,h=>by
    simp only [List.cons_append,ins7]
    rw [if_neg (h y List.mem_cons_self),ins7_new hx fun z hz=>h z (List.mem_cons_of_mem _ hz)]
    done
theorem ins7_perm (e:DE):∀ l:List DE,(ins7 l e).Perm (e::l)
  | []=>.refl _
  | y::r=>by
    simp only [ins7]
    split
    · exact .refl _
    · exact ((ins7_perm e r).cons y).trans (.swap e y r)
theorem vadd7_ok (p:Option Addr) (cap:Nat) (dl:List DE) (hlen:dl.length≤1000) (e:DE) (w:World) (hp:RdSl w p DE.v dl) :
    CallM Try.prog 31 [.slice p dl.length cap,.agg ⟨e.v⟩] [] w fun v L=>∃ ov,OvOk 5 ov (ins7 dl e).length (fl DE.v (ins7 dl e))∧v=slV ov (ins7 dl e).length∧L=blkL 81 ov (fl DE.v (ins7 dl e)):=by
  have hls:=fun x:DE=>less_ok e.c x.c
  refine enterK (tb:=tb) Try.func31 rfl Try.ntmps31 rfl ?_
  simp only [DE.v]
  repeat' (first|(apply R.is1;first|(apply R.pure;exact rfl;(apply Ok1.assign;exact rfl))|(apply R.box;(iterate 3 exact rfl);intro))|apply R.nil|(apply T.is;first|apply T.seq|apply T.region|apply T.block))
  rename_i be
  apply T.loopK (α:=Nat × Ov) (I:=fun y=>y.1≤dl.length∧OvOk 5 y.2 (acc7 (dl.take y.1) e).length (fl DE.v (acc7 (dl.take y.1) e))) (σi:=fun y=>[(0,.slice p dl.length cap),(3,.pointer (some ⟨be,0,none⟩)),(5,slV y.2 (acc7 (dl.take y.1) e).length),(6,.bool (put7 (dl.take y.1) e)),(7,.int .i64 y.1)]) (Li:=fun y=>(be,.cells ⟨[.int .i64 e.c.id,.int .i64 e.c.roles,.int .i64 e.c.exp,.int .i64 e.c.ser,.slice e.p e.xs.length e.cap]⟩ 81 (0,0))::blkL 81 y.2 (fl DE.v (acc7 (dl.take y.1) e))) (μ:=fun y=>dl.length - y.1) (i0:=(0,none))
  · exact ⟨Nat.zero_le _,OvOk.start 5⟩
  · exact ⟨rfl,rfl,rfl,rfl,rfl,trivial⟩
  · show Keep _ ((be,_)::[])
    (focus (repeat' first|exact Keep.nil _|exact Ext.one _ _|apply Keep.cons);done)
  · rintro ⟨i,ov2⟩ ⟨hi,hov2⟩
    simp only at hi hov2 ⊢
    rcases Nat.lt_or_ge i dl.length with hlt|hge
    · obtain ⟨x,hx⟩:∃ x,dl[i]? = some x:=⟨_,List.getElem?_eq_getElem (by omega)⟩
      obtain ⟨b,o,hpe,H⟩:=hp.at hx
      replace H:=H 5 DE.v_len
      have hlx:=hls x
      have hAl:(acc7 (dl.take i) e).length≤1001:=by
        unfold acc7
        split
        · rw [ins7_len,List.length_take];omega
        · rw [List.length_take];omega
      have htk:dl.take (i+1)=dl.take i++[x]:=by rw [List.take_add_one,hx];rfl
      have hpn:put7 (dl.take (i+1)) e=(put7 (dl.take i) e || lessCl e.c x.c):=by rw [htk];simp [put7]
      cases hpu:put7 (dl.take i) e with
      | true =>
        rw [hpu] at hpn
        have hA:acc7 (dl.take (i+1)) e=acc7 (dl.take i) e++[x]:=by unfold acc7;rw [hpn,hpu];simp only [Bool.true_or,if_true];rw [htk,ins7_put (put7_t hpu)]
        generalize acc7 (dl.take i) e=AA at *
        repeat' (first|(apply R.is1;first|(apply R.isBin;(apply R.pure;exact rfl;first|(apply Ok1.add64;exact rfl;exact rfl;omega;omega)|(apply Ok1.lss_t;exact rfl;exact rfl;omega)))|(apply R.isCall;first|(apply R.append1;(iterate 12 exact rfl);(focus (repeat' first|exact OwnAt.base hov2|apply OwnAt.tail);done);exact At.head;exact rfl;exact rfl;omega;omega;intro b2 j2 k2 hj2)|(apply R.pure;exact rfl;(apply Ok1.lenS;(iterate 3 exact rfl))))|(apply R.pure;exact rfl;first|(apply Ok1.indexAddrP;(iterate 4 exact rfl);exact hpe;exact rfl;omega;omega)|(apply Ok1.load;exact rfl;(apply Ld.rowk0 H;exact rfl;exact List.not_mem_nil;(iterate 3 exact rfl)))|(apply Ok1.move;exact rfl)|(apply Ok1.assign;exact rfl))|(apply R.buildSlice;(iterate 12 exact rfl);intro))|apply R.nil|(apply T.is;first|(apply T.drawC (id:=6) [0] (by decide);((apply A.tk 0;exact rfl;kernel_rfl;(apply Ok1.move;exact rfl))<;>(apply A.tk 1;exact rfl;kernel_rfl;(apply Ok1.not_t;exact rfl))<;>(apply A.tk 2;exact rfl;kernel_rfl;(apply Ok1.move;exact rfl))<;>((apply A.skG 3;(iterate 3 exact rfl);kernel_rfl))<;>((apply A.skG 4;(iterate 3 exact rfl);kernel_rfl))<;>((apply A.skG 5;(iterate 3 exact rfl);kernel_rfl))<;>((apply A.skG 6;(iterate 3 exact rfl);kernel_rfl))<;>((apply A.skG 7;(iterate 3 exact rfl);kernel_rfl))<;>((apply A.skG 8;(iterate 3 exact rfl);kernel_rfl))<;>((apply A.skG 9;(iterate 3 exact rfl);kernel_rfl))<;>(apply A.one 10;kernel_rfl;exact rfl;(((apply R.isG;(apply R.guard_not;(iterate 3 exact rfl)))));apply R.nil;refine ⟨?_,?_⟩;(focus ((repeat' (first|exact trivial|(refine ⟨?_,?_⟩;exact At.head))))))<;>(apply A.tk 11;exact rfl;kernel_rfl;(apply Ok1.pick_f;exact rfl;exact rfl))<;>(apply A.done;kernel_rfl)))|apply T.seq|apply T.region|apply T.block|apply T.skip|(apply T.cond_t;exact rfl)|(apply T.cond_f;exact rfl)))
        all_goals
          refine ⟨(i+1,some (b2,j2,k2)),?_⟩
          simp only [hA,hpn,Bool.true_or,List.length_append,List.length_singleton,fl_snoc]
          exact ⟨⟨by omega,OvOk.some (b:=b2) hov2 (m:=1) rfl hj2⟩,by omega,⟨rfl,rfl,rfl,rfl,rfl,trivial⟩,by simp only [blkL];(focus (repeat' first|exact Keep.nil _|exact Ext.one _ _|apply Keep.cons|apply Ext.cons);done)⟩
      | false =>
        rw [hpu] at hpn
        cases hcx:lessCl e.c x.c with
        | true =>
          rw [hcx] at hpn hlx
          have hA:acc7 (dl.take (i+1)) e=acc7 (dl.take i) e++[e]++[x]:=by unfold acc7;rw [hpn,hpu];simp only [Bool.or_true,if_true,if_false,Bool.false_eq_true];rw [htk,ins7_new hcx (put7_f hpu)]
          generalize acc7 (dl.take i) e=AA at *
          repeat' (first|(apply R.is1;first|(apply R.isBin;(apply R.pure;exact rfl;(apply Ok1.lss_t;exact rfl;exact rfl;omega)))|(apply R.isCall;first|(apply R.append1;(iterate 12 exact rfl);(focus (repeat' first|exact OwnAt.base hov2|apply OwnAt.tail);done);exact At.head;exact rfl;exact rfl;omega;omega;intro b2 j2 k2 hj2)|(apply R.pure;exact rfl;(apply Ok1.lenS;(iterate 3 exact rfl))))|(apply R.pure;exact rfl;first|(apply Ok1.indexAddrP;(iterate 4 exact rfl);exact hpe;exact rfl;omega;omega)|(apply Ok1.load;exact rfl;(apply Ld.ownk;exact rfl;exact rfl;(focus (repeat' first|exact At.head|apply At.tail);done);exact rfl))|(apply Ok1.move;exact rfl)|(apply Ok1.assign;exact rfl))|(apply R.buildSlice;(iterate 12 exact rfl);intro))|apply R.nil|(apply T.is;first|(apply T.drawC (id:=6) [0] (by decide);((apply A.tk 0;exact rfl;kernel_rfl;(apply Ok1.move;exact rfl))<;>(apply A.tk 1;exact rfl;kernel_rfl;(apply Ok1.not_f;exact rfl))<;>(apply A.tk 2;exact rfl;kernel_rfl;(apply Ok1.move;exact rfl))<;>((apply A.tkG 3;(iterate 3 exact rfl);kernel_rfl;(apply Ok1.fieldAddr;(iterate 5 exact rfl))))<;>((apply A.tkG 4;(iterate 3 exact rfl);kernel_rfl;(apply Ok1.load;exact rfl;(apply Ld.ownk;exact rfl;exact rfl;exact At.head;exact rfl))))<;>((apply A.tkG 5;(iterate 3 exact rfl);kernel_rfl;(apply Ok1.move;exact rfl)))<;>((apply A.tkG 6;(iterate 3 exact rfl);kernel_rfl;(apply Ok1.move;exact rfl)))<;>((apply A.tkG 7;(iterate 3 exact rfl);kernel_rfl;(apply Ok1.indexAddrP;(iterate 4 exact rfl);exact hpe;exact rfl;omega;omega)))<;>((apply A.tkG 8;(iterate 3 exact rfl);kernel_rfl;(apply Ok1.fieldAddr;(iterate 5 exact rfl))))<;>((apply A.tkG 9;(iterate 3 exact rfl);kernel_rfl;(apply Ok1.load;exact rfl;(apply Ld.rowk H;exact rfl;exact List.not_mem_nil;(iterate 3 exact rfl)))))<;>(apply A.one 10;kernel_rfl;exact rfl;(((apply R.isG;apply R.guard_run;exact rfl;exact rfl;(apply R.callP rfl rfl rfl hlx))));apply R.nil;refine ⟨?_,?_⟩;(focus ((repeat' (first|exact trivial|(refine ⟨?_,?_⟩;exact At.head))))))<;>(apply A.tk 11;exact rfl;kernel_rfl;(apply Ok1.pick_t;exact rfl;exact rfl))<;>(apply A.done;kernel_rfl)))|apply T.seq|apply T.region|apply T.block|apply T.skip|(apply T.cond_t;exact rfl)))
          all_goals
            have hov5:=OvOk.some (b:=b2) hov2 (ys:=DE.v e) (m:=1) rfl hj2
            repeat' (first|(apply R.is1;first|(apply R.isBin;(apply R.pure;exact rfl;(apply Ok1.add64;exact rfl;exact rfl;omega;omega)))|(apply R.isCall;(apply R.append1;(iterate 12 exact rfl);(focus (repeat' first|exact OwnAt.mid hov5|apply OwnAt.tail);done);exact At.head;exact rfl;exact rfl;omega;omega;intro b2 j2 k2 hj2))|(apply R.pure;exact rfl;first|(apply Ok1.load;exact rfl;(apply Ld.rowk0 H;exact rfl;exact List.not_mem_nil;(iterate 3 exact rfl)))|(apply Ok1.move;exact rfl)|(apply Ok1.assign;exact rfl))|(apply R.buildSlice;(iterate 12 exact rfl);intro))|apply R.nil|(apply T.is;apply T.region))
            refine ⟨(i+1,some (b2,j2,k2)),?_⟩
            simp only [hA,hpn,Bool.or_true,List.length_append,List.length_singleton,fl_snoc]
            exact ⟨⟨by omega,OvOk.some (b:=b2) hov5 (m:=1) rfl hj2⟩,by omega,⟨rfl,rfl,rfl,rfl,rfl,trivial⟩,by simp only [blkL];(focus (repeat' first|exact Keep.nil _|exact Ext.one _ _|apply Keep.cons|apply Ext.cons);done)⟩
        | false =>
          rw [hcx] at hpn hlx
          have hA:acc7 (dl.take (i+1)) e=acc7 (dl.take i) e++[x]:=by unfold acc7;rw [hpn,hpu];simp only [Bool.or_false,if_false,Bool.false_eq_true];rw [htk]
          generalize acc7 (dl.take i) e=AA at *
          repeat' (first|(apply R.is1;first|(apply R.isBin;(apply R.pure;exact rfl;first|(apply Ok1.add64;exact rfl;exact rfl;omega;omega)|(apply Ok1.lss_t;exact rfl;exact rfl;omega)))|(apply R.isCall;first|(apply R.append1;(iterate 12 exact rfl);(focus (repeat' first|exact OwnAt.base hov2|apply OwnAt.tail);done);exact At.head;exact rfl;exact rfl;omega;omega;intro b2 j2 k2 hj2)|(apply R.pure;exact rfl;(apply Ok1.lenS;(iterate 3 exact rfl))))|(apply R.pure;exact rfl;first|(apply Ok1.indexAddrP;(iterate 4 exact rfl);exact hpe;exact rfl;omega;omega)|(apply Ok1.load;exact rfl;(apply Ld.rowk0 H;exact rfl;exact List.not_mem_nil;(iterate 3 exact rfl)))|(apply Ok1.move;exact rfl)|(apply Ok1.assign;exact rfl))|(apply R.buildSlice;(iterate 12 exact rfl);intro))|apply R.nil|(apply T.is;first|(apply T.drawC (id:=6) [0] (by decide);((apply A.tk 0;exact rfl;kernel_rfl;(apply Ok1.move;exact rfl))<;>(apply A.tk 1;exact rfl;kernel_rfl;(apply Ok1.not_f;exact rfl))<;>(apply A.tk 2;exact rfl;kernel_rfl;(apply Ok1.move;exact rfl))<;>((apply A.tkG 3;(iterate 3 exact rfl);kernel_rfl;(apply Ok1.fieldAddr;(iterate 5 exact rfl))))<;>((apply A.tkG 4;(iterate 3 exact rfl);kernel_rfl;(apply Ok1.load;exact rfl;(apply Ld.ownk;exact rfl;exact rfl;exact At.head;exact rfl))))<;>((apply A.tkG 5;(iterate 3 exact rfl);kernel_rfl;(apply Ok1.move;exact rfl)))<;>((apply A.tkG 6;(iterate 3 exact rfl);kernel_rfl;(apply Ok1.move;exact rfl)))<;>((apply A.tkG 7;(iterate 3 exact rfl);kernel_rfl;(apply Ok1.indexAddrP;(iterate 4 exact rfl);exact hpe;exact rfl;omega;omega)))<;>((apply A.tkG 8;(iterate 3 exact rfl);kernel_rfl;(apply Ok1.fieldAddr;(iterate 5 exact rfl))))<;>((apply A.tkG 9;(iterate 3 exact rfl);kernel_rfl;(apply Ok1.load;exact rfl;(apply Ld.rowk0 H;exact rfl;exact List.not_mem_nil;(iterate 3 exact rfl)))))<;>(apply A.one 10;kernel_rfl;exact rfl;(((apply R.isG;apply R.guard_run;exact rfl;exact rfl;(apply R.callP rfl rfl rfl hlx))));apply R.nil;refine ⟨?_,?_⟩;(focus ((repeat' (first|exact trivial|(refine ⟨?_,?_⟩;exact At.head))))))<;>(apply A.tk 11;exact rfl;kernel_rfl;(apply Ok1.pick_t;exact rfl;exact rfl))<;>(apply A.done;kernel_rfl)))|apply T.seq|apply T.region|apply T.block|apply T.skip|(apply T.cond_t;exact rfl)|(apply T.cond_f;exact rfl)))
          all_goals
            refine ⟨(i+1,some (b2,j2,k2)),?_⟩
            simp only [hA,hpn,Bool.or_false,List.length_append,List.length_singleton,fl_snoc]
            exact ⟨⟨by omega,OvOk.some (b:=b2) hov2 (m:=1) rfl hj2⟩,by omega,⟨rfl,rfl,rfl,rfl,rfl,trivial⟩,by simp only [blkL];(focus (repeat' first|exact Keep.nil _|exact Ext.one _ _|apply Keep.cons|apply Ext.cons);done)⟩
    · have him:i=dl.length:=by omega
      subst him
      rw [List.take_length] at hov2 ⊢
      cases hpu:put7 dl e with
      | true =>
        have hA:acc7 dl e=ins7 dl e:=by unfold acc7;rw [hpu];rfl
        rw [hA] at hov2 ⊢
        repeat' (first|(apply R.is1;first|(apply R.isBin;(apply R.pure;exact rfl;(apply Ok1.lss_f;exact rfl;exact rfl;omega)))|(apply R.isCall;(apply R.pure;exact rfl;(apply Ok1.lenS;(iterate 3 exact rfl))))|(apply R.pure;exact rfl;first|(apply Ok1.move;exact rfl)|(apply Ok1.assign;exact rfl)|(apply Ok1.not_t;exact rfl)))|apply R.nil|(apply T.is;first|apply T.seq|apply T.region|apply T.skip|apply T.exit|apply T.ret|(apply T.cond_f;exact rfl)))
        (apply RetOk.t;exact rfl)
        exact ⟨_,by (focus (repeat' first|exact Ext.all _|apply Keep.last|apply Ext.cons);done),ov2,hov2,rfl,rfl⟩
      | false =>
        have hA:acc7 dl e=dl:=by unfold acc7;rw [hpu];rfl
        rw [hA] at hov2 ⊢
        rw [ins7_end (put7_f hpu)]
        repeat' (first|(apply R.is1;first|(apply R.isBin;(apply R.pure;exact rfl;(apply Ok1.lss_f;exact rfl;exact rfl;omega)))|(apply R.isCall;first|(apply R.append1;(iterate 12 exact rfl);(focus (repeat' first|exact OwnAt.base hov2|apply OwnAt.tail);done);exact At.head;exact rfl;exact rfl;omega;omega;intro b2 j2 k2 hj2)|(apply R.pure;exact rfl;(apply Ok1.lenS;(iterate 3 exact rfl))))|(apply R.pure;exact rfl;first|(apply Ok1.load;exact rfl;(apply Ld.ownk;exact rfl;exact rfl;exact At.head;exact rfl))|(apply Ok1.move;exact rfl)|(apply Ok1.assign;exact rfl)|(apply Ok1.not_f;exact rfl))|(apply R.buildSlice;(iterate 12 exact rfl);intro))|apply R.nil|(apply T.is;first|apply T.seq|apply T.region|apply T.exit|apply T.ret|(apply T.cond_t;exact rfl)|(apply T.cond_f;exact rfl)))
        (apply RetOk.t;exact rfl)
        refine ⟨blkL 81 (some (b2,j2,k2)) (fl DE.v (dl++[e])),?_,some (b2,j2,k2),?_,?_,rfl⟩
        · simp only [blkL,fl_snoc];(focus (repeat' first|exact Keep.nil _|exact Ext.one _ _|apply Keep.cons);done)
        · rw [List.length_append,List.length_singleton,fl_snoc]
          exact OvOk.some (b:=b2) hov2 (m:=1) rfl hj2
        · rw [List.length_append,List.length_singleton];rfl
theorem vbit7_ok (M r:Int) (hM:0≤M∧M < 256) (h0:0≤r) (h7:r≤7):CallP Try.prog 37 [.int .i64 M,.int .i64 r] (.bool (hasB M r)):=by
  obtain ⟨n,rfl⟩:∃ n:Nat,r=n:=⟨r.toNat,by omega⟩
  have hb:=hasB_hlv ⟨M.toNat,by omega⟩ ⟨n,by omega⟩
  simp only [Int.toNat_of_nonneg hM.1] at hb
  rw [hb]
  have hps:∀ n,0≤hlv7 n M∧hlv7 n M < 256:=fun n=>by
    induction n with
    | zero=>exact hM
    | succ n ih=>simp only [hlv7];omega
  refine enterP (tb:=tb) Try.func37 rfl Try.ntmps37 rfl fun w=>?_
  repeat' (first|(apply R.is1;(apply R.pure;exact rfl;(apply Ok1.assign;exact rfl)))|apply R.nil|(apply T.is;first|apply T.seq|apply T.region|apply T.block))
  apply T.loopK (α:=Nat) (I:=fun i=>i≤n) (σi:=fun i=>[(0,.int .i64 (hlv7 i M)),(1,.int .i64 n),(5,.int .i64 i)]) (Li:=fun _=>[]) (μ:=fun i=>n - i) (i0:=0)
  · exact Nat.zero_le _
  · exact ⟨rfl,rfl,rfl,trivial⟩
  · exact Keep.nil _
  · intro i hi
    have h1:=(hps i).1
    have h2:=(hps i).2
    rcases Nat.lt_or_ge i n with hlt|hge
    · repeat' (first|(apply R.is1;first|(apply R.isBin;(apply R.pure;exact rfl;first|(apply Ok1.add64;exact rfl;exact rfl;omega;omega)|(apply Ok1.lss_t;exact rfl;exact rfl;omega)|(apply Ok1.quo64;exact rfl;exact rfl;omega;omega;omega)))|(apply R.pure;exact rfl;first|(apply Ok1.move;exact rfl)|(apply Ok1.assign;exact rfl)))|apply R.nil|(apply T.is;first|apply T.seq|apply T.region|apply T.block|apply T.skip|(apply T.cond_t;exact rfl)))
      exact ⟨i+1,by omega,by omega,⟨rfl,rfl,rfl,trivial⟩,Keep.nil _⟩
    · have hin:i=n:=by omega
      subst hin
      by_cases h3:hlv7 i M % 2=1
      · rw [decide_eq_true h3]
        repeat' (first|(apply R.is1;first|(apply R.isBin;(apply R.pure;exact rfl;first|(apply Ok1.lss_f;exact rfl;exact rfl;omega)|(apply Ok1.eql_t;exact rfl;exact rfl;omega)|(apply Ok1.remN;exact rfl;exact rfl;omega;omega)))|(apply R.pure;exact rfl;first|(apply Ok1.move;exact rfl)|(apply Ok1.assign;exact rfl)))|apply R.nil|(apply T.is;first|apply T.seq|apply T.region|apply T.exit|apply T.ret|(apply T.cond_f;exact rfl)))
        (apply RetOk.t;exact rfl)
        rfl
      · rw [decide_eq_false h3]
        repeat' (first|(apply R.is1;first|(apply R.isBin;(apply R.pure;exact rfl;first|(apply Ok1.lss_f;exact rfl;exact rfl;omega)|(apply Ok1.eql_f;exact rfl;exact rfl;omega)|(apply Ok1.remN;exact rfl;exact rfl;omega;omega)))|(apply R.pure;exact rfl;first|(apply Ok1.move;exact rfl)|(apply Ok1.assign;exact rfl)))|apply R.nil|(apply T.is;first|apply T.seq|apply T.region|apply T.exit|apply T.ret|(apply T.cond_f;exact rfl)))
        (apply RetOk.t;exact rfl)
        rfl
end Go.Proofs.Ytijbmkjebidanaa
set_option linter.unusedSimpArgs false
set_option linter.unusedVariables false
set_option linter.unusedSectionVars false
namespace Go.Proofs.Ytijbmkjebidanaa
open Go.RowKit Go.Shelf Go.Sort
set_option maxRecDepth 100000
theorem lessCl_iff7 (c d:Cl):lessCl c d=true ↔ ltC c d:=by
  unfold lessCl ltC
  repeat' split
  all_goals simp only [decide_eq_true_eq,Bool.false_eq_true,false_iff]
  all_goals omega
theorem sortedC_one7 {xs a b:List Cl} (pa:a.Perm xs) (pb:b.Perm xs) (ha:Asc cmpCl a) (hb:Asc cmpCl b):a=b:=by
  refine List.Perm.eq_of_pairwise (le:=fun x y=>¬ cmpCl y x < 0) (fun x y _ _ h1 h2=>?_) ha hb (pa.trans pb.symm)
  rw [cmpCl_neg] at h1 h2
  exact ltC_total h2 h1
theorem ltC_asym {a b:Cl} (h:ltC a b):¬ ltC b a:=by unfold ltC at *;omega
theorem ltC_trans {a b c:Cl} (h:ltC a b) (h2:ltC b c):ltC a c:=by unfold ltC at *;omega
theorem ins7_mem {e x:DE} {l:List DE}:x∈ins7 l e ↔ x=e ∨ x∈l:=by
  rw [(ins7_perm e l).mem_iff,List.mem_cons]
theorem ins7_asc {e:DE}:∀ {l:List DE},(l.map DE.c).Pairwise (fun a b=>¬ ltC b a)→((ins7 l e).map DE.c).Pairwise (fun a b=>¬ ltC b a)
  | [],_=>by simp [ins7]
  | x :: r,h=>by
    simp only [List.map_cons,List.pairwise_cons] at h
    obtain ⟨h1,h2⟩:=h
    simp only [ins7]
    split
    · rename_i hl
      rw [lessCl_iff7] at hl
      simp only [List.map_cons,List.pairwise_cons]
      refine ⟨fun y hy=>?_,h1,h2⟩
      rcases List.mem_cons.1 hy with rfl|hy
      · exact ltC_asym hl
      · exact fun g=>h1 y hy (ltC_trans g hl)
    · rename_i hl
      rw [lessCl_iff7] at hl
      simp only [List.map_cons,List.pairwise_cons]
      refine ⟨fun y hy=>?_,ins7_asc h2⟩
      obtain ⟨z,hz,rfl⟩:=List.mem_map.1 hy
      rcases ins7_mem.1 hz with rfl|hz
      · exact hl
      · exact h1 _ (List.mem_map_of_mem hz)
theorem asc_iff {l:List Cl}:Asc cmpCl l ↔ l.Pairwise (fun a b=>¬ ltC b a):=by
  unfold Asc
  simp only [cmpCl_neg]
/-- A label's bytes,as the statement keeps them: nil,or 1 and the key. -/
structure LB where
  ov:Ov
  xs:List Int
def LB.v (x:LB):List Value:=[.slice (ovp x.ov) x.xs.length (ovc x.ov x.xs.length)]
theorem LB.v_len (x:LB):x.v.length=1:=rfl
def LB.L (x:LB):Lst:=blkL 5 x.ov (u8s x.xs)
structure KS7 where
  fs:Ms Cl KE
  clk:Nat
  lb:Ms Int KE
  lck:Nat
  ov:Ov
  dl:List DE
  ls:List LB
  KB:Lst
structure KS7.ok (w:World) (z:KS7):Prop where
  wf:MWf (z.fs,z.clk)
  perm:(z.dl.map DE.c).Perm (mkeys z.fs)
  asc:(z.dl.map DE.c).Pairwise (fun a b=>¬ ltC b a)
  key:∀ d∈z.dl,∃ x,mget d.c z.fs=some x∧x.K=d.xs∧x.ok∧∀ q∈x.L,q∈z.KB
  rd:∀ d∈z.dl,RdSl w d.p u8V d.xs∧d.xs.length≤40
  len:z.dl.length≤16
  ov:OvOk 5 z.ov z.dl.length (fl DE.v z.dl)
  l8:z.ls.length=8
  lno:∀ (r:Nat) (x:LB),z.ls[r]? = some x→mget (r:Int) z.lb=none→x.ov=none∧x.xs=[]
  lsm:∀ (r:Nat) (x:LB) (k:KE),z.ls[r]? = some x→mget (r:Int) z.lb=some k→x.ov.isSome=true∧x.xs=1::k.K∧k.K.length≤40∧k.ok∧(∀ q∈k.L,q∈z.KB)∧OvOk 1 x.ov x.xs.length (u8s x.xs)∧∀ q∈x.L,q∈z.KB
theorem KS7.ok.flen {w:World} {z:KS7} (h:z.ok w):z.fs.length=z.dl.length:=by
  have:=h.perm.length_eq
  simp only [List.length_map,mkeys] at this
  exact this.symm
theorem KS7.ok.none {w:World} {z:KS7} (h:z.ok w) {c:Cl} (hn:∀ y∈z.dl,y.c≠c):mget c z.fs = .none:=by
  rw [mget_none]
  intro hk
  obtain ⟨y,hy,he⟩:=List.mem_map.1 (h.perm.mem_iff.2 hk)
  exact hn y hy he
theorem KS7.ok.some {w:World} {z:KS7} (h:z.ok w) {c:Cl} {i:Nat} {d:DE} (hd:z.dl[i]? = .some d) (hc:d.c=c):∃ x,mget c z.fs = .some x∧x.K=d.xs∧x.ok∧∀ q∈x.L,q∈z.KB:=by
  subst hc
  exact h.key d (List.mem_of_getElem? hd)
/-- A key is added. -/
theorem KS7.ok.add {w:World} {z:KS7} (h:z.ok w) (e:DE) (hn:mget e.c z.fs = .none) (h16:z.dl.length < 16) (hr:RdSl w e.p u8V e.xs) (hl:e.xs.length≤40) (x:KE) (hK:x.K=e.xs) (hx:x.ok) (ov:Ov) (hov:OvOk 5 ov (ins7 z.dl e).length (fl DE.v (ins7 z.dl e))) (KB:Lst) (hxs:∀ q∈x.L,q∈KB) (hK2:∀ q∈z.KB,q∈KB) :
    KS7.ok w ⟨z.fs++[(e.c,x,z.clk)],z.clk+1,z.lb,z.lck,ov,ins7 z.dl e,z.ls,KB⟩:=by
  refine ⟨h.wf.snoc hn,?_,ins7_asc h.asc,?_,?_,?_,hov,h.l8,h.lno,?_⟩
  · simp only [mkeys,List.map_append,List.map_cons,List.map_nil]
    exact ((ins7_perm e z.dl).map DE.c).trans ((h.perm.cons e.c).trans (List.perm_append_comm (l₁:=[e.c])))
  · intro d hd
    simp only at hd ⊢
    rw [mget_snoc _ hn]
    rcases ins7_mem.1 hd with rfl|hd
    · rw [if_pos rfl];exact ⟨x,rfl,hK,hx,hxs⟩
    · obtain ⟨y,hy,h1,h2,h3⟩:=h.key d hd
      have hne:e.c≠d.c:=fun g=>by rw [g,hy] at hn;cases hn
      rw [if_neg hne]
      exact ⟨y,hy,h1,h2,fun q hq=>hK2 q (h3 q hq)⟩
  · intro d hd
    simp only at hd
    rcases ins7_mem.1 hd with rfl|hd
    · exact ⟨hr,hl⟩
    · exact h.rd d hd
  · simp only [ins7_len];omega
  · intro r y k h1 h2
    obtain ⟨g1,g2,g3,g4,g5,g6,g7⟩:=h.lsm r y k h1 h2
    exact ⟨g1,g2,g3,g4,fun q hq=>hK2 q (g5 q hq),g6,fun q hq=>hK2 q (g7 q hq)⟩
theorem mdel_perm {κ α:Type} [DecidableEq κ] {k:κ} {a:α}:∀ {ms:Ms κ α},mget k ms=some a→(mkeys ms).Perm (k::mkeys (mdel k ms))
  | [],h=>by simp [mget] at h
  | x :: r,h=>by
    by_cases hk:x.1=k
    · simp only [mdel,hk,if_true,mkeys,List.map_cons];exact .refl _
    · simp only [mget,hk,if_false] at h
      simp only [mdel,hk,if_false,mkeys,List.map_cons]
      exact ((mdel_perm h).cons x.1).trans (.swap _ _ _)
/-- One is dropped. -/
theorem KS7.ok.drop {w:World} {z:KS7} (h:z.ok w) {i:Nat} {d:DE} (hd:z.dl[i]? = .some d) (ov:Ov) (hov:OvOk 5 ov (z.dl.take i++z.dl.drop (i+1)).length (fl DE.v (z.dl.take i++z.dl.drop (i+1)))) (KB:Lst) (hK2:∀ q∈z.KB,q∈KB) :
    KS7.ok w ⟨mdel d.c z.fs,z.clk,z.lb,z.lck,ov,z.dl.take i++z.dl.drop (i+1),z.ls,KB⟩:=by
  obtain ⟨hi,hde⟩:=List.getElem?_eq_some_iff.1 hd
  have hsp:z.dl=z.dl.take i++d::z.dl.drop (i+1):=by rw [← hde,List.getElem_cons_drop,List.take_append_drop]
  have hsub:(z.dl.take i++z.dl.drop (i+1)).Sublist z.dl:=by
    conv=>rhs;rw [hsp]
    exact (List.Sublist.refl _).append (List.sublist_cons_self _ _)
  have hnd:(z.dl.map DE.c).Nodup:=h.perm.nodup_iff.2 h.wf.keys
  obtain ⟨x,hx,_⟩:=h.key d (List.mem_of_getElem? hd)
  have hpm:(z.dl.map DE.c).Perm (d.c::(z.dl.take i++z.dl.drop (i+1)).map DE.c):=by
    conv=>lhs;rw [hsp]
    simp only [List.map_append,List.map_cons]
    exact List.perm_middle
  have hnd2:=hpm.nodup_iff.1 hnd
  rw [List.nodup_cons] at hnd2
  refine ⟨h.wf.del d.c,?_,?_,?_,?_,?_,hov,h.l8,h.lno,?_⟩
  · exact List.Perm.cons_inv (hpm.symm.trans (h.perm.trans (mdel_perm hx)))
  · exact h.asc.sublist (hsub.map DE.c)
  · intro e he
    simp only at he ⊢
    rw [mget_mdel _ h.wf.keys]
    have hne:d.c≠e.c:=fun g=>hnd2.1 (by rw [g];exact List.mem_map_of_mem he)
    rw [if_neg hne]
    obtain ⟨y,h1,h2,h3,h4⟩:=h.key e (hsub.subset he)
    exact ⟨y,h1,h2,h3,fun q hq=>hK2 q (h4 q hq)⟩
  · intro e he
    exact h.rd e (hsub.subset he)
  · have:=hsub.length_le
    have:=h.len
    simp only
    omega
  · intro r y k h1 h2
    obtain ⟨g1,g2,g3,g4,g5,g6,g7⟩:=h.lsm r y k h1 h2
    exact ⟨g1,g2,g3,g4,fun q hq=>hK2 q (g5 q hq),g6,fun q hq=>hK2 q (g7 q hq)⟩
theorem putK_get (ms:Ms Int KE) (clk:Nat) (r:Int) (x:KE) (j:Int):mget j (putK ms clk r x).1=if r=j then some x else mget j ms:=by
  unfold putK
  cases h:mget r ms with
  | none=>exact mget_snoc j h
  | some y=>exact mget_mset j h
/-- A label's key is learnt. -/
theorem KS7.ok.learn {w:World} {z:KS7} (h:z.ok w) (r:Nat) (hr:r < 8) (x:KE) (hx:x.ok) (hx4:x.K.length≤40) (y:LB) (hy:y.ov.isSome=true) (hyx:y.xs=1::x.K) (hyo:OvOk 1 y.ov y.xs.length (u8s y.xs)) (KB:Lst) (hxs:∀ q∈x.L,q∈KB) (hys:∀ q∈y.L,q∈KB) (hK2:∀ q∈z.KB,q∈KB) :
    KS7.ok w ⟨z.fs,z.clk,(putK z.lb z.lck r x).1,(putK z.lb z.lck r x).2,z.ov,z.dl,z.ls.set r y,KB⟩:=by
  refine ⟨h.wf,h.perm,h.asc,?_,h.rd,h.len,h.ov,by rw [List.length_set];exact h.l8,?_,?_⟩
  · intro e he
    obtain ⟨u,h1,h2,h3,h4⟩:=h.key e he
    exact ⟨u,h1,h2,h3,fun q hq=>hK2 q (h4 q hq)⟩
  · intro j u h1 h2
    simp only at h1 h2
    rw [putK_get] at h2
    by_cases hj:r=j
    · subst hj;rw [if_pos rfl] at h2;cases h2
    · rw [if_neg (by omega)] at h2
      rw [List.getElem?_set_ne hj] at h1
      exact h.lno j u h1 h2
  · intro j u k h1 h2
    simp only at h1 h2
    rw [putK_get] at h2
    by_cases hj:r=j
    · subst hj
      rw [if_pos rfl] at h2
      cases h2
      rw [List.getElem?_set_self (by rw [h.l8];exact hr)] at h1
      cases h1
      exact ⟨hy,hyx,hx4,hx,hxs,hyo,hys⟩
    · rw [if_neg (by omega)] at h2
      rw [List.getElem?_set_ne hj] at h1
      obtain ⟨g1,g2,g3,g4,g5,g6,g7⟩:=h.lsm j u k h1 h2
      exact ⟨g1,g2,g3,g4,fun q hq=>hK2 q (g5 q hq),g6,fun q hq=>hK2 q (g7 q hq)⟩
end Go.Proofs.Ytijbmkjebidanaa
set_option linter.unusedSimpArgs false
set_option linter.unusedVariables false
set_option linter.unusedSectionVars false
namespace Go.Proofs.Ytijbmkjebidanaa
open Go.RowKit Go.Shelf
/-- Where a walk goes: anywhere,or in a round of the loop l. -/
def fen:Option Nat→Fence
  | none=>Fence.wide
  | some l=>Fence.wide.inRound l
/-- The judgement over a region's operations at such a fence. -/
structure RI (X:Cx) (ro:Option Nat) (all:Array Oper) (l:List Oper) (K:Env→Lst→Prop) (σ:Env) (L:Lst):Prop where
  run:∀ a w,Mod X.n a σ→Hp X.w0 X.S L w→wpListIn (fen ro) 0 X.P all (X.liftK K) l a w
section
variable {X:Cx} {ro:Option Nat} {all:Array Oper} {rest:List Oper} {K:Env→Lst→Prop} {σ:Env} {L:Lst} {o:Oper} {Q:Post}
theorem RI.nil (h:K σ L):RI X ro all [] K σ L:=⟨fun a w ha hw=>⟨rfl,σ,L,ha,hw,h⟩⟩
end
section
variable {X:Cx} {ds:List Deferred} {x y:Code} {Q:Post} {σ:Env} {L:Lst}
end
set_option maxRecDepth 100000
section
variable {X:Cx} {σ:Env} {L Lr:Lst} {d:Option Nat} {ty:TypeId} {pos:String} {af:Array Edge} {g:Option (Nat × Bool)} {x:Operand} {t e:TypeId} {r re:TRow} {p:Option Addr} {n cap i j:Nat}
end
/-- A delta: from where,and a log's part,of each. -/
abbrev Dl:=List (Int × Pi)
section
variable {X:Cx} {σ:Env} {L Lr:Lst} {d:Option Nat} {ty:TypeId} {pos:String} {af:Array Edge} {g:Option (Nat × Bool)} {x:Operand} {t e:TypeId} {r re:TRow} {p:Option Addr} {n cap i j:Nat}
end
/-- A delta whose logs lie in the blocks of L. -/
structure DlO (d:Dl) (L:Lst):Prop where
  cap:∀ x∈d,x.2.xs.length≤x.2.cap
  adr:∀ x∈d,x.2.xs≠[]→∃ b o,x.2.p=some ⟨b,o,none⟩∧b∈blks L
  rd:∀ (w0 w:World) (S:List Nat) (L':Lst),Hp w0 S L' w→(∀ z∈L,z∈L')→∀ x∈d,RdSl w x.2.p iV x.2.xs
theorem DlO.nil (L:Lst):DlO [] L:=⟨by simp,by simp,by simp⟩
theorem ovoff {ov:Ov} {xs:List Value} {e:Nat} {w0 w:World} {S:List Nat} {L Li Lr:Lst} (hw:Hp w0 S L w) (he:Ext L Li Lr) (hin:∀ z∈blkL e ov xs,z∈Lr):Off (ovp ov) (blks Li):=by
  intro a ha
  cases ov with
  | none=>cases ha
  | some q =>
    obtain ⟨b,j,junk⟩:=q
    cases ha
    exact RdSl.off hw he (hin _ List.mem_cons_self)
/-- A call. -/
structure KA where
  k:Int
  r:Int
  c:Cl
  p:Option Addr
  cap:Nat
  xs:List Int
def KA.v (x:KA):List Value:=[.int .i64 x.k,.int .i64 x.r,.int .i64 x.c.id,.int .i64 x.c.roles,.int .i64 x.c.exp,.int .i64 x.c.ser,.slice x.p x.xs.length x.cap]
theorem KA.v_len (x:KA):x.v.length=7:=rfl
structure KA.okR (w:World) (x:KA):Prop where
  rd:RdSl w x.p u8V x.xs
  byt:Byt x.xs
  cap:x.xs.length≤x.cap
theorem u64_range7 (v:Int):0≤IntKind.u64.wrap v∧IntKind.u64.wrap v≤18446744073709551615:=by
  have:IntKind.u64.wrap v=v % 18446744073709551616:=by simp [IntKind.wrap,IntKind.bits,IntKind.signed]
  omega
theorem KeyR.stay7 {ov:Ov} {bk:Nat} {xs:List Int} (hov:OvOk 1 ov xs.length (u8s xs)) {w0 w:World} {S:List Nat} {L Li Lr:Lst} (hw:Hp w0 S L w) (he:Ext L Li Lr) (hin:∀ z∈KL bk ov xs,z∈Lr):∀ w1,Chg (blks Li) w w1→KeyR w1 bk xs:=fun w1 hc=>by
  refine ⟨ovp ov,ovc ov xs.length,?_,(rdown hov hw fun z hz=>he.perm.subset (List.mem_append_right _ (hin z (List.mem_cons_of_mem _ hz)))).chg' hc fun _=>ovoff hw he fun z hz=>hin z (List.mem_cons_of_mem _ hz)⟩
  rw [← slV_eq hov]
  exact hc.heap (hw.get _ _ (he.perm.subset (List.mem_append_right _ (hin _ List.mem_cons_self)))) (RdSl.off hw he (hin _ List.mem_cons_self))
theorem rown_ok7 (br:Nat) (c:Cl) (s:List Int) (hs:s.length=32) (m1 m2:Nat) (e:TypeId) (w:World) (hb:w.heap[br]? = some (.cells ⟨ringC c s m1 m2⟩ e (0,0))) :
    CallW Try.prog 27 [.pointer (some ⟨br,0,none⟩)] w fun v _=>v = .agg ⟨tkC c s⟩:=by
  have htk:=ring_tk c hs m1 m2
  have htl:=tk_len (c:=c) hs
  have hto:=tk_one c s
  refine enterW (tb:=tb) Try.func27 rfl Try.ntmps27 rfl ?_
  repeat' (first|(apply R.is1;first|(apply R.isBin;(apply R.pure;exact rfl;(apply Ok1.eqlP;(iterate 5 exact rfl))))|(apply R.pure;exact rfl;first|(apply Ok1.load;exact rfl;(apply Ld.blkk;exact rfl;exact rfl;exact hb;exact List.not_mem_nil;exact htk))|(apply Ok1.move;exact rfl)|(apply Ok1.fieldAddr;(iterate 5 exact rfl))|(apply Ok1.nilCheck;exact rfl))|(apply R.alloc;(iterate 3 exact rfl);intro))|(apply R.is0;(apply R.store;(iterate 4 exact rfl);exact htl;exact hto;exact Upd.head;exact setE_all htl))|apply R.nil|(apply T.is;first|apply T.seq|apply T.region|apply T.skip|apply T.ret|(apply T.cond_f;exact rfl)))
  (apply RetOk.c;exact rfl;(apply Ld.ownk;exact rfl;exact rfl;exact At.head;exact subE_all htl))
  rfl
noncomputable def tcl7 (c:Cl):Cl:=open Classical in if c.right then c else ⟨1,0,0,1⟩
theorem tcl7_right (c:Cl):(tcl7 c).right:=by
  unfold tcl7
  split
  · assumption
  · decide
theorem ltoken_any7 (p:Option Addr) (n cap:Nat) (k:List Int) (hn:n=k.length) (hkl:n≤999999000) (hkb:Byt k) (c:Cl) (w:World) (hp:RdSl w p u8V k) :
    CallM Try.prog 24 [.slice p n cap,kvC c] [] w fun v L=>v = .agg ⟨tkC (tcl7 c) (secretI k (tcl7 c))⟩∧L=[]:=by
  by_cases hr:c.right
  · have ht:tcl7 c=c:=by unfold tcl7;rw [if_pos hr]
    rw [ht]
    exact CallW.toM (ltoken_ok p n cap k hn hkl hkb c hr w hp)
  have ht:tcl7 c=⟨1,0,0,1⟩:=by unfold tcl7;rw [if_neg hr]
  rw [ht]
  subst hn
  have hr1:(⟨1,0,0,1⟩:Cl).right:=by decide
  have hsl:=secret_len k ⟨1,0,0,1⟩
  have hmk:=fun bk w1 hk=>make_ok ⟨1,0,0,1⟩ hr1 bk k hkl hkb w1 hk
  have hmb:=fun bk=>make_bad c hr bk
  generalize secretI k ⟨1,0,0,1⟩=d at *
  have htl:=tk_len (c:=⟨1,0,0,1⟩) hsl
  have hto:=tk_one ⟨1,0,0,1⟩ d
  have htl0:(tkC ⟨0,0,0,0⟩ (zI 32)).length=36:=rfl
  refine enterK (tb:=tb) Try.func24 rfl Try.ntmps24 rfl ?_
  simp only [kvC] at hmk hmb ⊢
  repeat' (first|(apply R.is1;first|(apply R.isBin;(apply R.pure;exact rfl;(apply Ok1.neq_t;exact rfl;exact rfl;omega)))|(apply R.isCall;first|(apply R.callE (vs:=[.slice p k.length cap]);(iterate 3 exact rfl);exact Ext.none _;intro w1 hw1;exact new_ok p k.length cap k rfl (by omega) w1 (hp.chg' hw1.chg (fun _=>Off.nil _));rintro v Lo ⟨bk2,ov2,rfl,hov2,_,rfl⟩)|(apply R.callV (vs:=[.pointer (some ⟨bk2,0,none⟩),.agg _]);(iterate 3 exact rfl);intro w1 hw1;exact hmk bk2 w1 (KeyR.of hov2 hw1 (Ext.mem (by (focus ((repeat' (exact Ext.here _ _));done)))))))|(apply R.pure;exact rfl;first|(apply Ok1.load;exact rfl;apply Ld.ownk;exact rfl;exact rfl;(focus (repeat' first|exact At.head|apply At.tail|apply At.right);done);exact subE_all htl)|(apply Ok1.move;exact rfl)|(apply Ok1.build;(iterate 5 exact rfl))|(apply Ok1.extract;exact rfl;exact rfl))|(apply R.box;(iterate 3 exact rfl);intro)|(apply R.alloc;(iterate 3 exact rfl);intro))|(apply R.is0;(apply R.store;(iterate 4 exact rfl);exact htl;exact hto;(focus (repeat' first|exact Upd.head|apply Upd.tail|apply Upd.right);done);exact setE_all htl))|apply R.nil|(apply T.is;first|(apply T.drawC (id:=1) [1] (by decide);((apply A.tk 0;exact rfl;kernel_rfl;(apply Ok1.move;exact rfl))<;>(apply A.tk 2;exact rfl;kernel_rfl;(apply Ok1.load;exact rfl;(apply Ld.ownk;exact rfl;exact rfl;exact At.head;exact rfl)))<;>(apply A.two 1 8;kernel_rfl;exact rfl;exact rfl;rotate_left 1;(focus (((((apply R.alloc;(iterate 3 exact rfl);intro)));apply R.nil;refine ⟨?_,?_⟩;(focus (repeat' first|exact trivial|exact At.head|apply At.tail|refine ⟨?_,?_⟩)))<;>(apply A.one 1;kernel_rfl;exact rfl;(((apply R.callE (vs:=[.slice p k.length cap]);(iterate 3 exact rfl);exact Ext.none _;intro w1 hw1;exact new_ok p k.length cap k rfl (by omega) w1 (hp.chg' hw1.chg (fun _=>Off.nil _));rintro v Lo ⟨bk2,ov2,rfl,hov2,_,rfl⟩)));apply R.nil;refine ⟨?_,?_⟩;(focus (repeat' first|exact trivial|exact At.head|apply At.tail|apply At.right|refine ⟨?_,?_⟩)))<;>(apply A.call 3;exact rfl;exact rfl;kernel_rfl;kernel_rfl;kernel_rfl;exact rfl;exact rfl;(exact fun w1 _=>(to5_ok _ _ _ _).w w1))<;>(apply A.one 4;kernel_rfl;exact rfl;(((apply R.callP (vs:=[.pointer (some ⟨_,0,none⟩),.agg ⟨[.int .i64 c.id,.int .i64 c.roles,.int .i64 c.exp,.int .i64 c.ser]⟩]);(iterate 3 exact rfl);exact hmb _)));apply R.nil;refine ⟨?_,?_⟩;(focus (repeat' first|exact trivial|exact At.head|apply At.tail|apply At.right|refine ⟨?_,?_⟩)))<;>(apply A.tk 5;exact rfl;kernel_rfl;(apply Ok1.move;exact rfl))<;>(apply A.tk 6;exact rfl;kernel_rfl;(apply Ok1.extract;exact rfl;exact rfl))<;>(apply A.tk 7;exact rfl;kernel_rfl;(apply Ok1.extract;exact rfl;exact rfl))<;>(apply A.one 9;kernel_rfl;exact rfl;(((apply R.store;(iterate 4 exact rfl);exact htl0;exact rfl;(focus (repeat' first|exact Upd.head|apply Upd.tail|apply Upd.right);done);exact setE_all htl0)));apply R.nil;refine ⟨?_,?_⟩;(focus (repeat' first|exact trivial|exact At.head|apply At.tail|apply At.right|refine ⟨?_,?_⟩)))<;>(apply A.tk 10;exact rfl;kernel_rfl;(apply Ok1.assign;exact rfl))<;>(apply A.done;kernel_rfl)));rotate_right 1;(focus (((((apply R.callE (vs:=[.slice p k.length cap]);(iterate 3 exact rfl);exact Ext.none _;intro w1 hw1;exact new_ok p k.length cap k rfl (by omega) w1 (hp.chg' hw1.chg (fun _=>Off.nil _));rintro v Lo ⟨bk2,ov2,rfl,hov2,_,rfl⟩)));apply R.nil;refine ⟨?_,?_⟩;(focus (repeat' first|exact trivial|exact At.head|apply At.tail|apply At.right|refine ⟨?_,?_⟩)))<;>(apply A.call 3;exact rfl;exact rfl;kernel_rfl;kernel_rfl;kernel_rfl;exact rfl;exact rfl;(exact fun w1 _=>(to5_ok _ _ _ _).w w1))<;>(apply A.two 4 8;kernel_rfl;exact rfl;exact rfl;rotate_left 1;(focus (((((apply R.alloc;(iterate 3 exact rfl);intro)));apply R.nil;refine ⟨?_,?_⟩;(focus (repeat' first|exact trivial|exact At.head|apply At.tail|apply At.right|refine ⟨?_,?_⟩)))<;>(apply A.one 4;kernel_rfl;exact rfl;(((apply R.callP (vs:=[.pointer (some ⟨_,0,none⟩),.agg ⟨[.int .i64 c.id,.int .i64 c.roles,.int .i64 c.exp,.int .i64 c.ser]⟩]);(iterate 3 exact rfl);exact hmb _)));apply R.nil;refine ⟨?_,?_⟩;(focus (repeat' first|exact trivial|exact At.head|apply At.tail|apply At.right|refine ⟨?_,?_⟩)))<;>(apply A.tk 5;exact rfl;kernel_rfl;(apply Ok1.move;exact rfl))<;>(apply A.tk 6;exact rfl;kernel_rfl;(apply Ok1.extract;exact rfl;exact rfl))<;>(apply A.tk 7;exact rfl;kernel_rfl;(apply Ok1.extract;exact rfl;exact rfl))<;>(apply A.one 9;kernel_rfl;exact rfl;(((apply R.store;(iterate 4 exact rfl);exact htl0;exact rfl;exact Upd.head;exact setE_all htl0)));apply R.nil;refine ⟨?_,?_⟩;(focus (repeat' first|exact trivial|exact At.head|apply At.tail|apply At.right|refine ⟨?_,?_⟩)))<;>(apply A.tk 10;exact rfl;kernel_rfl;(apply Ok1.assign;exact rfl))<;>(apply A.done;kernel_rfl)));rotate_right 1;(focus (((((apply R.callP (vs:=[.pointer (some ⟨_,0,none⟩),.agg ⟨[.int .i64 c.id,.int .i64 c.roles,.int .i64 c.exp,.int .i64 c.ser]⟩]);(iterate 3 exact rfl);exact hmb _)));apply R.nil;refine ⟨?_,?_⟩;(focus (repeat' first|exact trivial|exact At.head|apply At.tail|apply At.right|refine ⟨?_,?_⟩)))<;>(apply A.tk 5;exact rfl;kernel_rfl;(apply Ok1.move;exact rfl))<;>(apply A.tk 6;exact rfl;kernel_rfl;(apply Ok1.extract;exact rfl;exact rfl))<;>(apply A.tk 7;exact rfl;kernel_rfl;(apply Ok1.extract;exact rfl;exact rfl))<;>(apply A.one 8;kernel_rfl;exact rfl;(((apply R.alloc;(iterate 3 exact rfl);intro)));apply R.nil;refine ⟨?_,?_⟩;(focus (repeat' first|exact trivial|exact At.head|apply At.tail|apply At.right|refine ⟨?_,?_⟩)))<;>(apply A.one 9;kernel_rfl;exact rfl;(((apply R.store;(iterate 4 exact rfl);exact htl0;exact rfl;exact Upd.head;exact setE_all htl0)));apply R.nil;refine ⟨?_,?_⟩;(focus (repeat' first|exact trivial|exact At.head|apply At.tail|apply At.right|refine ⟨?_,?_⟩)))<;>(apply A.tk 10;exact rfl;kernel_rfl;(apply Ok1.assign;exact rfl))<;>(apply A.done;kernel_rfl)))))))))|apply T.seq|apply T.region|apply T.ret|(apply T.cond_t;exact rfl)))
  all_goals apply RetOk.c
  all_goals first|exact rfl|skip
  all_goals first|(apply Ld.ownk;exact rfl;exact rfl;(focus (repeat' first|exact At.head|apply At.tail|apply At.right);done);exact subE_all htl)|exact ⟨_,by (focus ((repeat' (exact Keep.nil _));done)),rfl,rfl⟩
end Go.Proofs.Ytijbmkjebidanaa
