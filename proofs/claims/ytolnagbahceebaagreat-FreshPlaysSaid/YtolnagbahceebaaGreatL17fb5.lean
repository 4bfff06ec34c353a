/- Texts of the proof: Da2, Rg1, Da4, Dn2, Rd7, Rf6, Dd1, Dd2, Dd3, L08x, Lcj, Mk1, Lcw, FrK, Fr0, Fr1, Lfr, Eng35. -/
import Derived.Test.YtolnagbahceebaaGreatL17fb4
import Derived.JoinedOf
set_option linter.unusedSimpArgs false
set_option linter.unusedVariables false
namespace Go.Proofs.YtolnagbahceebaaGreat
open Go.RowKit Go.Shelf
set_option maxRecDepth 100000
def VR (vs:List Int):Prop:=∀ x∈vs,0≤x∧x≤256
instance (vs:List Int):Decidable (VR vs):=by unfold VR;infer_instance
theorem dright1_ok (x:Int):CallP Tryz.prog 162 [.int .i64 x] (.bool (decide (x < 0 ∨ 256 < x))):=by
  refine enterP (tb:=tb) Tryz.func162 rfl Tryz.ntmps162 rfl fun w=>?_
  by_cases h0:x < 0
  · rw [decide_eq_true (.inl h0)]
    repeat' (first|(apply R.is1;first|(apply R.isBin;(apply R.pure;exact rfl;(apply Ok1.lss_t;exact rfl;exact rfl;omega)))|(apply R.pure;exact rfl;first|(apply Ok1.move;exact rfl)|(apply Ok1.assign;exact rfl)|(apply Ok1.pick_t;exact rfl;exact rfl)))|(apply R.isG;(apply R.guard_not;(iterate 3 exact rfl)))|apply R.nil|(apply T.is;first|apply T.seq|apply T.region|apply T.ret))
    (apply RetOk.t;exact rfl)
    rfl
  · by_cases h1:256 < x
    · rw [decide_eq_true (.inr h1)]
      repeat' (first|(apply R.is1;first|(apply R.isBin;(apply R.pure;exact rfl;first|(apply Ok1.lss_f;exact rfl;exact rfl;omega)|(apply Ok1.gtr_t;exact rfl;exact rfl;omega)))|(apply R.pure;exact rfl;first|(apply Ok1.move;exact rfl)|(apply Ok1.assign;exact rfl)|(apply Ok1.pick_f;exact rfl;exact rfl)))|(apply R.isG;(apply R.guard_run;exact rfl;exact rfl))|apply R.nil|(apply T.is;first|apply T.seq|apply T.region|apply T.ret))
      (apply RetOk.t;exact rfl)
      rfl
    · rw [decide_eq_false (by omega)]
      repeat' (first|(apply R.is1;first|(apply R.isBin;(apply R.pure;exact rfl;first|(apply Ok1.lss_f;exact rfl;exact rfl;omega)|(apply Ok1.gtr_f;exact rfl;exact rfl;omega)))|(apply R.pure;exact rfl;first|(apply Ok1.move;exact rfl)|(apply Ok1.assign;exact rfl)|(apply Ok1.pick_f;exact rfl;exact rfl)))|(apply R.isG;(apply R.guard_run;exact rfl;exact rfl))|apply R.nil|(apply T.is;first|apply T.seq|apply T.region|apply T.ret))
      (apply RetOk.t;exact rfl)
      rfl
theorem vright_ok (vs:List Int) (hl:vs.length=4):CallP Tryz.prog 97 [.agg ⟨iis vs⟩] (.bool (decide (VR vs))):=by
  have hc:=fun p w1 h=>conF_ok p 4 4 vs hl.symm (by decide) 162 rfl _ dright1_ok w1 h
  have he:(vs.any fun x=>decide (x < 0 ∨ 256 < x)) = !decide (VR vs):=by
    by_cases hs:VR vs
    · rw [decide_eq_true hs]
      cases h4:vs.any fun x=>decide (x < 0 ∨ 256 < x) with
      | false=>rfl
      | true =>
        obtain ⟨x,hx,hb⟩:=List.any_eq_true.1 h4
        have:=hs x hx
        have:=of_decide_eq_true hb
        omega
    · rw [decide_eq_false hs]
      cases h4:vs.any fun x=>decide (x < 0 ∨ 256 < x) with
      | true=>rfl
      | false =>
        refine absurd (fun x hx=>?_) hs
        have:=List.any_eq_false.1 h4 x hx
        simp only [decide_eq_true_eq] at this
        omega
  rw [he] at hc
  generalize decide (VR vs)=q at *
  have hil:(iis vs).length=4:=by rw [iis_len,hl]
  refine enterP (tb:=tb) Tryz.func97 rfl Tryz.ntmps97 rfl fun w=>?_
  cases q
  · repeat' (first|(apply R.is1;first|(apply R.isCall;(apply R.callV;(iterate 3 exact rfl);intro w1 hw1;exact hc _ w1 (RdSl.of (junk:=[]) hw1 (by exact At.head) (by rw [fl_i,List.append_nil]))))|(apply R.pure;exact rfl;first|(apply Ok1.sliceArr;(iterate 4 exact rfl))|(apply Ok1.assign;exact rfl)|(apply Ok1.not_t;exact rfl))|(apply R.box;(iterate 3 exact rfl);intro))|apply R.nil|(apply T.is;first|apply T.seq|apply T.region|apply T.ret))
    (apply RetOk.t;exact rfl)
    rfl
  · repeat' (first|(apply R.is1;first|(apply R.isCall;(apply R.callV;(iterate 3 exact rfl);intro w1 hw1;exact hc _ w1 (RdSl.of (junk:=[]) hw1 (by exact At.head) (by rw [fl_i,List.append_nil]))))|(apply R.pure;exact rfl;first|(apply Ok1.sliceArr;(iterate 4 exact rfl))|(apply Ok1.assign;exact rfl)|(apply Ok1.not_f;exact rfl))|(apply R.box;(iterate 3 exact rfl);intro))|apply R.nil|(apply T.is;first|apply T.seq|apply T.region|apply T.ret))
    (apply RetOk.t;exact rfl)
    rfl
theorem rvright_ok (v0 v1 v2 v3:Int):CallP Tryz.prog 91 [.agg ⟨iis [v0,v1,v2,v3]⟩] (.bool (decide (VR [v0,v1,v2,v3]))):=by
  have he:VR [v0,v1,v2,v3] ↔ (0≤v0∧v0≤256)∧(0≤v1∧v1≤256)∧(0≤v2∧v2≤256)∧(0≤v3∧v3≤256):=by simp [VR]
  refine enterP (tb:=tb) Tryz.func91 rfl Tryz.ntmps91 rfl fun w=>?_
  repeat' (first|(apply R.is1;first|(apply R.isBin;first|(apply R.pure;exact rfl;first|(apply Ok1.add64;exact rfl;exact rfl;omega;omega)|(apply Ok1.lss_t;exact rfl;exact rfl;omega)|(apply Ok1.lss_f;exact rfl;exact rfl;omega))|(apply R.lss rfl rfl rfl<;>intro)|(apply R.gtr rfl rfl rfl<;>intro))|(apply R.pure;exact rfl;first|(apply Ok1.move;exact rfl)|(apply Ok1.load;exact rfl;(apply Ld.own1;exact rfl;exact rfl;exact At.head;exact rfl))|(apply Ok1.assign;exact rfl)|(apply Ok1.indexAddrA;(iterate 5 exact rfl);omega;omega)|(apply Ok1.pick_t;exact rfl;exact rfl)|(apply Ok1.pick_f;exact rfl;exact rfl))|(apply R.box;(iterate 3 exact rfl);intro))|(apply R.isG;first|(apply R.guard_run;exact rfl;exact rfl)|(apply R.guard_not;(iterate 3 exact rfl)))|apply R.nil|(apply T.is;first|apply T.rounds 5|apply T.seq|apply T.region|apply T.block|apply T.skip|apply T.exit|apply T.ret|(apply T.cond_t;exact rfl)|(apply T.cond_f;exact rfl)))
  all_goals (apply RetOk.t;exact rfl)
  all_goals first
    | (rw [decide_eq_true];rw [he];omega)
    | (rw [decide_eq_false];rw [he];omega)
def cntL (dd:List (Int × List Int)):Nat:=(dd.map fun x=>x.2.length).sum
theorem dsize_ok (d:Dl) (hl:d.length=4) (hbig:∀ x∈d,x.2.xs.length≤1000000):CallP Tryz.prog 154 [.agg ⟨dlV d⟩] (.int .i64 (16+2 * cntL (pur d))):=by
  match d,hl with
  | [(a0,x0),(a1,x1),(a2,x2),(a3,x3)],_ =>
    have h0:=hbig _ (.head _)
    have h1:=hbig _ (.tail _ (.head _))
    have h2:=hbig _ (.tail _ (.tail _ (.head _)))
    have h3:=hbig _ (.tail _ (.tail _ (.tail _ (.head _))))
    simp only at h0 h1 h2 h3
    have e:(16+2 * (cntL (pur [(a0,x0),(a1,x1),(a2,x2),(a3,x3)]):Int))=16+2 * x0.xs.length+2 * x1.xs.length+2 * x2.xs.length+2 * x3.xs.length:=by
      simp only [cntL,pur,List.map_cons,List.map_nil,List.sum_cons,List.sum_nil]
      omega
    rw [e]
    have ev:dlV [(a0,x0),(a1,x1),(a2,x2),(a3,x3)]=[.int .i64 a0,.int .i64 a1,.int .i64 a2,.int .i64 a3,.slice x0.p x0.xs.length x0.cap,.slice x1.p x1.xs.length x1.cap,.slice x2.p x2.xs.length x2.cap,.slice x3.p x3.xs.length x3.cap]:=rfl
    rw [ev]
    refine enterP (tb:=tb) Tryz.func154 rfl Tryz.ntmps154 rfl fun w=>?_
    repeat' (first|(apply R.is1;first|(apply R.isBin;(apply R.pure;exact rfl;first|(apply Ok1.add64;exact rfl;exact rfl;omega;omega)|(apply Ok1.lss_t;exact rfl;exact rfl;omega)|(apply Ok1.lss_f;exact rfl;exact rfl;omega)|(apply Ok1.mul64;exact rfl;exact rfl;omega;omega)))|(apply R.isCall;(apply R.pure;exact rfl;(apply Ok1.lenS;(iterate 3 exact rfl))))|(apply R.pure;exact rfl;first|(apply Ok1.move;exact rfl)|(apply Ok1.fieldAddr;(iterate 5 exact rfl))|(apply Ok1.load;exact rfl;(apply Ld.ownk;exact rfl;exact rfl;exact At.head;exact rfl))|(apply Ok1.assign;exact rfl)|(apply Ok1.index1;(iterate 6 exact rfl);omega;omega;exact rfl))|(apply R.box;(iterate 3 exact rfl);intro))|apply R.nil|(apply T.is;first|apply T.rounds 5|apply T.seq|apply T.region|apply T.block|apply T.skip|apply T.exit|apply T.ret|(apply T.cond_t;exact rfl)|(apply T.cond_f;exact rfl)))
    (apply RetOk.t;exact rfl)
    rfl
def Cov (us vs:List Int):Prop:=∀ x∈us.zip vs,x.2≤x.1
instance (us vs:List Int):Decidable (Cov us vs):=by unfold Cov;infer_instance
/-- Serials log by log,as long as there is room. -/
def cutD:Nat→List (Int × List Int)→List (Int × List Int)
  | _,[]=>[]
  | n,x::r=>(x.1,x.2.take n)::cutD (n - x.2.length) r
def minV (ls:List (List Int)) (vs:List Int):List Int:=(ls.zip vs).map fun x=>min x.2 x.1.length
def ovr (room:Int) (d:Dl):Int:=(max (16+2 * (cntL (pur d):Int) - room) 0+1) / 2
def cutN (room:Int) (d:Dl) (x:Pi):Nat:=(max ((x.xs.length:Int) - ovr room d) 0).toNat
def cutP (n:Nat) (x:Pi):Pi:=⟨x.p,n,x.xs.take n⟩
def cutAt (room:Int) (k:Nat) (d:Dl):Dl:=match d[k]? with
  | some x=>d.set k (x.1,cutP (cutN room d x.2) x.2)
  | none=>d
theorem cutAt_len (room:Int) (k:Nat) (d:Dl):(cutAt room k d).length=d.length:=by
  unfold cutAt;split<;>simp
theorem cutN_le (room:Int) (d:Dl) (x:Pi):cutN room d x≤x.xs.length:=by
  unfold cutN ovr
  omega
theorem cutAt_mem {room:Int} {k:Nat} {d:Dl} {y:Int × Pi} (h:y∈cutAt room k d):y∈d ∨ ∃ x n,x∈d∧n≤x.2.xs.length∧y=(x.1,cutP n x.2):=by
  unfold cutAt at h
  split at h
  · rename_i x hx
    rcases List.mem_or_eq_of_mem_set h with h1|h1
    · exact .inl h1
    · exact .inr ⟨x,_,List.mem_of_getElem? hx,cutN_le _ _ _,h1⟩
  · exact .inl h
theorem DlO.cut {d:Dl} {L:Lst} (h:DlO d L) (room:Int) (k:Nat):DlO (cutAt room k d) L:=by
  refine ⟨fun y hy=>?_,fun y hy hne=>?_,fun w0 w S L' hw hin y hy=>?_⟩
  · rcases cutAt_mem hy with h1|⟨x,n,hx,hn,rfl⟩
    · exact h.cap y h1
    · simp only [cutP,List.length_take];omega
  · rcases cutAt_mem hy with h1|⟨x,n,hx,hn,rfl⟩
    · exact h.adr y h1 hne
    · refine h.adr x hx ?_
      rintro h0
      apply hne
      simp [cutP,h0]
  · rcases cutAt_mem hy with h1|⟨x,n,hx,hn,rfl⟩
    · exact h.rd w0 w S L' hw hin y h1
    · exact (h.rd w0 w S L' hw hin x hx).pre iV_len n
def cutF (room:Int) (d:Dl):Nat→Dl
  | 0=>d
  | k+1=>cutAt room (3 - k) (cutF room d k)
theorem cutF_len (room:Int) (d:Dl) (k:Nat):(cutF room d k).length=d.length:=by
  induction k with
  | zero=>rfl
  | succ k ih=>rw [cutF,cutAt_len,ih]
theorem DlO.cutF {d:Dl} {L:Lst} (h:DlO d L) (room:Int) (k:Nat):DlO (cutF room d k) L:=by
  induction k with
  | zero=>exact h
  | succ k ih=>exact ih.cut room _
theorem cutF_le (room:Int) (d:Dl) (m:Nat) (h:∀ x∈d,x.2.xs.length≤m) (k:Nat):∀ x∈cutF room d k,x.2.xs.length≤m:=by
  induction k with
  | zero=>exact h
  | succ k ih =>
    intro y hy
    rcases cutAt_mem hy with h1|⟨x,n,hx,hn,rfl⟩
    · exact ih y h1
    · have:=ih x hx
      simp only [cutP,List.length_take];omega
theorem take_eq {α:Type} {l:List α} {m n:Nat} (h:min m l.length=min n l.length):l.take m=l.take n:=by
  rcases Nat.le_total m l.length with h1|h1
  · rcases Nat.le_total n l.length with h2|h2
    · rw [Nat.min_eq_left h1,Nat.min_eq_left h2] at h;rw [h]
    · rw [Nat.min_eq_left h1,Nat.min_eq_right h2] at h;rw [List.take_of_length_le h2,h,List.take_length]
  · rcases Nat.le_total n l.length with h2|h2
    · rw [Nat.min_eq_right h1,Nat.min_eq_left h2] at h;rw [List.take_of_length_le h1,← h,List.take_length]
    · rw [List.take_of_length_le h1,List.take_of_length_le h2]
theorem cutF_all (room:Int) (hr:16≤room) (d:Dl) (hd:d.length=4):pur (cutF room d 4)=cutD ((room - 16) / 2).toNat (pur d):=by
  match d,hd with
  | [(a0,x0),(a1,x1),(a2,x2),(a3,x3)],_ =>
    obtain ⟨m,hm⟩:∃ m:Nat,(room - 16) / 2=m:=⟨((room - 16) / 2).toNat,by omega⟩
    rw [hm,Int.toNat_natCast]
    have e1:cutF room [(a0,x0),(a1,x1),(a2,x2),(a3,x3)] 1=[(a0,x0),(a1,x1),(a2,x2),(a3,cutP (cutN room [(a0,x0),(a1,x1),(a2,x2),(a3,x3)] x3) x3)]:=rfl
    have n3:cutN room [(a0,x0),(a1,x1),(a2,x2),(a3,x3)] x3=min x3.xs.length (m - x0.xs.length - x1.xs.length - x2.xs.length):=by
      simp only [cutN,ovr,cntL,pur,List.map_cons,List.map_nil,List.sum_cons,List.sum_nil]
      omega
    rw [n3] at e1
    generalize hy3:cutP (min x3.xs.length (m - x0.xs.length - x1.xs.length - x2.xs.length)) x3=y3 at *
    have l3:y3.xs.length=min x3.xs.length (m - x0.xs.length - x1.xs.length - x2.xs.length):=by rw [← hy3];simp only [cutP,List.length_take];omega
    have t3:y3.xs=x3.xs.take (m - x0.xs.length - x1.xs.length - x2.xs.length):=by rw [← hy3];exact take_eq (by omega)
    have e2:cutF room [(a0,x0),(a1,x1),(a2,x2),(a3,x3)] 2=[(a0,x0),(a1,x1),(a2,cutP (cutN room [(a0,x0),(a1,x1),(a2,x2),(a3,y3)] x2) x2),(a3,y3)]:=by rw [cutF,e1];rfl
    have n2:cutN room [(a0,x0),(a1,x1),(a2,x2),(a3,y3)] x2=min x2.xs.length (m - x0.xs.length - x1.xs.length):=by
      simp only [cutN,ovr,cntL,pur,List.map_cons,List.map_nil,List.sum_cons,List.sum_nil,l3]
      omega
    rw [n2] at e2
    generalize hy2:cutP (min x2.xs.length (m - x0.xs.length - x1.xs.length)) x2=y2 at *
    have l2:y2.xs.length=min x2.xs.length (m - x0.xs.length - x1.xs.length):=by rw [← hy2];simp only [cutP,List.length_take];omega
    have t2:y2.xs=x2.xs.take (m - x0.xs.length - x1.xs.length):=by rw [← hy2];exact take_eq (by omega)
    have e3:cutF room [(a0,x0),(a1,x1),(a2,x2),(a3,x3)] 3=[(a0,x0),(a1,cutP (cutN room [(a0,x0),(a1,x1),(a2,y2),(a3,y3)] x1) x1),(a2,y2),(a3,y3)]:=by rw [cutF,e2];rfl
    have n1:cutN room [(a0,x0),(a1,x1),(a2,y2),(a3,y3)] x1=min x1.xs.length (m - x0.xs.length):=by
      simp only [cutN,ovr,cntL,pur,List.map_cons,List.map_nil,List.sum_cons,List.sum_nil,l3,l2]
      omega
    rw [n1] at e3
    generalize hy1:cutP (min x1.xs.length (m - x0.xs.length)) x1=y1 at *
    have l1:y1.xs.length=min x1.xs.length (m - x0.xs.length):=by rw [← hy1];simp only [cutP,List.length_take];omega
    have t1:y1.xs=x1.xs.take (m - x0.xs.length):=by rw [← hy1];exact take_eq (by omega)
    have e4:cutF room [(a0,x0),(a1,x1),(a2,x2),(a3,x3)] 4=[(a0,cutP (cutN room [(a0,x0),(a1,y1),(a2,y2),(a3,y3)] x0) x0),(a1,y1),(a2,y2),(a3,y3)]:=by rw [cutF,e3];rfl
    have n0:cutN room [(a0,x0),(a1,y1),(a2,y2),(a3,y3)] x0=min x0.xs.length m:=by
      simp only [cutN,ovr,cntL,pur,List.map_cons,List.map_nil,List.sum_cons,List.sum_nil,l3,l2,l1]
      omega
    rw [e4,n0]
    simp only [pur,List.map_cons,List.map_nil,cutD,t1,t2,t3,cutP]
    rw [take_eq (l:=x0.xs) (m:=min x0.xs.length m) (n:=m) (by omega)]
theorem dl_setlog {d:Dl} (hd:d.length=4) {k:Nat} {x:Int × Pi} (hx:d[k]? = some x) (y:Pi):setE (dlV d) (4+k * 1) [.slice y.p y.xs.length y.cap]=some (dlV (d.set k (x.1,y))):=by
  have hk:k < 4:=by rw [← hd];exact (List.getElem?_eq_some_iff.1 hx).1
  rw [setE_one (by rw [show (dlV d).length=8 by simp [dlV,fl_pi,iis_len,hd]];omega)]
  congr 1
  match d,hd,k,hk,hx with
  | [_,_,_,_],_,0,_,rfl=>rfl
  | [_,_,_,_],_,1,_,rfl=>rfl
  | [_,_,_,_],_,2,_,rfl=>rfl
  | [_,_,_,_],_,3,_,rfl=>rfl
theorem backward_ok (p:Option Addr) (n c:Nat) (w:World):CallM Tryz.prog 153 [.slice p n c] [] w fun v L=>∃ cb,v = .func (.func 204) #[] #[.pointer (some ⟨cb,0,none⟩)]∧L=[(cb,.cells ⟨[.slice p n c]⟩ 87 (0,0))]:=by
  refine enterK (tb:=tb) Tryz.func153 rfl Tryz.ntmps153 rfl ?_
  repeat' (first|(apply R.is1;first|(apply R.pure;exact rfl;first|(apply Ok1.assign;exact rfl)|(apply Ok1.makeFunc;exact rfl;exact rfl))|(apply R.box;(iterate 3 exact rfl);intro))|apply R.nil|(apply T.is;first|apply T.seq|apply T.region|apply T.ret))
  (apply RetOk.t;exact rfl)
  exact ⟨_,by (focus (repeat' first|exact Keep.nil _|exact Ext.one _ _|apply Keep.cons);done),_,rfl,rfl⟩
/-- The blocks of the answer's loop: the delta,the room. -/
def AnL (b5 b10:Nat) (room:Int) (d:Dl):Lst:=[(b10,.cells ⟨dlV d⟩ 76 (0,0)),(b5,.cells ⟨[.int .i64 room]⟩ 3 (0,0))]
theorem backward1_ok (b5 b10:Nat) (room:Int) (F:Nat→Dl) (hF:∀ k,(F k).length=4) (l:Nat) (o:Obj) (cb:Nat)
    (hY:∀ k x w,k < 4→(F k)[3 - k]? = some x→YieldM Tryz.prog l [.int .i64 (3 - k),.slice x.2.p x.2.xs.length x.2.cap] ((l,o)::AnL b5 b10 room (F k)) w fun v L=>v = .bool true∧∃ L5,L5=AnL b5 b10 room (F (k+1))∧L=(l,o)::L5) (w:World) :
    CallM Tryz.prog 204 [.func (.yield l) #[] #[],.pointer (some ⟨cb,0,none⟩)] ((l,o)::(cb,.cells ⟨[.slice (some ⟨b10,4,none⟩) 4 4]⟩ 87 (0,0))::AnL b5 b10 room (F 0)) w fun v L=>L=(l,o)::(cb,.cells ⟨[.slice (some ⟨b10,4,none⟩) 4 4]⟩ 87 (0,0))::AnL b5 b10 room (F 4):=by
  refine enterK (tb:=tb) Tryz.func204 rfl Tryz.ntmps204 rfl ?_
  repeat' (first|(apply R.is1;first|(apply R.isBin;(apply R.pure;exact rfl;(apply Ok1.sub64;exact rfl;exact rfl;omega;omega)))|(apply R.isCall;(apply R.pure;exact rfl;(apply Ok1.lenS;(iterate 3 exact rfl))))|(apply R.pure;exact rfl;first|(apply Ok1.load;exact rfl;(apply Ld.own1;exact rfl;exact rfl;(focus (repeat' first|exact At.head|apply At.tail);done);exact rfl))|(apply Ok1.assign;exact rfl)))|apply R.nil|(apply T.is;first|apply T.seq|apply T.region|apply T.block))
  apply T.loopK (α:=Nat) (I:=fun k=>k≤4) (σi:=fun k=>[(0,.func (.yield l) #[] #[]),(1,.pointer (some ⟨cb,0,none⟩)),(3,.int .i64 (3 - k))])
    (Li:=fun k=>(l,o)::(cb,.cells ⟨[.slice (some ⟨b10,4,none⟩) 4 4]⟩ 87 (0,0))::AnL b5 b10 room (F k)) (μ:=fun k=>4 - k) (i0:=0)
  · exact Nat.zero_le _
  · exact ⟨rfl,rfl,rfl,trivial⟩
  · (focus (repeat' first|exact Keep.nil _|exact Ext.one _ _|apply Keep.cons);done)
  · intro k hk
    rcases Nat.lt_or_ge k 4 with hlt|hge
    · obtain ⟨x,hx⟩:∃ x,(F k)[3 - k]? = some x:=⟨_,List.getElem?_eq_getElem (by rw [hF];omega)⟩
      have hlog:=dl_log (hF k) hx
      have hyy:=hY k x
      have h3:((3 - k:Nat):Int)=3 - (k:Int):=by omega
      simp only [AnL] at hyy ⊢
      generalize dlV (F k)=D at *
      repeat' (first|(apply RI.yield;(iterate 3 exact rfl);(focus (exact Ext.two _ (Ext.one _ _) (Ext.cons _ (Ext.all _))));intro w1 hw1;exact hyy w1 hlt hx;rintro v Lo ⟨rfl,L5,rfl,rfl⟩)|(apply R.is1;first|(apply R.isBin;(apply R.pure;exact rfl;first|(apply Ok1.sub64;exact rfl;exact rfl;omega;omega)|(apply Ok1.geq_t;exact rfl;exact rfl;omega)))|(apply R.pure;exact rfl;first|(apply Ok1.load;exact rfl;apply Ld.own1;exact rfl;exact rfl;(focus (repeat' first|exact At.head|apply At.tail);done);rw [show (3 - (k:Int)).toNat=3 - k by omega];exact hlog)|(apply Ok1.move;exact rfl)|(apply Ok1.load;exact rfl;(apply Ld.own1;exact rfl;exact rfl;(focus (repeat' first|exact At.head|apply At.tail);done);exact rfl))|(apply Ok1.assign;exact rfl)|(apply Ok1.indexAddr;(iterate 5 exact rfl);omega;omega)|(apply Ok1.not_t;exact rfl)))|apply R.nil|(apply T.is;first|apply T.regionIn (id:=3)|apply T.seq|apply T.region|apply T.block|apply T.skip|(apply T.cond_t;exact rfl)|(apply T.cond_f;exact rfl))|(apply RI.step;exact rfl)|apply RI.nil)
      have h4:(3:Int) - k - 1=3 - ((k+1:Nat):Int):=by omega
      exact ⟨k+1,by omega,by omega,⟨rfl,rfl,by rw [← h4];rfl,trivial⟩,by (focus (repeat' first|exact Keep.nil _|exact Ext.one _ _|apply Keep.cons|apply Ext.cons);done)⟩
    · have hk4:k=4:=by omega
      subst hk4
      repeat' (first|(apply R.is1;first|(apply R.isBin;(apply R.pure;exact rfl;(apply Ok1.geq_f;exact rfl;exact rfl;omega)))|(apply R.pure;exact rfl;(apply Ok1.move;exact rfl)))|apply R.nil|(apply T.is;first|apply T.seq|apply T.region|apply T.exit|(apply T.cond_f;exact rfl)))
      (apply RetOk.n)
      exact ⟨_,by (focus (repeat' first|exact Keep.nil _|exact Ext.one _ _|apply Keep.cons);done),rfl⟩
theorem pur_len9 {d:Dl} {e:List (Int × List Int)} (h:pur d=e):d.length=e.length:=by rw [← h,pur,List.length_map]
theorem cnt_le {d:Dl} (hd:d.length=4) (h:∀ x∈d,x.2.xs.length≤256):cntL (pur d)≤1024:=by
  match d,hd with
  | [(a0,x0),(a1,x1),(a2,x2),(a3,x3)],_ =>
    have h0:=h _ (.head _)
    have h1:=h _ (.tail _ (.head _))
    have h2:=h _ (.tail _ (.tail _ (.head _)))
    have h3:=h _ (.tail _ (.tail _ (.tail _ (.head _))))
    simp only at h0 h1 h2 h3
    simp only [cntL,pur,List.map_cons,List.map_nil,List.sum_cons,List.sum_nil]
    omega
theorem answer_bad (bs:Nat) (vs:List Int) (hv:vs.length=4) (room:Int) (h:¬ VR vs ∨ room < 16):CallP Tryz.prog 77 [.pointer (some ⟨bs,0,none⟩),.agg ⟨iis vs⟩,.int .i64 room] (.tuple #[.agg ⟨noD⟩,.int .i64 (if VR vs then 2 else 10)]):=by
  have hr:=vright_ok vs hv
  have hil:(iis vs).length=4:=by rw [iis_len,hv]
  refine enterP (tb:=tb) Tryz.func77 rfl Tryz.ntmps77 rfl fun w=>?_
  by_cases hV:VR vs
  · rw [if_pos hV]
    rw [decide_eq_true hV] at hr
    have hlt:room < 16:=h.resolve_left (fun h=>h hV)
    repeat' (first|(apply R.is1;first|(apply R.isBin;(apply R.pure;exact rfl;first|(apply Ok1.lss_t;exact rfl;exact rfl;omega)|(apply Ok1.eqlP;(iterate 5 exact rfl))))|(apply R.isCall;apply R.callP rfl rfl rfl hr)|(apply R.pure;exact rfl;first|(apply Ok1.load;exact rfl;(apply Ld.ownk;exact rfl;exact rfl;(focus (repeat' first|exact At.head|apply At.tail);done);exact subE_all hil))|(apply Ok1.move;exact rfl)|(apply Ok1.load;exact rfl;(apply Ld.own1;exact rfl;exact rfl;(focus (repeat' first|exact At.head|apply At.tail);done);exact rfl))|(apply Ok1.assign;exact rfl)|(apply Ok1.build;(iterate 5 exact rfl))|(apply Ok1.not_t;exact rfl))|(apply R.box;(iterate 3 exact rfl);intro)|(apply R.alloc;(iterate 3 exact rfl);intro))|(apply R.is0;(apply R.store;(iterate 6 exact rfl);exact Upd.head;exact rfl))|apply R.nil|(apply T.is;first|apply T.seq|apply T.region|apply T.block|apply T.ret|(apply T.cond_t;exact rfl)|(apply T.cond_f;exact rfl)))
    (apply RetOk.ct;exact rfl;((apply Ld.ownk;exact rfl;exact rfl;exact At.head;exact rfl));exact rfl)
    rfl
  · rw [if_neg hV]
    rw [decide_eq_false hV] at hr
    repeat' (first|(apply R.is1;first|(apply R.isBin;(apply R.pure;exact rfl;(apply Ok1.eqlP;(iterate 5 exact rfl))))|(apply R.isCall;apply R.callP rfl rfl rfl hr)|(apply R.pure;exact rfl;first|(apply Ok1.load;exact rfl;(apply Ld.ownk;exact rfl;exact rfl;(focus (repeat' first|exact At.head|apply At.tail);done);exact subE_all hil))|(apply Ok1.move;exact rfl)|(apply Ok1.assign;exact rfl)|(apply Ok1.build;(iterate 5 exact rfl))|(apply Ok1.not_f;exact rfl))|(apply R.box;(iterate 3 exact rfl);intro)|(apply R.alloc;(iterate 3 exact rfl);intro))|(apply R.is0;(apply R.store;(iterate 6 exact rfl);exact Upd.head;exact rfl))|apply R.nil|(apply T.is;first|apply T.seq|apply T.region|apply T.block|apply T.ret|(apply T.cond_t;exact rfl)|(apply T.cond_f;exact rfl)))
    (apply RetOk.ct;exact rfl;((apply Ld.ownk;exact rfl;exact rfl;exact At.head;exact rfl));exact rfl)
    rfl
theorem min4 (ls:List (List Int)) (v0 v1 v2 v3:Int) (l0 l1 l2 l3:List Int) (h:ls=[l0,l1,l2,l3]):minV ls [v0,v1,v2,v3]=[min v0 l0.length,min v1 l1.length,min v2 l2.length,min v3 l3.length]:=by rw [h];rfl
theorem minV_ok {ls:List (List Int)} {vs:List Int} (h:VR vs):VOk ls (minV ls vs):=by
  intro x hx
  obtain ⟨i,hi⟩:=List.getElem?_of_mem hx
  rw [List.getElem?_zip_eq_some] at hi
  obtain ⟨h1,h2⟩:=hi
  rw [minV,List.getElem?_map] at h2
  cases hz:(ls.zip vs)[i]? with
  | none=>rw [hz] at h2;cases h2
  | some z =>
    rw [hz] at h2
    rw [List.getElem?_zip_eq_some] at hz
    have e1:x.1=z.1:=Option.some.inj (h1.symm.trans hz.1)
    have h3:=h z.2 (List.mem_of_getElem? hz.2)
    have h4:=Option.some.inj h2
    rw [e1,← h4]
    simp only
    omega
theorem minV_len {ls:List (List Int)} {vs:List Int} (h1:ls.length=4) (h2:vs.length=4):(minV ls vs).length=4:=by simp [minV,h1,h2]
theorem answer_ok (bs:Nat) (gs:List Lg) (hg:GOk gs) (v0 v1 v2 v3:Int) (hV:VR [v0,v1,v2,v3]) (room:Int) (hr16:16≤room) (hr63:room≤9223372036854775807) (w:World) (hs:SetR w bs gs) :
    CallM Tryz.prog 77 [.pointer (some ⟨bs,0,none⟩),.agg ⟨iis [v0,v1,v2,v3]⟩,.int .i64 room] [] w fun v L=>∃ d,d.length=4∧v = .tuple #[.agg ⟨dlV d⟩,.int .i64 0]∧pur d=cutD ((room - 16) / 2).toNat (sinD (lgs gs) (minV (lgs gs) [v0,v1,v2,v3]))∧DlO d L:=by
  have hr:=vright_ok [v0,v1,v2,v3] rfl
  rw [decide_eq_true hV] at hr
  have hve:=fun w1 (hc:Chg [] w w1)=>versions_ok bs gs hg w1 (hs.chg hc)
  obtain ⟨g0,g1,g2,g3,rfl⟩:∃ g0 g1 g2 g3,gs=[g0,g1,g2,g3]:=by
    match gs,hg.len with
    | [a,b,c,d],_=>exact ⟨a,b,c,d,rfl⟩
  have hm4:=min4 (lgs [g0,g1,g2,g3]) v0 v1 v2 v3 g0.xs g1.xs g2.xs g3.xs rfl
  have hmo:=minV_ok (ls:=lgs [g0,g1,g2,g3]) hV
  have hml:=minV_len (ls:=lgs [g0,g1,g2,g3]) (vs:=[v0,v1,v2,v3]) rfl rfl
  have hsi:=fun w1 (hc:Chg [] w w1)=>since_ok bs _ hg _ hml w1 (hs.chg hc)
  simp only [if_pos hmo,hmo,not_true_eq_false,true_and,false_and,or_false] at hsi
  have hsl:∀ d:Dl,pur d=sinD (lgs [g0,g1,g2,g3]) (minV (lgs [g0,g1,g2,g3]) [v0,v1,v2,v3])→d.length=4∧∀ x∈d,x.2.xs.length≤256:=fun d h=>by
    refine ⟨by rw [pur_len9 h,sinD,List.length_map,List.length_zip,hml];rfl,fun x hx=>?_⟩
    have h9:(x.1,x.2.xs)∈pur d:=List.mem_map.2 ⟨x,hx,rfl⟩
    rw [h,sinD] at h9
    obtain ⟨z,hz,he⟩:=List.mem_map.1 h9
    have h8:=(List.of_mem_zip hz).1
    rw [lgs] at h8
    obtain ⟨g,hgm,hge⟩:=List.mem_map.1 h8
    have h7:=hg.le g hgm
    have h6:x.2.xs=z.1.drop z.2.toNat:=(congrArg Prod.snd he).symm
    rw [h6,List.length_drop,← hge]
    omega
  generalize hsd:sinD (lgs [g0,g1,g2,g3]) (minV (lgs [g0,g1,g2,g3]) [v0,v1,v2,v3])=SD at *
  rw [hm4] at hsi
  refine enterF (tb:=tb) Tryz.func77 rfl Tryz.ntmps77 rfl ?_
  have hbk:=fun p n c w1=>backward_ok p n c w1
  repeat' (first|(apply TF.range2 (gf:=204);exact rfl;exact rfl)|apply TF.seq|(apply R.is1;first|(apply R.isBin;(apply R.pure;exact rfl;first|(apply Ok1.add64;exact rfl;exact rfl;omega;omega)|(apply Ok1.lss_t;exact rfl;exact rfl;omega)|(apply Ok1.lss_f;exact rfl;exact rfl;omega)|(apply Ok1.neq_f;exact rfl;exact rfl;omega)|(apply Ok1.eqlP;(iterate 5 exact rfl))))|(apply R.isCall;first|apply R.callP rfl rfl rfl hr|(apply R.callV (vs:=[.pointer (some ⟨bs,0,none⟩)]);(iterate 3 exact rfl);intro w1 hw1;exact hve w1 hw1.chg)|(apply R.callE (vs:=[.pointer (some ⟨bs,0,none⟩),.agg ⟨[.int .i64 (min v0 g0.xs.length),.int .i64 (min v1 g1.xs.length),.int .i64 (min v2 g2.xs.length),.int .i64 (min v3 g3.xs.length)]⟩]);(iterate 3 exact rfl);exact Ext.none _;intro w1 hw1;exact hsi w1 hw1.chg;rintro v M ⟨d,rfl,hpd,hdo⟩;obtain ⟨hd4,hd256⟩:=hsl d hpd;have hd8:=dl_len8r hd4;have hd1:=dl_oner d)|(apply R.callE (vs:=[.slice (some ⟨_,4,none⟩) 4 4]);(iterate 3 exact rfl);exact Ext.none _;intro w1 hw1;exact hbk _ _ _ w1;rintro v Lo ⟨cb,rfl,rfl⟩)|(apply R.pure;exact rfl;(apply Ok1.min2;exact rfl;exact rfl)))|(apply R.pure;exact rfl;first|(apply Ok1.sliceArr;(iterate 4 exact rfl))|(apply Ok1.move;exact rfl)|(apply Ok1.fieldAddr;(iterate 5 exact rfl))|(apply Ok1.load;exact rfl;first|(apply Ld.own1;exact rfl;exact rfl;(focus (repeat' first|exact At.head|apply At.tail);done);exact rfl)|(apply Ld.ownk;exact rfl;exact rfl;(focus (repeat' first|exact At.head|apply At.tail);done);exact rfl))|(apply Ok1.assign;exact rfl)|(apply Ok1.indexAddrA;(iterate 5 exact rfl);omega;omega)|(apply Ok1.extract;exact rfl;exact rfl)|(apply Ok1.not_t;exact rfl)|(apply Ok1.index1;(iterate 6 exact rfl);omega;omega;exact rfl))|(apply R.box;(iterate 3 exact rfl);intro)|(apply R.alloc;(iterate 3 exact rfl);intro))|(apply R.is0;first|(apply R.store;(iterate 4 exact rfl);exact hd8;exact hd1;exact Upd.head;exact setE_all (by rw [hd8];rfl))|(apply R.store;(iterate 6 exact rfl);(focus (repeat' first|exact Upd.head|apply Upd.tail);done);exact rfl))|apply R.nil|(apply T.is;first|apply T.rounds 5|apply T.seq|apply T.region|apply T.block|apply T.skip|apply T.exit|(apply T.cond_t;exact rfl)|(apply T.cond_f;exact rfl)))
  rename_i b4 b5 b6 b10
  clear hbk hsi hve hr
  have hFl:∀ k,(cutF room d k).length=4:=fun k=>(cutF_len room d k).trans hd4
  have hFle:=cutF_le room d 256 hd256
  refine ⟨⟨[.pointer (some ⟨cb,0,none⟩)],(cb,.cells ⟨[.slice (some ⟨b10,4,none⟩) 4 4]⟩ 87 (0,0))::AnL b5 b10 room (cutF room d 0),(b6,.cells ⟨noD⟩ 76 (0,0))::M,fun Lb=>Lb=(cb,.cells ⟨[.slice (some ⟨b10,4,none⟩) 4 4]⟩ 87 (0,0))::AnL b5 b10 room (cutF room d 4),?_,rfl,?_,?_⟩⟩
  · simp only [AnL,cutF,noD]
    (focus (repeat' first|exact Ext.one _ _|exact Ext.here _ _|apply Keep.cons|apply Keep.last|apply Ext.cons|apply Ext.app);done)
  · intro l rec w1 hok _
    refine (backward1_ok b5 b10 room (cutF room d) hFl l _ cb ?_ w1).wk (fun v L h=>⟨_,rfl,h⟩)
    intro k x w2 hk hx
    apply YieldM.of2 (tb:=tb) hok.mod hok.params (blt_lt rfl) (blt_lt rfl) hok.state hok.pending
    rw [hok.assign,hok.body]
    repeat' (first|apply TI.seq|(apply TI.region;exact rfl)|(apply R.is1;(apply R.pure;exact rfl;(apply Ok1.assign;exact rfl)))|apply R.nil)
    refine ⟨AnL b5 b10 room (cutF room d k),by simp only [AnL];(focus (repeat' first|exact Keep.nil _|exact Ext.one _ _|apply Keep.cons);done),?_⟩
    have hsz:=dsize_ok (cutF room d k) (hFl k) (fun y hy=>by have:=hFle k y hy;omega)
    have hcn:=cutN_le room (cutF room d k) x.2
    have hx256:=hFle k x (List.mem_of_getElem? hx)
    have hcap:=(hdo.cutF room k).cap x (List.mem_of_getElem? hx)
    have hct:cntL (pur (cutF room d k))≤1024:=cnt_le (hFl k) (hFle k)
    have hnx:cutF room d (k+1)=(cutF room d k).set (3 - k) (x.1,cutP (cutN room (cutF room d k) x.2) x.2):=by rw [cutF,cutAt,hx]
    have hst:=dl_setlog (hFl k) hx (cutP (cutN room (cutF room d k) x.2) x.2)
    rw [← hnx] at hst
    have hov:(max (16+2 * (cntL (pur (cutF room d k)):Int) - room) 0+1) / 2=ovr room (cutF room d k):=rfl
    have hov0:0≤ovr room (cutF room d k)∧ovr room (cutF room d k)≤2000:=by rw [← hov];omega
    have hmx:max ((x.2.xs.length:Int) - ovr room (cutF room d k)) 0=(cutN room (cutF room d k) x.2:Int):=by unfold cutN;omega
    have hl8:=dl_len8r (hFl k)
    have hcl:(cutP (cutN room (cutF room d k) x.2) x.2).xs.length=cutN room (cutF room d k) x.2:=by simp only [cutP,List.length_take];omega
    rw [hcl] at hst
    simp only [cutP] at hst
    simp only [AnL]
    generalize dlV (cutF room d (k+1))=D2 at *
    generalize cutN room (cutF room d k) x.2=n at *
    generalize ovr room (cutF room d k)=ov at *
    generalize cntL (pur (cutF room d k))=c at *
    generalize dlV (cutF room d k)=D1 at *
    apply TI.block
    apply TI.seq
    apply TI.drawC (id:=18) [1,2] (by decide) rfl
    (apply A.tk 0;exact rfl;kernel_rfl;(apply Ok1.load;exact rfl;(apply Ld.ownk;exact rfl;exact rfl;exact At.head;exact subE_all hl8)))
      <;> (apply A.tk 2;exact rfl;kernel_rfl;(apply Ok1.load;exact rfl;(apply Ld.own1;exact rfl;exact rfl;(focus (repeat' first|exact At.head|apply At.tail);done);exact rfl)))
      <;> (apply A.one 1;kernel_rfl;exact rfl;((apply R.callP rfl rfl rfl hsz));apply R.nil;refine ⟨?_,?_⟩;(focus (repeat' first|exact trivial|exact At.head|apply At.tail|refine ⟨?_,?_⟩)))
      <;> (apply A.tk 3;exact rfl;kernel_rfl;(apply Ok1.sub64;exact rfl;exact rfl;omega;omega))
      <;> (apply A.tk 4;exact rfl;kernel_rfl;(apply Ok1.max2;exact rfl;exact rfl))
      <;> (apply A.tk 5;exact rfl;kernel_rfl;(apply Ok1.add64;exact rfl;exact rfl;omega;omega))
      <;> (apply A.tk 6;exact rfl;kernel_rfl;(apply Ok1.quo64;exact rfl;exact rfl;omega;omega;omega))
      <;> (apply A.tk 7;exact rfl;kernel_rfl;(apply Ok1.assign;exact rfl))
      <;> (apply A.done;kernel_rfl)
    simp only [noQ]
    rw [hov]
    repeat' (first|apply TI.seq|(apply TI.region;exact rfl)|(apply R.is1;first|(apply R.isBin;(apply R.pure;exact rfl;(apply Ok1.sub64;exact rfl;exact rfl;omega;omega)))|(apply R.isCall;first|(apply R.pure;exact rfl;apply Ok1.max2E;exact rfl;exact rfl;exact hmx)|(apply R.pure;exact rfl;(apply Ok1.lenS;(iterate 3 exact rfl))))|(apply R.pure;exact rfl;first|(apply Ok1.pre3 (j:=n);(iterate 6 exact rfl);omega)|(apply Ok1.move;exact rfl)|(apply Ok1.fieldAddr;(iterate 5 exact rfl))|(apply Ok1.assign;exact rfl)|(apply Ok1.indexAddrA;(iterate 5 exact rfl);omega;omega)))|(apply R.is0;(apply R.store;(iterate 6 exact rfl);(focus (repeat' first|exact Upd.head|apply Upd.tail);done);rw [show (3 - (k:Int)).toNat=3 - k by omega];exact hst))|apply R.nil)
    exact ⟨_,by (focus (repeat' first|exact Keep.nil _|exact Ext.one _ _|apply Keep.cons);done),rfl⟩
  · rintro D Lb rfl
    have hl8:=dl_len8r (hFl 4)
    have h1c:=dl_oner (cutF room d 4)
    simp only [AnL]
    repeat' (first|apply TD.seq|apply TD.region|apply TD.ret|(apply R.is1;(apply R.pure;exact rfl;first|(apply Ok1.load;exact rfl;(apply Ld.ownk;exact rfl;exact rfl;(focus (repeat' first|exact At.head|apply At.tail);done);exact subE_all hl8))|(apply Ok1.assign;exact rfl)))|(apply R.is0;(apply R.store;(iterate 4 exact rfl);exact hl8;exact h1c;(focus (repeat' first|exact Upd.head|apply Upd.tail);done);exact setE_all (by rw [hl8];rfl)))|apply R.nil)
    refine ⟨rfl,(b6,.cells ⟨dlV (cutF room d 4)⟩ 76 (0,0))::M,by (focus (repeat' first|exact Ext.one _ _|exact Ext.all _|apply Keep.cons|apply Keep.last|apply Ext.cons);done),?_⟩
    (apply RetOk.ct;exact rfl;(apply Ld.ownk;exact rfl;exact rfl;(focus (repeat' first|exact At.head|apply At.tail);done);exact subE_all hl8);exact rfl)
    refine ⟨cutF room d 4,hFl 4,rfl,?_,(hdo.cutF room 4).mono fun z hz=>List.mem_cons_of_mem _ hz⟩
    rw [cutF_all room hr16 d hd4,hpd]
def Pi.w (z:Pi):Value:=.slice z.p z.xs.length z.cap
theorem ovoff {ov:Ov} {xs:List Value} {e:Nat} {w0 w:World} {S:List Nat} {L Li Lr:Lst} (hw:Hp w0 S L w) (he:Ext L Li Lr) (hin:∀ z∈blkL e ov xs,z∈Lr):Off (ovp ov) (blks Li):=by
  intro a ha
  cases ov with
  | none=>cases ha
  | some q =>
    obtain ⟨b,j,junk⟩:=q
    cases ha
    exact RdSl.off hw he (hin _ List.mem_cons_self)
theorem DlO.off {d:Dl} {M:Lst} (h:DlO d M) {w0 w:World} {S:List Nat} {L Li Lr:Lst} (hw:Hp w0 S L w) (he:Ext L Li Lr) (hin:∀ z∈M,z∈Lr):∀ x∈d,x.2.xs≠[]→Off x.2.p (blks Li):=by
  intro x hx hne a ha
  obtain ⟨b,o,hp,hb⟩:=h.adr x hx hne
  rw [hp] at ha
  cases ha
  obtain ⟨z,hz,hze⟩:=List.mem_map.1 hb
  obtain ⟨zb,zo⟩:=z
  simp only at hze
  subst hze
  exact RdSl.off hw he (hin _ hz)
/-- The room that is left behind so many logs. -/
def lft:Nat→List (Int × List Int)→Nat→Nat
  | n,_,0=>n
  | n,[],_+1=>n
  | n,x::r,k+1=>lft (n - x.2.length) r k
theorem cutD_get:∀ (dd:List (Int × List Int)) (n i:Nat) (x:Int × List Int),dd[i]? = some x→(cutD n dd)[i]? = some (x.1,x.2.take (lft n dd i))∧lft n dd (i+1)=lft n dd i - x.2.length
  | [],_,_,_,h=>by cases h
  | y::r,n,0,x,h=>by
    cases h
    exact ⟨rfl,by cases r<;>rfl⟩
  | y::r,n,i+1,x,h=>cutD_get r (n - y.2.length) i x h
theorem lft_le:∀ (n:Nat) (dd:List (Int × List Int)) (k:Nat),lft n dd k≤n
  | n,_,0=>by unfold lft;exact Nat.le_refl _
  | n,[],_+1=>Nat.le_refl _
  | n,x::r,k+1=>Nat.le_trans (lft_le (n - x.2.length) r k) (Nat.sub_le _ _)
theorem cutD_len:∀ (dd:List (Int × List Int)) (n:Nat),(cutD n dd).length=dd.length
  | [],_=>rfl
  | y::r,n=>by rw [cutD,List.length_cons,List.length_cons,cutD_len r]
theorem pad_fr {d:Dl} {i:Nat} (hd:d.length=i) (hi:i < 4) (f:Int) (y:Pi):(padV (d++[(f,y)]))[0+i * 1]? = some (.int .i64 f):=by
  have hl:(iis (d.map (·.1))).length=0+i * 1:=by rw [iis_len,List.length_map,hd];omega
  have e:padV (d++[(f,y)])=iis (d.map (·.1))++(.int .i64 f::(iis (List.replicate (4 - (d++[(f,y)]).length) 0)++(fl Pi.v ((d++[(f,y)]).map (·.2))++List.replicate (4 - (d++[(f,y)]).length) (.slice none 0 0)))):=by
    rw [padV,List.map_append,iis_app,iis_app]
    simp [iis]
  rw [e,← hl,List.getElem?_append_right (Nat.le_refl _),Nat.sub_self]
  rfl
theorem setV_at {gs:List Lg} (hg:GOk gs) {i:Nat} {g:Lg} (h:gs[i]? = some g):(setV gs)[0+i * 1]? = some (.slice (ovp g.ov) g.xs.length (ovc g.ov g.xs.length)):=setV_get h (hg.ok g (List.mem_of_getElem? h))
theorem ranswer_ok (bm:Nat) (gs:List Lg) (hg:GOk gs) (vs:List Int) (hvl:vs.length=4) (hV:VR vs) (room:Int) (hr16:16≤room) (hr63:room≤9223372036854775807) (w:World) (hs:DSR w bm gs) :
    CallM Tryz.prog 92 [.pointer (some ⟨bm,0,none⟩),.agg ⟨iis vs⟩,.int .i64 room] [] w fun v L=>∃ d,d.length=4∧v = .agg ⟨dlV d⟩∧pur d=cutD ((room - 16) / 2).toNat (sinD (lgs gs) (minV (lgs gs) vs))∧DlO d L:=by
  have hil:(iis vs).length=4:=by rw [iis_len,hvl]
  obtain ⟨m,hm⟩:∃ m:Nat,(room - 16) / 2=m:=⟨((room - 16) / 2).toNat,by omega⟩
  have hm63:m≤4611686018427387904:=by omega
  have hb:=hs.b
  refine enterK (tb:=tb) Tryz.func92 rfl Tryz.ntmps92 rfl ?_
  repeat' (first|(apply R.is1;first|(apply R.isBin;(apply R.pure;exact rfl;first|(apply Ok1.sub64;exact rfl;exact rfl;omega;omega)|(apply Ok1.quo64;exact rfl;exact rfl;omega;omega;omega)))|(apply R.pure;exact rfl;first|(apply Ok1.move;exact rfl)|(apply Ok1.assign;exact rfl)|(apply Ok1.build;(iterate 5 exact rfl)))|(apply R.box;(iterate 3 exact rfl);intro)|(apply R.alloc;(iterate 3 exact rfl);intro))|(apply R.is0;(apply R.store;(iterate 6 exact rfl);exact Upd.head;exact rfl))|apply R.nil|(apply T.is;first|apply T.seq|apply T.region|apply T.block))
  rename_i b4 b6 b7
  rw [hm,Int.toNat_natCast]
  generalize hSD:sinD (lgs gs) (minV (lgs gs) vs)=SD at *
  apply T.loopK (α:=Nat × Dl × Lst) (I:=fun y=>y.1≤4∧y.2.1.length=y.1∧DlO y.2.1 y.2.2∧pur y.2.1=(cutD m SD).take y.1) (σi:=fun y=>[(0,.pointer (some ⟨bm,0,none⟩)),(4,.pointer (some ⟨b4,0,none⟩)),(6,.pointer (some ⟨b6,0,none⟩)),(7,.pointer (some ⟨b7,0,none⟩)),(8,.int .i64 (lft m SD y.1)),(9,.int .i64 y.1)])
    (Li:=fun y=>(b4,.cells ⟨iis vs⟩ 67 (0,0))::(b6,.cells ⟨noD⟩ 82 (0,0))::(b7,.cells ⟨padV y.2.1⟩ 82 (0,0))::y.2.2) (μ:=fun y=>4 - y.1) (i0:=(0,[],[]))
  · exact ⟨Nat.zero_le _,rfl,DlO.nil _,rfl⟩
  · refine ⟨rfl,rfl,rfl,rfl,?_,rfl,trivial⟩
    simp only [lft]
    rw [← hm];rfl
  · simp only [pad0,noD]
    (focus (repeat' first|exact Keep.nil _|exact Ext.one _ _|apply Keep.cons|apply Ext.cons);done)
  · rintro ⟨i,dd,D⟩ ⟨hi,hdl,hdo,hpur⟩
    simp only at hi hdl hdo hpur ⊢
    rcases Nat.lt_or_ge i 4 with hlt|hge
    · obtain ⟨g,hgi⟩:∃ g,gs[i]? = some g:=⟨_,List.getElem?_eq_getElem (by rw [hg.len];omega)⟩
      obtain ⟨v,hvi⟩:∃ v,vs[i]? = some v:=⟨_,List.getElem?_eq_getElem (by omega)⟩
      have hgm:=List.mem_of_getElem? hgi
      have hcell:=setV_at hg hgi
      have hrd:=hs.rd g hgm
      have hg256:=hg.le g hgm
      have hv:=hV v (List.mem_of_getElem? hvi)
      have hvc:(iis vs)[0+i * 1]? = some (.int .i64 v):=by rw [Nat.zero_add];exact i_at hvi
      obtain ⟨f,hf⟩:∃ f:Nat,min v (g.xs.length:Int)=f:=⟨(min v (g.xs.length:Int)).toNat,by omega⟩
      have hfl:f≤g.xs.length:=by omega
      have hsi:SD[i]? = some ((f:Int),g.xs.drop f):=by
        have h1:(lgs gs)[i]? = some g.xs:=by rw [lgs,List.getElem?_map,hgi];rfl
        have h2:(minV (lgs gs) vs)[i]? = some (f:Int):=by
          have h3:((lgs gs).zip vs)[i]? = some (g.xs,v):=by rw [List.getElem?_zip_eq_some];exact ⟨h1,hvi⟩
          rw [minV,List.getElem?_map,h3,← hf];rfl
        rw [← hSD]
        have:=sin_get h1 h2
        rwa [Int.toNat_natCast] at this
      obtain ⟨hcd,hlf⟩:=cutD_get SD m i _ hsi
      simp only at hcd hlf
      have hfrom:=pad_from hdl hlt (f:Int)
      have hfat:=fun y=>pad_fr hdl hlt (f:Int) y
      generalize hq:lft m SD i=q at *
      have hq63:q≤4611686018427387904:=by rw [← hq];exact Nat.le_trans (lft_le m SD i) hm63
      repeat' (first|(apply R.is1;first|(apply R.isBin;(apply R.pure;exact rfl;(apply Ok1.lss_t;exact rfl;exact rfl;omega)))|(apply R.pure;exact rfl;first|(apply Ok1.load;exact rfl;(apply Ld.own1;exact rfl;exact rfl;(focus (repeat' first|exact At.head|apply At.tail);done);exact hfat _))|(apply Ok1.move;exact rfl)|(apply Ok1.fieldAddr;(iterate 5 exact rfl))|(apply Ok1.assign;exact rfl)|(apply Ok1.indexAddrA;(iterate 5 exact rfl);omega;omega)))|apply R.nil|(apply T.is;first|(apply T.drawC (id:=6) [0] (by decide);((apply A.tk 0;exact rfl;kernel_rfl;(apply Ok1.move;exact rfl))<;>(apply A.tk 1;exact rfl;kernel_rfl;(apply Ok1.move;exact rfl))<;>(apply A.tk 2;exact rfl;kernel_rfl;(apply Ok1.indexAddrA;(iterate 5 exact rfl);omega;omega))<;>(apply A.tk 3;exact rfl;kernel_rfl;(apply Ok1.load;exact rfl;(apply Ld.own1;exact rfl;exact rfl;exact At.head;exact hvc)))<;>(apply A.tk 4;exact rfl;kernel_rfl;(apply Ok1.move;exact rfl))<;>(apply A.tk 5;exact rfl;kernel_rfl;(apply Ok1.move;exact rfl))<;>(apply A.tk 6;exact rfl;kernel_rfl;(apply Ok1.nilCheck;exact rfl))<;>(apply A.tk 7;exact rfl;kernel_rfl;(apply Ok1.fieldAddr;(iterate 5 exact rfl)))<;>(apply A.tk 8;exact rfl;kernel_rfl;(apply Ok1.indexAddrA;(iterate 5 exact rfl);omega;omega))<;>(apply A.tk 9;exact rfl;kernel_rfl;(apply Ok1.load;exact rfl;(apply Ld.blk1;exact rfl;exact rfl;exact hb;exact List.not_mem_nil;exact hcell)))<;>(apply A.tk 10;exact rfl;kernel_rfl;(apply Ok1.lenS;(iterate 3 exact rfl)))<;>(apply A.tk 11;exact rfl;kernel_rfl;(apply Ok1.min2E;exact rfl;exact rfl;exact hf))<;>(apply A.tk 12;exact rfl;kernel_rfl;(apply Ok1.fieldAddr;(iterate 5 exact rfl)))<;>(apply A.tk 13;exact rfl;kernel_rfl;(apply Ok1.indexAddrA;(iterate 5 exact rfl);omega;omega))<;>(apply A.one 14;kernel_rfl;exact rfl;(((apply R.store;(iterate 6 exact rfl);(focus (repeat' first|exact Upd.head|apply Upd.tail);done);exact hfrom)));apply R.nil;refine ⟨?_,?_⟩;(focus ((repeat' (first|exact trivial|(refine ⟨?_,?_⟩;exact At.head))))))<;>(apply A.done;kernel_rfl)))|apply T.seq|apply T.region|apply T.block|apply T.skip|(apply T.cond_t;exact rfl)))
      have hpl:(g.xs.drop f).length=g.xs.length - f:=List.length_drop
      generalize hP:g.xs.drop f=ps at *
      have hpg:∀ j y,ps[j]? = some y→g.xs[f+j]? = some y:=fun j y h=>by rw [← hP,List.getElem?_drop] at h;exact h
      apply T.loopK (α:=Nat × Ov) (I:=fun y=>y.1≤ps.length∧y.1≤q∧OvOk 1 y.2 (ps.take y.1).length (iis (ps.take y.1))) (σi:=fun y=>[(0,.pointer (some ⟨bm,0,none⟩)),(4,.pointer (some ⟨b4,0,none⟩)),(6,.pointer (some ⟨b6,0,none⟩)),(7,.pointer (some ⟨b7,0,none⟩)),(8,.int .i64 ((q:Int) - y.1)),(9,.int .i64 i),(10,.int .i64 ((f:Int)+y.1))])
        (Li:=fun y=>(b4,.cells ⟨iis vs⟩ 67 (0,0))::(b6,.cells ⟨noD⟩ 82 (0,0))::(b7,.cells ⟨padV (dd++[((f:Int),⟨ovp y.2,ovc y.2 (ps.take y.1).length,ps.take y.1⟩)])⟩ 82 (0,0))::(blkL 3 y.2 (iis (ps.take y.1))++D)) (μ:=fun y=>q - y.1) (i0:=(0,none))
      · exact ⟨Nat.zero_le _,Nat.zero_le _,OvOk.start 1⟩
      · refine ⟨rfl,rfl,rfl,rfl,?_,rfl,?_,trivial⟩
        · show _=some (Value.int .i64 ((q:Int) - 0));rw [Int.sub_zero];rfl
        · show _=some (Value.int .i64 ((f:Int)+0));rw [Int.add_zero];rfl
      · simp only [blkL,List.nil_append,ovp,ovc,List.take_zero,List.length_nil]
        (focus (repeat' first|exact Ext.one _ _|exact Ext.all _|apply Keep.cons|apply Keep.last);done)
      · rintro ⟨j,ov⟩ ⟨hj,hjq,hov⟩
        simp only at hj hjq hov ⊢
        have htl:(ps.take j).length=j:=by rw [List.length_take];omega
        by_cases hgo:j < ps.length∧j < q
        · obtain ⟨hjl,hjq2⟩:=hgo
          obtain ⟨y,hy⟩:∃ y,ps[j]? = some y:=⟨_,List.getElem?_eq_getElem (by omega)⟩
          obtain ⟨b,o,hpe,H⟩:=hrd.at (hpg j y hy)
          replace H:=H 1 iV_len
          have hts:ps.take (j+1)=ps.take j++[y]:=by rw [List.take_add_one,hy];rfl
          have hat:=pad_at hdl hlt (f:Int) ⟨ovp ov,ovc ov (ps.take j).length,ps.take j⟩
          simp only [← slV_eq hov] at hat
          have hsto:=fun b j2 J=>pad_log hdl hlt (f:Int) ⟨ovp ov,ovc ov (ps.take j).length,ps.take j⟩ ⟨ovp (some (b,j2,J)),ovc (some (b,j2,J)) ((ps.take j).length+1),ps.take j++[y]⟩
          simp only [List.length_append,List.length_singleton,ovp,ovc] at hsto
          have hdx:((f:Int)+j).toNat=f+j:=by omega
          generalize hT:ps.take j=ts at *
          repeat' (first|(apply R.is1;first|(apply R.isBin;(apply R.pure;exact rfl;first|(apply Ok1.add64;exact rfl;exact rfl;omega;omega)|(apply Ok1.sub64;exact rfl;exact rfl;omega;omega)|(apply Ok1.lss_t;exact rfl;exact rfl;omega)|(apply Ok1.gtr_t;exact rfl;exact rfl;omega)))|(apply R.isCall;(apply R.pure;exact rfl;(apply Ok1.lenS;(iterate 3 exact rfl))))|(apply R.pure;exact rfl;first|(apply Ok1.load;exact rfl;(apply Ld.blk1;exact rfl;exact rfl;exact hb;exact List.not_mem_nil;exact hcell))|(apply Ok1.move;exact rfl)|(apply Ok1.fieldAddr;(iterate 5 exact rfl))|(apply Ok1.assign;exact rfl)|(apply Ok1.indexAddrA;(iterate 5 exact rfl);omega;omega)|(apply Ok1.pick_t;exact rfl;exact rfl)|(apply Ok1.nilCheck;exact rfl)))|(apply R.isG;(apply R.guard_run;exact rfl;exact rfl))|apply R.nil|(apply T.is;first|(apply T.drawC (id:=10) [] (by decide);((apply A.tk 0;exact rfl;kernel_rfl;(apply Ok1.move;exact rfl))<;>(apply A.tk 1;exact rfl;kernel_rfl;(apply Ok1.move;exact rfl))<;>(apply A.tk 2;exact rfl;kernel_rfl;(apply Ok1.fieldAddr;(iterate 5 exact rfl)))<;>(apply A.tk 3;exact rfl;kernel_rfl;(apply Ok1.indexAddrA;(iterate 5 exact rfl);omega;omega))<;>(apply A.tk 5;exact rfl;kernel_rfl;(apply Ok1.move;exact rfl))<;>(apply A.tk 6;exact rfl;kernel_rfl;(apply Ok1.move;exact rfl))<;>(apply A.tk 7;exact rfl;kernel_rfl;(apply Ok1.nilCheck;exact rfl))<;>(apply A.tk 8;exact rfl;kernel_rfl;(apply Ok1.fieldAddr;(iterate 5 exact rfl)))<;>(apply A.tk 9;exact rfl;kernel_rfl;(apply Ok1.indexAddrA;(iterate 5 exact rfl);omega;omega))<;>(apply A.tk 10;exact rfl;kernel_rfl;(apply Ok1.load;exact rfl;(apply Ld.blk1;exact rfl;exact rfl;exact hb;exact List.not_mem_nil;exact hcell)))<;>(apply A.tk 11;exact rfl;kernel_rfl;(apply Ok1.move;exact rfl))<;>(apply A.tk 12;exact rfl;kernel_rfl;(apply Ok1.indexAddrP;(iterate 4 exact rfl);exact hpe;exact rfl;omega;omega))<;>(apply A.tk 13;exact rfl;kernel_rfl;(apply Ok1.load;exact rfl;(apply Ld.row1 (f:=0) H;exact rfl;exact List.not_mem_nil;(iterate 3 exact rfl))))<;>(apply A.tk 16;exact rfl;kernel_rfl;(apply Ok1.fieldAddr;(iterate 5 exact rfl)))<;>(apply A.two 4 14;kernel_rfl;exact rfl;exact rfl;rotate_left 1;(focus (((((apply R.buildSlice;(iterate 12 exact rfl);intro)));apply R.nil;refine ⟨?_,?_⟩;(focus ((repeat' (exact trivial)))))<;>(apply A.one 4;kernel_rfl;exact rfl;(((apply R.pure;exact rfl;(apply Ok1.load;exact rfl;(apply Ld.own1;exact rfl;exact rfl;(focus (repeat' first|exact At.head|apply At.tail);done);exact hat)))));apply R.nil;refine ⟨?_,?_⟩;(focus ((repeat' (exact trivial)))))<;>(apply A.one 15;kernel_rfl;exact rfl;(((apply R.append1;(iterate 12 exact rfl);(focus (repeat' first|exact OwnAt.mid hov|apply OwnAt.tail);done);exact At.head;exact rfl;exact rfl;omega;omega;intro b2 j2 k2 hj2)));apply R.nil;refine ⟨?_,?_⟩;(focus ((repeat' (exact trivial)))))<;>(apply A.tk 17;exact rfl;kernel_rfl;(apply Ok1.indexAddrA;(iterate 5 exact rfl);omega;omega))<;>(apply A.one 18;kernel_rfl;exact rfl;(((apply R.store;(iterate 6 exact rfl);(focus (repeat' first|exact Upd.head|apply Upd.tail);done);exact hsto _ _ [])));apply R.nil;refine ⟨?_,?_⟩;(focus ((repeat' (exact trivial)))))<;>(apply A.done;kernel_rfl)));rotate_right 1;(focus (((((apply R.pure;exact rfl;(apply Ok1.load;exact rfl;(apply Ld.own1;exact rfl;exact rfl;(focus (repeat' first|exact At.head|apply At.tail);done);exact hat)))));apply R.nil;refine ⟨?_,?_⟩;(focus ((repeat' (exact trivial)))))<;>(apply A.one 14;kernel_rfl;exact rfl;(((apply R.buildSlice;(iterate 12 exact rfl);intro)));apply R.nil;refine ⟨?_,?_⟩;(focus ((repeat' (exact trivial)))))<;>(apply A.one 15;kernel_rfl;exact rfl;(((apply R.append1;(iterate 12 exact rfl);(focus (repeat' first|exact OwnAt.mid hov|apply OwnAt.tail);done);exact At.head;exact rfl;exact rfl;omega;omega;intro b2 j2 k2 hj2)));apply R.nil;refine ⟨?_,?_⟩;(focus ((repeat' (exact trivial)))))<;>(apply A.tk 17;exact rfl;kernel_rfl;(apply Ok1.indexAddrA;(iterate 5 exact rfl);omega;omega))<;>(apply A.one 18;kernel_rfl;exact rfl;(((apply R.store;(iterate 6 exact rfl);(focus (repeat' first|exact Upd.head|apply Upd.tail);done);exact hsto _ _ [])));apply R.nil;refine ⟨?_,?_⟩;(focus ((repeat' (exact trivial)))))<;>(apply A.done;kernel_rfl))))))|apply T.seq|apply T.region|apply T.block|apply T.skip|(apply T.cond_t;exact rfl)))
          all_goals
            refine ⟨(j+1,some (b2,j2,k2)),?_⟩
            simp only [hts]
            have hov2:OvOk 1 (some (b2,j2,k2)) (ts++[y]).length (iis (ts++[y])):=by
              rw [iis_app,List.length_append]
              exact OvOk.some hov rfl hj2
            have e1:(q:Int) - j - 1=q - ((j+1:Nat):Int):=by omega
            have e2:(f:Int)+j+1=f+((j+1:Nat):Int):=by omega
            refine ⟨⟨by omega,by omega,hov2⟩,by omega,⟨rfl,rfl,rfl,rfl,by rw [← e1];rfl,rfl,by rw [← e2];rfl,trivial⟩,?_⟩
            simp only [blkL,iis_app,List.length_append,List.length_singleton,ovp,ovc,List.cons_append,List.nil_append]
            (focus (repeat' first|exact Ext.one _ _|exact Ext.all _|apply Keep.cons|apply Keep.last|apply Ext.cons);done)
        · have hend:ps.take j=ps.take q:=by
            apply take_eq
            omega
          have hq1:(q:Int) - j=lft m SD (i+1):=by rw [hlf];omega
          have hdo2:=hdo.own hov (f:Int)
          generalize hT:ps.take j=ts at *
          by_cases hjl:j < ps.length
          · repeat' (first|(apply R.is1;first|(apply R.isBin;(apply R.pure;exact rfl;first|(apply Ok1.add64;exact rfl;exact rfl;omega;omega)|(apply Ok1.lss_t;exact rfl;exact rfl;omega)|(apply Ok1.gtr_f;exact rfl;exact rfl;omega)))|(apply R.isCall;(apply R.pure;exact rfl;(apply Ok1.lenS;(iterate 3 exact rfl))))|(apply R.pure;exact rfl;first|(apply Ok1.load;exact rfl;(apply Ld.blk1;exact rfl;exact rfl;exact hb;exact List.not_mem_nil;exact hcell))|(apply Ok1.move;exact rfl)|(apply Ok1.fieldAddr;(iterate 5 exact rfl))|(apply Ok1.assign;exact rfl)|(apply Ok1.indexAddrA;(iterate 5 exact rfl);omega;omega)|(apply Ok1.pick_t;exact rfl;exact rfl)|(apply Ok1.nilCheck;exact rfl)))|(apply R.isG;(apply R.guard_run;exact rfl;exact rfl))|apply R.nil|(apply T.is;first|apply T.seq|apply T.region|apply T.exit|(apply T.cond_f;exact rfl)))
            refine ⟨(i+1,dd++[((f:Int),⟨ovp ov,ovc ov ts.length,ts⟩)],blkL 3 ov (iis ts)++D),⟨by omega,by rw [List.length_append,hdl];rfl,hdo2,?_⟩,by simp only;omega,⟨rfl,rfl,rfl,rfl,by rw [← hq1];rfl,rfl,trivial⟩,by simp only;(focus (repeat' first|exact Ext.one _ _|exact Ext.here _ _|exact Ext.all _|apply Keep.cons|apply Keep.app|apply Keep.last);done)⟩
            rw [pur,List.map_append,← pur,hpur,List.take_add_one,hcd,hend]
            rfl
          · repeat' (first|(apply R.is1;first|(apply R.isBin;(apply R.pure;exact rfl;first|(apply Ok1.add64;exact rfl;exact rfl;omega;omega)|(apply Ok1.lss_f;exact rfl;exact rfl;omega)))|(apply R.isCall;(apply R.pure;exact rfl;(apply Ok1.lenS;(iterate 3 exact rfl))))|(apply R.pure;exact rfl;first|(apply Ok1.load;exact rfl;(apply Ld.blk1;exact rfl;exact rfl;exact hb;exact List.not_mem_nil;exact hcell))|(apply Ok1.move;exact rfl)|(apply Ok1.fieldAddr;(iterate 5 exact rfl))|(apply Ok1.assign;exact rfl)|(apply Ok1.indexAddrA;(iterate 5 exact rfl);omega;omega)|(apply Ok1.pick_f;exact rfl;exact rfl)|(apply Ok1.nilCheck;exact rfl)))|(apply R.isG;(apply R.guard_not;(iterate 3 exact rfl)))|apply R.nil|(apply T.is;first|apply T.seq|apply T.region|apply T.exit|(apply T.cond_f;exact rfl)))
            refine ⟨(i+1,dd++[((f:Int),⟨ovp ov,ovc ov ts.length,ts⟩)],blkL 3 ov (iis ts)++D),⟨by omega,by rw [List.length_append,hdl];rfl,hdo2,?_⟩,by simp only;omega,⟨rfl,rfl,rfl,rfl,by rw [← hq1];rfl,rfl,trivial⟩,by simp only;(focus (repeat' first|exact Ext.one _ _|exact Ext.here _ _|exact Ext.all _|apply Keep.cons|apply Keep.app|apply Keep.last);done)⟩
            rw [pur,List.map_append,← pur,hpur,List.take_add_one,hcd,hend]
            rfl
    · have hi4:i=4:=by omega
      subst hi4
      have hpv:=pad_all hdl
      have hl8:=dl_len8r hdl
      have h1c:=dl_oner dd
      have hsl:(cutD m SD).length=4:=by rw [cutD_len,← hSD,sinD,List.length_map,List.length_zip,minV_len (by rw [lgs,List.length_map,hg.len]) hvl,lgs,List.length_map,hg.len];rfl
      rw [hpv]
      rw [List.take_of_length_le (by omega)] at hpur
      repeat' (first|(apply R.is1;first|(apply R.isBin;(apply R.pure;exact rfl;(apply Ok1.lss_f;exact rfl;exact rfl;omega)))|(apply R.pure;exact rfl;first|(apply Ok1.load;exact rfl;(apply Ld.ownk;exact rfl;exact rfl;(focus (repeat' first|exact At.head|apply At.tail);done);exact subE_all hl8))|(apply Ok1.move;exact rfl)))|(apply R.is0;(apply R.store;(iterate 4 exact rfl);exact hl8;exact h1c;(focus (repeat' first|exact Upd.head|apply Upd.tail);done);exact setE_all (by rw [hl8];rfl)))|apply R.nil|(apply T.is;first|apply T.seq|apply T.region|apply T.exit|apply T.ret|(apply T.cond_f;exact rfl)))
      (apply RetOk.c;exact rfl;(apply Ld.ownk;exact rfl;exact rfl;(focus (repeat' first|exact At.head|apply At.tail);done);exact subE_all hl8))
      exact ⟨D,by (focus (repeat' first|exact Ext.all _|apply Keep.last|apply Ext.cons);done),dd,hdl,rfl,hpur,hdo⟩
theorem revL_at {ls:List (List Int)} {i:Nat} {xs:List Int} {dn:List (List Int)} (hd:dn.length=i) (hi:i < 4) (h40:∀ y∈dn,y.length≤40) (he:ls=dn++List.replicate (4 - i) []) (hx:xs.length≤40) :
    ∃ dn',dn'.length=i+1∧(∀ y∈dn',y.length≤40)∧revL ls i xs=dn'++List.replicate (4 - (i+1)) []:=by
  have hr:List.replicate (4 - i) ([]:List Int)=[]::List.replicate (4 - (i+1)) []:=by rw [show 4 - i=(4 - (i+1))+1 by omega,List.replicate_succ]
  unfold revL
  split
  · refine ⟨dn++[xs],by rw [List.length_append,hd];rfl,fun y hy=>?_,?_⟩
    · rcases List.mem_append.1 hy with h|h
      · exact h40 y h
      · rw [List.mem_singleton.1 h];exact hx
    · have hg:ls.getD (i:Int).toNat []=[]:=by
        rw [Int.toNat_natCast,he,hr,List.getD_eq_getElem?_getD,List.getElem?_append_right (by omega),hd,Nat.sub_self]
        rfl
      rw [hg,List.nil_append,Int.toNat_natCast,he,hr,← hd,List.set_append_right _ _ (Nat.le_refl _),Nat.sub_self]
      simp
  · refine ⟨dn++[[]],by rw [List.length_append,hd];rfl,fun y hy=>?_,?_⟩
    · rcases List.mem_append.1 hy with h|h
      · exact h40 y h
      · rw [List.mem_singleton.1 h];exact Nat.zero_le _
    · rw [he,hr];simp
theorem make9_ok (zs:List Pi) (hz:zs.length=4) (w:World) (hr:∀ z∈zs,RdSl w z.p iV z.xs∧z.xs.length≤z.cap) :
    CallM Tryz.prog 16 [.agg ⟨fl Pi.v zs⟩] [] w fun v L=>∃ bs gs bm ms,v = .tuple #[.pointer (some ⟨bs,0,none⟩),.pointer (some ⟨bm,0,none⟩)]∧GOk gs∧GOk ms∧lgs ms=lgs gs∧LOk (lgs gs)∧(∀ y∈lgs gs,y.length≤40)∧L=SetL bs gs++DSL bm ms:=by
  have hfp:(fl Pi.v zs).length=4:=by rw [fl_pi,List.length_map,hz]
  have hone:(fl Pi.v zs).all Value.oneCell'=true:=by rw [fl_pi];simp [List.all_map,Function.comp_def,Value.oneCell']
  refine enterK (tb:=tb) Tryz.func16 rfl Tryz.ntmps16 rfl ?_
  repeat' (first|(apply R.is1;first|(apply R.isCall;(apply R.callE (vs:=[]);(iterate 3 exact rfl);exact Ext.none _;intro w1 hw1;exact rnew_ok w1;rintro v Lo ⟨bs,rfl,rfl⟩))|(apply R.pure;exact rfl;first|(apply Ok1.assign;exact rfl)|(apply Ok1.build;(iterate 5 exact rfl)))|(apply R.box;(iterate 3 exact rfl);intro))|apply R.nil|(apply T.is;first|apply T.seq|apply T.region|apply T.block))
  rename_i b1 bm
  apply T.loopK (α:=Nat × List Lg × List Lg) (I:=fun y=>y.1≤4∧GOk y.2.1∧GOk y.2.2∧lgs y.2.2=lgs y.2.1∧LOk (lgs y.2.1)∧∃ dn,dn.length=y.1∧(∀ x∈dn,x.length≤40)∧lgs y.2.1=dn++List.replicate (4 - y.1) []) (σi:=fun y=>[(1,.pointer (some ⟨b1,0,none⟩)),(4,.pointer (some ⟨bs,0,none⟩)),(5,.pointer (some ⟨bm,0,none⟩)),(6,.int .i64 y.1)])
    (Li:=fun y=>(b1,.cells ⟨fl Pi.v zs⟩ 40 (0,0))::(SetL bs y.2.1++DSL bm y.2.2)) (μ:=fun y=>4 - y.1) (i0:=(0,[lg0,lg0,lg0,lg0],[lg0,lg0,lg0,lg0]))
  · exact ⟨Nat.zero_le _,GOk.new,GOk.new,rfl,(fun xs hx=>by simp only [lgs,lg0,List.map_cons,List.map_nil,List.mem_cons,List.not_mem_nil,or_false,or_self] at hx;rw [hx];exact ⟨(fun y hy=>by cases hy),List.nodup_nil,Nat.zero_le _⟩),[],rfl,by simp,rfl⟩
  · exact ⟨rfl,rfl,rfl,rfl,trivial⟩
  · simp only
    (focus (repeat' first|exact Keep.nil _|exact Ext.one _ _|apply Keep.cons|apply Ext.cons);done)
  · rintro ⟨i,gs,ms⟩ ⟨hi,hg,hm,hlm,hlo,dn,hdl,h40,hdn⟩
    simp only at hi hg hm hlm hlo hdl hdn ⊢
    rcases Nat.lt_or_ge i 4 with hlt|hge
    · obtain ⟨z,hzi⟩:∃ z,zs[i]? = some z:=⟨_,List.getElem?_eq_getElem (by omega)⟩
      obtain ⟨hrd,hcap⟩:=hr z (List.mem_of_getElem? hzi)
      have hcell:(fl Pi.v zs)[0+i * 1]? = some (.slice z.p z.xs.length z.cap):=by rw [Nat.zero_add,Nat.mul_one,fl_pi,List.getElem?_map,hzi];rfl
      have hmin:(min (z.xs.length:Int) 40)=((min z.xs.length 40:Nat):Int):=by omega
      have hl:(z.xs.take 40).length=min z.xs.length 40:=by rw [List.length_take];omega
      have hp2:=hrd.pre iV_len 40
      have hdr:=fun ov w1 (h1:RdSl w1 (ovp ov) iV (z.xs.take 40)) h2=>drevoke_ok bm ms hm (i:Int) (ovp ov) (min z.xs.length 40) (ovc ov (min z.xs.length 40)) (z.xs.take 40) hl.symm (by omega) w1 h1 h2
      have hrv:=fun ov w1 (h1:RdSl w1 (ovp ov) iV (z.xs.take 40)) h2=>revoke_ok bs gs hg (i:Int) (ovp ov) (min z.xs.length 40) (ovc ov (min z.xs.length 40)) (z.xs.take 40) hl.symm (by omega) w1 h1 h2
      rw [hlm] at hdr
      have hnx:=revL_at hdl hlt h40 hdn (xs:=z.xs.take 40) (by omega)
      have hlo2:=hlo.rev (i:Int) (z.xs.take 40)
      generalize hxs:z.xs.take 40=xs at *
      generalize min z.xs.length 40=n at *
      have hrl:revE (lgs gs) i xs≠0→revL (lgs gs) i xs=lgs gs:=fun h=>by rw [revL,if_neg h]
      generalize hE:revE (lgs gs) i xs=E at *
      generalize hLS:SetL bs gs=LS at *
      generalize hLM:DSL bm ms=LM at *
      by_cases hE0:E=0
      · rw [hE0] at hdr hrv
        repeat' (first|(apply R.is1;first|(apply R.isBin;(apply R.pure;exact rfl;(apply Ok1.lss_t;exact rfl;exact rfl;omega)))|(apply R.pure;exact rfl;(apply Ok1.move;exact rfl)))|apply R.nil|(apply T.is;first|(apply T.drawC (id:=6) [0] (by decide);((apply A.tk 1;exact rfl;kernel_rfl;(apply Ok1.move;exact rfl))<;>(apply A.tk 2;exact rfl;kernel_rfl;(apply Ok1.indexAddrA;(iterate 5 exact rfl);omega;omega))<;>(apply A.tk 3;exact rfl;kernel_rfl;(apply Ok1.load;exact rfl;(apply Ld.own1;exact rfl;exact rfl;exact At.head;exact hcell)))<;>(apply A.tk 4;exact rfl;kernel_rfl;(apply Ok1.move;exact rfl))<;>(apply A.tk 5;exact rfl;kernel_rfl;(apply Ok1.indexAddrA;(iterate 5 exact rfl);omega;omega))<;>(apply A.tk 6;exact rfl;kernel_rfl;(apply Ok1.load;exact rfl;(apply Ld.own1;exact rfl;exact rfl;exact At.head;exact hcell)))<;>(apply A.tk 7;exact rfl;kernel_rfl;(apply Ok1.lenS;(iterate 3 exact rfl)))<;>(apply A.tk 8;exact rfl;kernel_rfl;(apply Ok1.min2E;exact rfl;exact rfl;exact hmin))<;>(apply A.tk 9;exact rfl;kernel_rfl;(apply Ok1.preR (i:=n);(iterate 5 exact rfl);omega))<;>(apply A.one 0;kernel_rfl;exact rfl;(((apply R.buildSlice0;(iterate 4 exact rfl);intro b0)));apply R.nil;refine ⟨?_,?_⟩;(focus (repeat' first|exact trivial|exact At.head|apply At.tail|refine ⟨?_,?_⟩)))<;>(apply A.one 10;kernel_rfl;exact rfl;(((apply R.appendRd (xs:=xs) (v:=iV) (sz:=1) (ov:=some (_,0,[])) (n:=0) (old:=[]) (m:=n);(iterate 12 exact rfl);exact ⟨rfl,rfl⟩;(focus ((repeat' (exact Ext.one _ _));done));exact hl.symm;exact iV_len;exact rfl;(intro w1 hw1;exact hp2.chg hw1.chg (Off.nil _));(focus (rw [fl_i];exact iis_one _));omega;intro ov1 hov1 hsome)));apply R.nil;refine ⟨?_,?_⟩;(focus (repeat' first|exact trivial|exact At.head|apply At.right|refine ⟨?_,?_⟩)))<;>(apply A.tk 11;exact rfl;kernel_rfl;(apply Ok1.assign;exact rfl))<;>(apply A.done;kernel_rfl)))|apply T.seq|apply T.region|apply T.block|apply T.skip|(apply T.cond_t;exact rfl)))
        rw [Nat.zero_add,List.nil_append,fl_i] at hov1
        rw [Nat.zero_add,List.nil_append,fl_i,slV_eq hov1]
        rw [← hl] at hov1
        repeat' (first|(apply R.is1;first|(apply R.isBin;(apply R.pure;exact rfl;first|(apply Ok1.add64;exact rfl;exact rfl;omega;omega)|(apply Ok1.eql_t;exact rfl;exact rfl;omega)))|(apply R.isCall;first|(apply R.callE (Li:=LM) (vs:=[.pointer (some ⟨bm,0,none⟩),.int .i64 i,.slice (ovp ov1) n (ovc ov1 n)]);(iterate 3 exact rfl);(focus (repeat' first|exact Ext.all _|apply Ext.cons|apply Ext.app);done);intro w1 hw1;exact hdr ov1 w1 (irdown hov1 hw1 (Ext.mem (by (focus ((repeat' (exact Ext.here _ _));done))))) (fun _=>ovoff (xs:=iis xs) (e:=3) (Li:=LM) hw1 (by (focus (repeat' first|exact Ext.all _|apply Ext.cons|apply Ext.app);done)) (Ext.mem (by (focus ((repeat' (exact Ext.here _ _));done)))));rintro v Lo ⟨ms',rfl,hgm,hm',rfl⟩)|(apply R.callE (Li:=LS) (vs:=[.pointer (some ⟨bs,0,none⟩),.int .i64 i,.slice (ovp ov1) n (ovc ov1 n)]);(iterate 3 exact rfl);(focus (repeat' first|exact Ext.here _ _|apply Ext.cons|apply Ext.app);done);intro w1 hw1;exact hrv ov1 w1 (irdown hov1 hw1 (Ext.mem (by (focus (repeat' first|exact Ext.here _ _|apply Ext.cons|apply Ext.app);done)))) (fun _=>ovoff (xs:=iis xs) (e:=3) (Li:=LS) hw1 (by (focus (repeat' first|exact Ext.here _ _|apply Ext.cons|apply Ext.app);done)) (Ext.mem (by (focus (repeat' first|exact Ext.here _ _|apply Ext.cons|apply Ext.app);done))));rintro v Lo ⟨gs',rfl,hgl,hg',rfl⟩))|(apply R.pure;exact rfl;first|(apply Ok1.move;exact rfl)|(apply Ok1.assign;exact rfl)))|apply R.nil|(apply T.is;first|apply T.region|(apply T.cond_t;exact rfl)))
        exact ⟨(i+1,gs',ms'),⟨by omega,hg',hm',by rw [hgl,hgm],by rw [hgl];exact hlo2,by rw [hgl];exact hnx⟩,by simp only;omega,⟨rfl,rfl,rfl,rfl,trivial⟩,by (focus (repeat' first|exact Ext.one _ _|exact Ext.here _ _|apply Keep.cons|apply Keep.app|apply Keep.last|apply Ext.cons|apply Ext.app);done)⟩
      · repeat' (first|(apply R.is1;first|(apply R.isBin;(apply R.pure;exact rfl;(apply Ok1.lss_t;exact rfl;exact rfl;omega)))|(apply R.pure;exact rfl;(apply Ok1.move;exact rfl)))|apply R.nil|(apply T.is;first|(apply T.drawC (id:=6) [0] (by decide);((apply A.tk 1;exact rfl;kernel_rfl;(apply Ok1.move;exact rfl))<;>(apply A.tk 2;exact rfl;kernel_rfl;(apply Ok1.indexAddrA;(iterate 5 exact rfl);omega;omega))<;>(apply A.tk 3;exact rfl;kernel_rfl;(apply Ok1.load;exact rfl;(apply Ld.own1;exact rfl;exact rfl;exact At.head;exact hcell)))<;>(apply A.tk 4;exact rfl;kernel_rfl;(apply Ok1.move;exact rfl))<;>(apply A.tk 5;exact rfl;kernel_rfl;(apply Ok1.indexAddrA;(iterate 5 exact rfl);omega;omega))<;>(apply A.tk 6;exact rfl;kernel_rfl;(apply Ok1.load;exact rfl;(apply Ld.own1;exact rfl;exact rfl;exact At.head;exact hcell)))<;>(apply A.tk 7;exact rfl;kernel_rfl;(apply Ok1.lenS;(iterate 3 exact rfl)))<;>(apply A.tk 8;exact rfl;kernel_rfl;(apply Ok1.min2E;exact rfl;exact rfl;exact hmin))<;>(apply A.tk 9;exact rfl;kernel_rfl;(apply Ok1.preR (i:=n);(iterate 5 exact rfl);omega))<;>(apply A.one 0;kernel_rfl;exact rfl;(((apply R.buildSlice0;(iterate 4 exact rfl);intro b0)));apply R.nil;refine ⟨?_,?_⟩;(focus (repeat' first|exact trivial|exact At.head|apply At.tail|refine ⟨?_,?_⟩)))<;>(apply A.one 10;kernel_rfl;exact rfl;(((apply R.appendRd (xs:=xs) (v:=iV) (sz:=1) (ov:=some (_,0,[])) (n:=0) (old:=[]) (m:=n);(iterate 12 exact rfl);exact ⟨rfl,rfl⟩;(focus ((repeat' (exact Ext.one _ _));done));exact hl.symm;exact iV_len;exact rfl;(intro w1 hw1;exact hp2.chg hw1.chg (Off.nil _));(focus (rw [fl_i];exact iis_one _));omega;intro ov1 hov1 hsome)));apply R.nil;refine ⟨?_,?_⟩;(focus (repeat' first|exact trivial|exact At.head|apply At.right|refine ⟨?_,?_⟩)))<;>(apply A.tk 11;exact rfl;kernel_rfl;(apply Ok1.assign;exact rfl))<;>(apply A.done;kernel_rfl)))|apply T.seq|apply T.region|apply T.block|apply T.skip|(apply T.cond_t;exact rfl)))
        rw [Nat.zero_add,List.nil_append,fl_i] at hov1
        rw [Nat.zero_add,List.nil_append,fl_i,slV_eq hov1]
        rw [← hl] at hov1
        repeat' (first|(apply R.is1;first|(apply R.isBin;(apply R.pure;exact rfl;first|(apply Ok1.add64;exact rfl;exact rfl;omega;omega)|(apply Ok1.eql_f;exact rfl;exact rfl;omega)))|(apply R.isCall;(apply R.callE (Li:=LM) (vs:=[.pointer (some ⟨bm,0,none⟩),.int .i64 i,.slice (ovp ov1) n (ovc ov1 n)]);(iterate 3 exact rfl);(focus (repeat' first|exact Ext.all _|apply Ext.cons|apply Ext.app);done);intro w1 hw1;exact hdr ov1 w1 (irdown hov1 hw1 (Ext.mem (by (focus ((repeat' (exact Ext.here _ _));done))))) (fun _=>ovoff (xs:=iis xs) (e:=3) (Li:=LM) hw1 (by (focus (repeat' first|exact Ext.all _|apply Ext.cons|apply Ext.app);done)) (Ext.mem (by (focus ((repeat' (exact Ext.here _ _));done)))));rintro v Lo ⟨ms',rfl,hgm,hm',rfl⟩))|(apply R.pure;exact rfl;first|(apply Ok1.move;exact rfl)|(apply Ok1.assign;exact rfl)))|apply R.nil|(apply T.is;first|apply T.region|apply T.skip|(apply T.cond_f;exact rfl)))
        have hgm2:=hgm.trans (hrl hE0)
        rw [hrl hE0] at hnx
        exact ⟨(i+1,gs,ms'),⟨by omega,hg,hm',hgm2,hlo,hnx⟩,by simp only;omega,⟨rfl,rfl,rfl,rfl,trivial⟩,by simp only [hLS];(focus (repeat' first|exact Ext.one _ _|exact Ext.here _ _|apply Keep.cons|apply Keep.app|apply Keep.last|apply Ext.cons|apply Ext.app);done)⟩
    · have hi4:i=4:=by omega
      subst hi4
      repeat' (first|(apply R.is1;first|(apply R.isBin;(apply R.pure;exact rfl;(apply Ok1.lss_f;exact rfl;exact rfl;omega)))|(apply R.pure;exact rfl;first|(apply Ok1.move;exact rfl)|(apply Ok1.assign;exact rfl)))|apply R.nil|(apply T.is;first|apply T.seq|apply T.region|apply T.exit|apply T.ret|(apply T.cond_f;exact rfl)))
      (apply RetOk.tt;exact rfl;exact rfl)
      refine ⟨_,?_,bs,gs,bm,ms,rfl,hg,hm,hlm,hlo,?_,rfl⟩
      · (focus (repeat' first|exact Ext.one _ _|exact Ext.here _ _|exact Ext.all _|apply Keep.cons|apply Keep.app|apply Keep.last|apply Ext.cons);done)
      · intro y hy
        rw [hdn,Nat.sub_self,List.replicate_zero,List.append_nil] at hy
        exact h40 y hy
theorem sub_tail:∀ {xs ys:List Value} {n m:Nat},xs.length=n→ys.length=m→subE (xs++ys) n m=some ys
  | [],ys,n,m,h,h2=>by simp at h;subst h;exact subE_all h2
  | x :: xs,ys,n,m,h,h2=>by
    cases n with
    | zero=>simp at h
    | succ n =>
      have:=sub_tail (xs:=xs) (ys:=ys) (n:=n) (m:=m) (by simpa using h) h2
      cases m with
      | zero =>
        have:ys=[]:=List.eq_nil_of_length_eq_zero h2
        subst this
        rfl
      | succ k=>exact this
section
variable {X:Cx} {σ:Env} {L:Lst} {ty t:TypeId} {pos:String} {af:Array Edge} {x y:Operand} {r:TRow} {xs ys:List Value} {ks:List TK}
theorem Ok1.neqFq2 {d:Option Nat} {g:Option (Nat × Bool)} {ty2:TypeId} {q:Bool} (hx:ev σ x=some (.agg ⟨xs⟩)) (hy:ev σ y=some (.agg ⟨ys⟩)) (ht:X.tb.row t=some r) (hk:r.k.agg=some true) (hf:flatE X.tb 8 t=some ks) (h1:allOk ks xs=true) (h2:allOk ks ys=true) (hq:xs=ys ↔ q=true) :
    Ok1 X ⟨d,.binOp .neq t x y ty2,ty,pos,af,g⟩ σ L (.bool (!q)):=by
  have h:=Ok1.neqF (X:=X) (L:=L) (ty2:=ty2) (d:=d) (ty:=ty) (pos:=pos) (af:=af) (g:=g) hx hy ht hk hf h1 h2
  have e:∀ (i:Decidable (xs≠ys)),@decide (xs≠ys) i = !q:=by intro i;cases q<;>simp_all
  rw [e] at h
  exact h
end
theorem pB_small {n:Int} (h0:0≤n) (h1:n≤65535):pB n=[n / 256,n % 256]:=by
  rw [pB,u8_mod,u8_mod,Int.emod_eq_of_lt (by omega) (by omega)]
theorem pB_snoc {xs:List Int} {k:Nat} {y:Int} (h:xs[k]? = some y):(xs.take (k+1)).flatMap pB=(xs.take k).flatMap pB++pB y:=by
  rw [List.take_add_one,h,List.flatMap_append]
  simp
theorem pBs_byt (xs:List Int):Byt (xs.flatMap pB):=fun x hx=>by
  obtain ⟨z,_,hz⟩:=List.mem_flatMap.1 hx
  exact pB_byt z x hz
theorem pr_byt (ls:List (List Int)):Byt (prI ls):=fun x hx=>by
  obtain ⟨z,_,hz⟩:=List.mem_flatMap.1 hx
  exact pBs_byt _ x hz
theorem dprint_ok (bs:Nat) (gs:List Lg) (hg:GOk gs) (hlo:LOk (lgs gs)) (w:World) (hs:DSR w bs gs):CallW Tryz.prog 104 [.pointer (some ⟨bs,0,none⟩),.agg ⟨tabV⟩] w fun v _=>v = .agg ⟨u8s (shaI (prI (lgs gs)))⟩:=by
  have hb:=hs.b
  have htl:tabV.length=72:=rfl
  have hle:∀ xs∈lgs gs,xs.length≤256:=fun xs hx=>by obtain ⟨g,hgm,rfl⟩:=List.mem_map.1 hx;exact hg.le g hgm
  have hlen:(lgs gs).length=4:=by rw [lgs,List.length_map,hg.len]
  have hsum:=fun b p cap (h:b.length≤999999000) (hb:Byt b) w1 hp=>sum_ok p b.length cap b rfl h hb w1 hp
  generalize tabV=tv at *
  refine enterW (tb:=tb) Tryz.func104 rfl Tryz.ntmps104 rfl ?_
  repeat' (first|(apply R.is1;first|(apply R.pure;exact rfl;(apply Ok1.assign;exact rfl))|(apply R.box;(iterate 3 exact rfl);intro)|(apply R.alloc;(iterate 3 exact rfl);intro))|apply R.nil|(apply T.is;first|apply T.seq|apply T.region|apply T.block))
  rename_i b3 b4
  apply T.loopK (α:=Nat × Ov) (I:=fun y=>y.1≤4∧OvOk 1 y.2 (prI ((lgs gs).take y.1)).length (u8s (prI ((lgs gs).take y.1)))) (σi:=fun y=>[(0,.pointer (some ⟨bs,0,none⟩)),(3,.pointer (some ⟨b3,0,none⟩)),(4,.pointer (some ⟨b4,0,none⟩)),(5,slV y.2 (prI ((lgs gs).take y.1)).length),(6,.int .i64 y.1)])
    (Li:=fun y=>(b4,.cells ⟨List.replicate 32 (.int .u8 0)⟩ 98 (0,0))::(b3,.cells ⟨tv⟩ 56 (0,0))::blkL 5 y.2 (u8s (prI ((lgs gs).take y.1)))) (μ:=fun y=>4 - y.1) (i0:=(0,none))
  · exact ⟨Nat.zero_le _,rfl,rfl⟩
  · exact ⟨rfl,rfl,rfl,rfl,rfl,trivial⟩
  · (focus (repeat' first|exact Keep.nil _|exact Ext.one _ _|apply Keep.cons);done)
  · rintro ⟨i,ov⟩ ⟨hi,hov⟩
    simp only at hi hov ⊢
    have hpl:=pr_len (ls:=(lgs gs).take i) fun xs hx=>hle xs (List.mem_of_mem_take hx)
    have htk:((lgs gs).take i).length≤4:=by rw [List.length_take,hlen];omega
    rcases Nat.lt_or_ge i 4 with hlt|hge
    · obtain ⟨g,hx⟩:∃ g,gs[i]? = some g:=⟨_,List.getElem?_eq_getElem (by rw [hg.len];omega)⟩
      have hm:=List.mem_of_getElem? hx
      have hcell:=setV_get hx (hg.ok g hm)
      have hgl:=hg.le g hm
      have hrd:=hs.rd g hm
      have hxl:(lgs gs)[i]? = some g.xs:=by rw [lgs,List.getElem?_map,hx];rfl
      have hsn:=pr_snoc hxl
      have hlb:lB g.xs=pB (g.xs.length:Int)++g.xs.flatMap pB:=rfl
      rw [hlb] at hsn
      generalize prI ((lgs gs).take i)=o0 at *
      repeat' (first|(apply R.is1;first|(apply R.isBin;(apply R.pure;exact rfl;(apply Ok1.lss_t;exact rfl;exact rfl;omega)))|(apply R.pure;exact rfl;first|(apply Ok1.move;exact rfl)|(apply Ok1.assign;exact rfl)))|apply R.nil|(apply T.is;first|(apply T.drawC (id:=5) [] (by decide);((apply A.tk 0;exact rfl;kernel_rfl;(apply Ok1.move;exact rfl))<;>(apply A.tk 1;exact rfl;kernel_rfl;(apply Ok1.move;exact rfl))<;>(apply A.tk 2;exact rfl;kernel_rfl;(apply Ok1.move;exact rfl))<;>(apply A.tk 3;exact rfl;kernel_rfl;(apply Ok1.nilCheck;exact rfl))<;>(apply A.tk 4;exact rfl;kernel_rfl;(apply Ok1.fieldAddr;(iterate 5 exact rfl)))<;>(apply A.tk 5;exact rfl;kernel_rfl;(apply Ok1.indexAddrA;(iterate 5 exact rfl);omega;omega))<;>(apply A.tk 6;exact rfl;kernel_rfl;(apply Ok1.load;exact rfl;apply Ld.blk1;exact rfl;exact rfl;exact hb;exact List.not_mem_nil;exact hcell))<;>(apply A.tk 7;exact rfl;kernel_rfl;(apply Ok1.lenS;(iterate 3 exact rfl)))<;>(apply A.tk 8;exact rfl;kernel_rfl;(apply Ok1.quo64;exact rfl;exact rfl;omega;omega;omega))<;>(apply A.tk 9;exact rfl;kernel_rfl;(apply Ok1.convU8;(iterate 5 exact rfl);omega;omega))<;>(apply A.tk 10;exact rfl;kernel_rfl;(apply Ok1.move;exact rfl))<;>(apply A.tk 11;exact rfl;kernel_rfl;(apply Ok1.move;exact rfl))<;>(apply A.tk 12;exact rfl;kernel_rfl;(apply Ok1.nilCheck;exact rfl))<;>(apply A.tk 13;exact rfl;kernel_rfl;(apply Ok1.fieldAddr;(iterate 5 exact rfl)))<;>(apply A.tk 14;exact rfl;kernel_rfl;(apply Ok1.indexAddrA;(iterate 5 exact rfl);omega;omega))<;>(apply A.tk 15;exact rfl;kernel_rfl;(apply Ok1.load;exact rfl;apply Ld.blk1;exact rfl;exact rfl;exact hb;exact List.not_mem_nil;exact hcell))<;>(apply A.tk 16;exact rfl;kernel_rfl;(apply Ok1.lenS;(iterate 3 exact rfl)))<;>(apply A.tk 17;exact rfl;kernel_rfl;(apply Ok1.remN;exact rfl;exact rfl;omega;omega))<;>(apply A.tk 18;exact rfl;kernel_rfl;(apply Ok1.convU8;(iterate 5 exact rfl);omega;omega))<;>(apply A.one 19;kernel_rfl;exact rfl;(((apply R.buildSlice;(iterate 12 exact rfl);intro)));apply R.nil;refine ⟨?_,?_⟩;(focus ((repeat' (exact trivial)))))<;>(apply A.one 20;kernel_rfl;exact rfl;(((apply R.append1;(iterate 12 exact rfl);(focus (repeat' first|exact OwnAt.base hov|apply OwnAt.tail);done);exact At.head;exact rfl;exact rfl;omega;omega;intro b2 j2 k2 hj2)));apply R.nil;refine ⟨?_,?_⟩;(focus ((repeat' (exact trivial)))))<;>(apply A.tk 21;exact rfl;kernel_rfl;(apply Ok1.assign;exact rfl))<;>(apply A.done;kernel_rfl)))|apply T.seq|apply T.region|apply T.block|apply T.skip|(apply T.cond_t;exact rfl)))
      have hov1:=hov.some (b:=b2) (ys:=u8s (pB (g.xs.length:Int))) (m:=2) rfl (by exact hj2)
      have hp1:u8s (pB (g.xs.length:Int))=[.int .u8 (g.xs.length / 256),.int .u8 (g.xs.length % 256)]:=by rw [pB_small (by omega) (by omega)];rfl
      rw [← hp1]
      have hoo:∀ k,o0++(pB (g.xs.length:Int)++(g.xs.take k).flatMap pB)=(o0++pB (g.xs.length:Int))++(g.xs.take k).flatMap pB:=fun k=>(List.append_assoc _ _ _).symm
      have hol:(o0++pB (g.xs.length:Int)).length=o0.length+2:=by rw [List.length_append];rfl
      have hou:u8s (o0++pB (g.xs.length:Int))=u8s o0++u8s (pB (g.xs.length:Int)):=u8s_app _ _
      rw [← hou] at hov1
      rw [← hou]
      rw [← hol] at hov1
      rw [← List.append_assoc] at hsn
      generalize o0++pB (g.xs.length:Int)=o1 at *
      apply T.loopK (α:=Nat × Ov) (I:=fun y=>y.1≤g.xs.length∧OvOk 1 y.2 (o1++(g.xs.take y.1).flatMap pB).length (u8s (o1++(g.xs.take y.1).flatMap pB))) (σi:=fun y=>[(0,.pointer (some ⟨bs,0,none⟩)),(3,.pointer (some ⟨b3,0,none⟩)),(4,.pointer (some ⟨b4,0,none⟩)),(5,slV y.2 (o1++(g.xs.take y.1).flatMap pB).length),(6,.int .i64 i),(7,.int .i64 y.1)])
        (Li:=fun y=>(b4,.cells ⟨List.replicate 32 (.int .u8 0)⟩ 98 (0,0))::(b3,.cells ⟨tv⟩ 56 (0,0))::blkL 5 y.2 (u8s (o1++(g.xs.take y.1).flatMap pB))) (μ:=fun y=>g.xs.length - y.1) (i0:=(0,some (b2,j2,k2)))
      · exact ⟨Nat.zero_le _,by simpa using hov1⟩
      · simp only [List.take_zero,List.flatMap_nil,List.append_nil,hol]
        exact ⟨rfl,rfl,rfl,rfl,rfl,rfl,trivial⟩
      · simp only [List.take_zero,List.flatMap_nil,List.append_nil]
        (focus (repeat' first|exact Keep.nil _|exact Ext.one _ _|apply Keep.cons|apply Ext.cons);done)
      · rintro ⟨k,ov3⟩ ⟨hk,hov3⟩
        simp only at hk hov3 ⊢
        have hbl:(o1++(g.xs.take k).flatMap pB).length≤3000:=by
          rw [List.length_append,fpB_len,List.length_take]
          omega
        rcases Nat.lt_or_ge k g.xs.length with hlk|hgk
        · obtain ⟨y,hy⟩:∃ y,g.xs[k]? = some y:=⟨_,List.getElem?_eq_getElem (by omega)⟩
          obtain ⟨hy1,hy2⟩:=(hlo g.xs (List.mem_of_getElem? hxl)).1 y (List.mem_of_getElem? hy)
          obtain ⟨b1,o1',hpe,H⟩:=hrd.at hy
          replace H:=H 1 iV_len
          have hps:=pB_snoc hy
          have hp2:u8s (pB y)=[.int .u8 (y / 256),.int .u8 (y % 256)]:=by rw [pB_small (by omega) (by omega)];rfl
          have hpl2:(pB y).length=2:=rfl
          repeat' (first|(apply R.is1;first|(apply R.isBin;(apply R.pure;exact rfl;first|(apply Ok1.add64;exact rfl;exact rfl;omega;omega)|(apply Ok1.lss_t;exact rfl;exact rfl;omega)))|(apply R.isCall;(apply R.pure;exact rfl;(apply Ok1.lenS;(iterate 3 exact rfl))))|(apply R.pure;exact rfl;first|(apply Ok1.load;exact rfl;(apply Ld.blk1;exact rfl;exact rfl;exact hb;exact List.not_mem_nil;exact hcell))|(apply Ok1.move;exact rfl)|(apply Ok1.fieldAddr;(iterate 5 exact rfl))|(apply Ok1.assign;exact rfl)|(apply Ok1.indexAddrA;(iterate 5 exact rfl);omega;omega)|(apply Ok1.nilCheck;exact rfl)))|apply R.nil|(apply T.is;first|(apply T.drawC (id:=9) [] (by decide);(((apply A.tk 0;exact rfl;kernel_rfl;(apply Ok1.move;exact rfl));refine A.cast (listed':=#[true,false,false,false,false,false,false,false,false,false,false,false,false,false,false,false,false,false,false,false,false,false,false,false,false,false]) (by kernel_rfl) ?_)<;>((apply A.tk 1;exact rfl;kernel_rfl;(apply Ok1.move;exact rfl));refine A.cast (listed':=#[true,true,false,false,false,false,false,false,false,false,false,false,false,false,false,false,false,false,false,false,false,false,false,false,false,false]) (by kernel_rfl) ?_)<;>((apply A.tk 2;exact rfl;kernel_rfl;(apply Ok1.move;exact rfl));refine A.cast (listed':=#[true,true,true,false,false,false,false,false,false,false,false,false,false,false,false,false,false,false,false,false,false,false,false,false,false,false]) (by kernel_rfl) ?_)<;>((apply A.tk 3;exact rfl;kernel_rfl;(apply Ok1.nilCheck;exact rfl));refine A.cast (listed':=#[true,true,true,true,false,false,false,false,false,false,false,false,false,false,false,false,false,false,false,false,false,false,false,false,false,false]) (by kernel_rfl) ?_)<;>((apply A.tk 4;exact rfl;kernel_rfl;(apply Ok1.fieldAddr;(iterate 5 exact rfl)));refine A.cast (listed':=#[true,true,true,true,true,false,false,false,false,false,false,false,false,false,false,false,false,false,false,false,false,false,false,false,false,false]) (by kernel_rfl) ?_)<;>((apply A.tk 5;exact rfl;kernel_rfl;(apply Ok1.indexAddrA;(iterate 5 exact rfl);omega;omega));refine A.cast (listed':=#[true,true,true,true,true,true,false,false,false,false,false,false,false,false,false,false,false,false,false,false,false,false,false,false,false,false]) (by kernel_rfl) ?_)<;>((apply A.tk 6;exact rfl;kernel_rfl;(apply Ok1.load;exact rfl;(apply Ld.blk1;exact rfl;exact rfl;exact hb;exact List.not_mem_nil;exact hcell)));refine A.cast (listed':=#[true,true,true,true,true,true,true,false,false,false,false,false,false,false,false,false,false,false,false,false,false,false,false,false,false,false]) (by kernel_rfl) ?_)<;>((apply A.tk 7;exact rfl;kernel_rfl;(apply Ok1.move;exact rfl));refine A.cast (listed':=#[true,true,true,true,true,true,true,true,false,false,false,false,false,false,false,false,false,false,false,false,false,false,false,false,false,false]) (by kernel_rfl) ?_)<;>((apply A.tk 8;exact rfl;kernel_rfl;(apply Ok1.indexAddrP;(iterate 4 exact rfl);exact hpe;exact rfl;omega;omega));refine A.cast (listed':=#[true,true,true,true,true,true,true,true,true,false,false,false,false,false,false,false,false,false,false,false,false,false,false,false,false,false]) (by kernel_rfl) ?_)<;>((apply A.tk 9;exact rfl;kernel_rfl;(apply Ok1.load;exact rfl;(apply Ld.row0 H;exact rfl;exact List.not_mem_nil;(iterate 3 exact rfl))));refine A.cast (listed':=#[true,true,true,true,true,true,true,true,true,true,false,false,false,false,false,false,false,false,false,false,false,false,false,false,false,false]) (by kernel_rfl) ?_)<;>((apply A.tk 10;exact rfl;kernel_rfl;(apply Ok1.quo64;exact rfl;exact rfl;omega;omega;omega));refine A.cast (listed':=#[true,true,true,true,true,true,true,true,true,true,true,false,false,false,false,false,false,false,false,false,false,false,false,false,false,false]) (by kernel_rfl) ?_)<;>((apply A.tk 11;exact rfl;kernel_rfl;(apply Ok1.convU8;(iterate 5 exact rfl);omega;omega));refine A.cast (listed':=#[true,true,true,true,true,true,true,true,true,true,true,true,false,false,false,false,false,false,false,false,false,false,false,false,false,false]) (by kernel_rfl) ?_)<;>((apply A.tk 12;exact rfl;kernel_rfl;(apply Ok1.move;exact rfl));refine A.cast (listed':=#[true,true,true,true,true,true,true,true,true,true,true,true,true,false,false,false,false,false,false,false,false,false,false,false,false,false]) (by kernel_rfl) ?_)<;>((apply A.tk 13;exact rfl;kernel_rfl;(apply Ok1.move;exact rfl));refine A.cast (listed':=#[true,true,true,true,true,true,true,true,true,true,true,true,true,true,false,false,false,false,false,false,false,false,false,false,false,false]) (by kernel_rfl) ?_)<;>((apply A.tk 14;exact rfl;kernel_rfl;(apply Ok1.nilCheck;exact rfl));refine A.cast (listed':=#[true,true,true,true,true,true,true,true,true,true,true,true,true,true,true,false,false,false,false,false,false,false,false,false,false,false]) (by kernel_rfl) ?_)<;>((apply A.tk 15;exact rfl;kernel_rfl;(apply Ok1.fieldAddr;(iterate 5 exact rfl)));refine A.cast (listed':=#[true,true,true,true,true,true,true,true,true,true,true,true,true,true,true,true,false,false,false,false,false,false,false,false,false,false]) (by kernel_rfl) ?_)<;>((apply A.tk 16;exact rfl;kernel_rfl;(apply Ok1.indexAddrA;(iterate 5 exact rfl);omega;omega));refine A.cast (listed':=#[true,true,true,true,true,true,true,true,true,true,true,true,true,true,true,true,true,false,false,false,false,false,false,false,false,false]) (by kernel_rfl) ?_)<;>((apply A.tk 17;exact rfl;kernel_rfl;(apply Ok1.load;exact rfl;(apply Ld.blk1;exact rfl;exact rfl;exact hb;exact List.not_mem_nil;exact hcell)));refine A.cast (listed':=#[true,true,true,true,true,true,true,true,true,true,true,true,true,true,true,true,true,true,false,false,false,false,false,false,false,false]) (by kernel_rfl) ?_)<;>((apply A.tk 18;exact rfl;kernel_rfl;(apply Ok1.move;exact rfl));refine A.cast (listed':=#[true,true,true,true,true,true,true,true,true,true,true,true,true,true,true,true,true,true,true,false,false,false,false,false,false,false]) (by kernel_rfl) ?_)<;>((apply A.tk 19;exact rfl;kernel_rfl;(apply Ok1.indexAddrP;(iterate 4 exact rfl);exact hpe;exact rfl;omega;omega));refine A.cast (listed':=#[true,true,true,true,true,true,true,true,true,true,true,true,true,true,true,true,true,true,true,true,false,false,false,false,false,false]) (by kernel_rfl) ?_)<;>((apply A.tk 20;exact rfl;kernel_rfl;(apply Ok1.load;exact rfl;(apply Ld.row0 H;exact rfl;exact List.not_mem_nil;(iterate 3 exact rfl))));refine A.cast (listed':=#[true,true,true,true,true,true,true,true,true,true,true,true,true,true,true,true,true,true,true,true,true,false,false,false,false,false]) (by kernel_rfl) ?_)<;>((apply A.tk 21;exact rfl;kernel_rfl;(apply Ok1.remN;exact rfl;exact rfl;omega;omega));refine A.cast (listed':=#[true,true,true,true,true,true,true,true,true,true,true,true,true,true,true,true,true,true,true,true,true,true,false,false,false,false]) (by kernel_rfl) ?_)<;>((apply A.tk 22;exact rfl;kernel_rfl;(apply Ok1.convU8;(iterate 5 exact rfl);omega;omega));refine A.cast (listed':=#[true,true,true,true,true,true,true,true,true,true,true,true,true,true,true,true,true,true,true,true,true,true,true,false,false,false]) (by kernel_rfl) ?_)<;>(apply A.one 23;kernel_rfl;exact rfl;(((apply R.buildSlice;(iterate 12 exact rfl);intro)));apply R.nil;refine ⟨?_,?_⟩;(focus ((repeat' (exact trivial)))))<;>(apply A.one 24;kernel_rfl;exact rfl;(((apply R.append1;(iterate 12 exact rfl);(focus (repeat' first|exact OwnAt.base hov3|apply OwnAt.tail);done);exact At.head;exact rfl;exact rfl;omega;omega;intro b2 j2 k2 hj2)));apply R.nil;refine ⟨?_,?_⟩;(focus ((repeat' (exact trivial)))))<;>((apply A.tk 25;exact rfl;kernel_rfl;(apply Ok1.assign;exact rfl));refine A.cast (listed':=#[true,true,true,true,true,true,true,true,true,true,true,true,true,true,true,true,true,true,true,true,true,true,true,true,true,true]) (by kernel_rfl) ?_)<;>(apply A.done;kernel_rfl)))|apply T.seq|apply T.region|apply T.block|apply T.skip|(apply T.cond_t;exact rfl)))
          have hov4:=hov3.some (b:=b2) (ys:=u8s (pB y)) (m:=2) rfl (by exact hj2)
          have e1:o1++(g.xs.take (k+1)).flatMap pB=(o1++(g.xs.take k).flatMap pB)++pB y:=by rw [hps,List.append_assoc]
          have e2:(o1++(g.xs.take (k+1)).flatMap pB).length=(o1++(g.xs.take k).flatMap pB).length+2:=(congrArg List.length e1).trans List.length_append
          refine ⟨(k+1,some (b2,j2,k2)),⟨by simp only;omega,?_⟩,by simp only;omega,?_,?_⟩
          · simp only [e2]
            rw [e1,u8s_app]
            exact hov4
          · simp only [e2]
            exact ⟨rfl,rfl,rfl,rfl,rfl,rfl,trivial⟩
          · simp only
            rw [e1,u8s_app (o1++(g.xs.take k).flatMap pB) (pB y),hp2]
            (focus (repeat' first|exact Keep.nil _|exact Ext.one _ _|apply Keep.cons|apply Ext.cons);done)
        · have hke:k=g.xs.length:=by omega
          subst hke
          rw [List.take_length,← hsn] at hov3
          rw [List.take_length,← hsn]
          repeat' (first|(apply R.is1;first|(apply R.isBin;(apply R.pure;exact rfl;first|(apply Ok1.add64;exact rfl;exact rfl;omega;omega)|(apply Ok1.lss_f;exact rfl;exact rfl;omega)))|(apply R.isCall;(apply R.pure;exact rfl;(apply Ok1.lenS;(iterate 3 exact rfl))))|(apply R.pure;exact rfl;first|(apply Ok1.load;exact rfl;apply Ld.blk1;exact rfl;exact rfl;exact hb;exact List.not_mem_nil;exact hcell)|(apply Ok1.move;exact rfl)|(apply Ok1.fieldAddr;(iterate 5 exact rfl))|(apply Ok1.assign;exact rfl)|(apply Ok1.indexAddrA;(iterate 5 exact rfl);omega;omega)|(apply Ok1.nilCheck;exact rfl)))|apply R.nil|(apply T.is;first|apply T.seq|apply T.region|apply T.exit|(apply T.cond_f;exact rfl)))
          exact ⟨(i+1,ov3),⟨by simp only;omega,hov3⟩,by simp only;omega,⟨rfl,rfl,rfl,rfl,rfl,trivial⟩,by (focus (repeat' first|exact Ext.one _ _|exact Ext.all _|apply Keep.cons|apply Keep.last);done)⟩
    · have him:i=4:=by omega
      subst him
      rw [List.take_of_length_le (by omega)] at hov hpl ⊢
      have hby:=pr_byt (lgs gs)
      have hsum2:=fun p cap w1 hp=>hsum (prI (lgs gs)) p cap (by omega) hby w1 hp
      have hls:(u8s (shaI (prI (lgs gs)))).length=32:=by rw [u8s_len,sha_len]
      have hone:=u8s_one (shaI (prI (lgs gs)))
      have hset:∀ cs:List Value,cs.length=32→setE cs 0 (u8s (shaI (prI (lgs gs))))=some (u8s (shaI (prI (lgs gs)))):=fun cs h=>setE_all (by rw [hls,h])
      have hsub:=subE_all hls
      clear hsum
      generalize shaI (prI (lgs gs))=d0 at *
      simp only [slV_eq hov]
      repeat' (first|(apply R.is1;first|(apply R.isBin;(apply R.pure;exact rfl;(apply Ok1.lss_f;exact rfl;exact rfl;omega)))|(apply R.isCall;(apply R.callV (vs:=[.agg ⟨tv⟩,.slice (ovp ov) (prI (lgs gs)).length (ovc ov (prI (lgs gs)).length)]);(iterate 3 exact rfl);intro w1 hw1;exact hsum2 _ _ w1 (rdown hov hw1 (Ext.mem (by (focus (repeat' first|exact Ext.all _|apply Ext.cons);done))))))|(apply R.pure;exact rfl;first|(apply Ok1.load;exact rfl;apply Ld.ownk;exact rfl;exact rfl;(focus (repeat' first|exact At.head|apply At.tail);done);exact subE_all htl)|(apply Ok1.move;exact rfl)))|(apply R.is0;(apply R.store;(iterate 4 exact rfl);exact hls;exact hone;exact Upd.head;exact hset _ rfl))|apply R.nil|(apply T.is;first|apply T.seq|apply T.region|apply T.exit|apply T.ret|(apply T.cond_f;exact rfl)))
      all_goals apply RetOk.c
      all_goals first|exact rfl|skip
      all_goals (apply Ld.ownk;exact rfl;exact rfl;exact At.head;exact hsub)
def u64n (l:List Nat):List Value:=l.map fun (d:Nat)=>.int .u64 (d:Int)
def dig:Nat→Nat→List Nat
  | 0,_=>[]
  | n+1,v=>v % 65536::dig n (v / 65536)
def val:List Nat→Nat
  | []=>0
  | d::r=>d+65536 * val r
theorem dig_len (n v:Nat):(dig n v).length=n:=by
  induction n generalizing v with
  | zero=>rfl
  | succ n ih=>simp [dig,ih]
theorem dig_get (n v i:Nat) (h:i < n):(dig n v).getD i 0=v / 65536 ^ i % 65536:=by
  induction n generalizing v i with
  | zero=>omega
  | succ n ih =>
    cases i with
    | zero=>simp [dig]
    | succ i =>
      have:=ih (v / 65536) i (by omega)
      simp only [dig,List.getD_cons_succ,this,Nat.div_div_eq_div_mul]
      rw [Nat.pow_succ,Nat.mul_comm]
theorem dig_val {l:List Nat} (h:∀ d∈l,d < 65536):dig l.length (val l)=l:=by
  induction l with
  | nil=>rfl
  | cons d l ih =>
    have h1:=ih fun x hx=>h x (List.mem_cons_of_mem _ hx)
    have h2:=h d List.mem_cons_self
    simp only [val,List.length_cons,dig]
    rw [show (d+65536 * val l) % 65536=d by omega,show (d+65536 * val l) / 65536=val l by omega,h1]
theorem dig_mod (n v:Nat):dig n (v % 65536 ^ n)=dig n v:=by
  induction n generalizing v with
  | zero=>rfl
  | succ n ih =>
    simp only [dig]
    have h1:v % 65536 ^ (n+1) % 65536=v % 65536:=Nat.mod_mod_of_dvd v (by rw [Nat.pow_succ];exact Nat.dvd_mul_left _ _)
    have h2:v % 65536 ^ (n+1) / 65536=v / 65536 % 65536 ^ n:=by
      rw [Nat.pow_succ,Nat.mul_comm,Nat.mod_mul_right_div_self]
    rw [h1,h2,ih]
theorem val_set (l:List Nat) (i x:Nat) (h:i < l.length):val (l.set i x)+l.getD i 0 * 65536 ^ i=val l+x * 65536 ^ i:=by
  induction l generalizing i with
  | nil=>simp at h
  | cons d l ih =>
    cases i with
    | zero=>simp [val];omega
    | succ i =>
      have:=ih i (by simpa using h)
      simp only [List.set_cons_succ,val,List.getD_cons_succ]
      rw [Nat.pow_succ,← Nat.mul_assoc,← Nat.mul_assoc]
      omega
theorem mod_step (A i:Nat):A % 65536 ^ (i+1)=A % 65536 ^ i+A / 65536 ^ i % 65536 * 65536 ^ i:=by
  rw [Nat.pow_succ,Nat.mod_mul,Nat.mul_comm (65536 ^ i)]
/-- One step of the inner loop. -/
theorem inner_step {Z Z' Z0 ov a B z i k:Nat} (hset:Z'+z * 65536 ^ (i+k)=Z+(ov+z+a * (B / 65536 ^ k % 65536)) % 65536 * 65536 ^ (i+k))
    (h:Z+ov * 65536 ^ (i+k)=Z0+a * (B % 65536 ^ k) * 65536 ^ i) :
    Z'+(ov+z+a * (B / 65536 ^ k % 65536)) / 65536 * 65536 ^ (i+(k+1))=Z0+a * (B % 65536 ^ (k+1)) * 65536 ^ i:=by
  rw [mod_step B k]
  generalize B / 65536 ^ k % 65536=b at *
  have e1:a * (B % 65536 ^ k+b * 65536 ^ k) * 65536 ^ i=a * (B % 65536 ^ k) * 65536 ^ i+a * b * 65536 ^ (i+k):=by rw [Nat.mul_add a,Nat.add_mul,Nat.pow_add,← Nat.mul_assoc a,Nat.mul_assoc (a * b),Nat.mul_comm (65536 ^ k)]
  rw [e1,← Nat.add_assoc Z0,← h,show i+(k+1)=(i+k)+1 by omega,Nat.pow_succ]
  generalize 65536 ^ (i+k)=P at *
  have h4:=Nat.div_add_mod (ov+z+a * b) 65536
  generalize (ov+z+a * b) / 65536=q at *
  generalize (ov+z+a * b) % 65536=m at *
  have h5:(65536 * q+m) * P=(ov+z+a * b) * P:=by rw [h4]
  rw [Nat.add_mul,Nat.add_mul,Nat.add_mul,Nat.mul_comm 65536 q,Nat.mul_assoc] at h5
  rw [Nat.mul_comm P 65536]
  generalize q * (65536 * P)=s1 at *
  generalize m * P=s2 at *
  generalize ov * P=s3 at *
  generalize z * P=s4 at *
  generalize a * b * P=s5 at *
  omega
theorem outer_step {Z Z0 ov A B i:Nat} (hi:i≤12) (h0:Z0 % 65536 ^ 12=(A % 65536 ^ i * B) % 65536 ^ 12)
    (h:Z+ov * 65536 ^ 12=Z0+(A / 65536 ^ i % 65536) * (B % 65536 ^ (12 - i)) * 65536 ^ i):Z % 65536 ^ 12=(A % 65536 ^ (i+1) * B) % 65536 ^ 12:=by
  have h1:Z % 65536 ^ 12=(Z+ov * 65536 ^ 12) % 65536 ^ 12:=by rw [Nat.add_mul_mod_self_right]
  rw [h1,h,mod_step A i,Nat.add_mul]
  generalize A / 65536 ^ i % 65536=a
  have h2:(a * (B % 65536 ^ (12 - i)) * 65536 ^ i) % 65536 ^ 12=(a * 65536 ^ i * B) % 65536 ^ 12:=by
    have e:65536 ^ 12=65536 ^ i * 65536 ^ (12 - i):=by rw [← Nat.pow_add];congr 1;omega
    rw [Nat.mul_comm _ (65536 ^ i),Nat.mul_comm a (65536 ^ i),Nat.mul_assoc (65536 ^ i) a B,e,Nat.mul_mod_mul_left,Nat.mul_mod_mul_left]
    rw [Nat.mul_mod a (B % _),Nat.mod_mod,← Nat.mul_mod]
  rw [Nat.add_mod,h0,h2,← Nat.add_mod]
theorem parts_ok (y:Nat) (hy:y < 18446744073709551616):CallP Tryz.prog 205 [.int .u64 y] (.agg ⟨u64n (dig 12 y)⟩):=by
  refine enterP (tb:=tb) Tryz.func205 rfl Tryz.ntmps205 rfl fun w=>?_
  repeat' (first|(apply R.is1;first|(apply R.isBin;(apply R.pure;exact rfl;first|(apply Ok1.quoU;exact rfl;exact rfl;omega;omega;omega)|(apply Ok1.add64;exact rfl;exact rfl;omega;omega)|(apply Ok1.lss_t;exact rfl;exact rfl;omega)|(apply Ok1.lss_f;exact rfl;exact rfl;omega)|(apply Ok1.remN;exact rfl;exact rfl;omega;omega)))|(apply R.pure;exact rfl;first|(apply Ok1.move;exact rfl)|(apply Ok1.load;exact rfl;(apply Ld.ownk;exact rfl;exact rfl;exact At.head;exact rfl))|(apply Ok1.assign;exact rfl)|(apply Ok1.indexAddrA;(iterate 5 exact rfl);omega;omega)|(apply Ok1.buildA;(iterate 6 exact rfl)))|(apply R.alloc;(iterate 3 exact rfl);intro))|(apply R.is0;(apply R.store;(iterate 6 exact rfl);(focus (repeat' first|exact Upd.head|apply Upd.tail);done);exact rfl))|apply R.nil|(apply T.is;first|apply T.rounds 5|apply T.seq|apply T.region|apply T.block|apply T.skip|apply T.exit|apply T.ret|(apply T.cond_t;exact rfl)|(apply T.cond_f;exact rfl)))
  (apply RetOk.c;exact rfl;((apply Ld.ownk;exact rfl;exact rfl;(focus (repeat' first|exact At.head|apply At.tail);done);exact rfl)))
  have h0:y / 65536 / 65536 / 65536 / 65536=0:=by omega
  have h1:∀ n,dig n 0=List.replicate n 0:=by
    intro n
    induction n with
    | zero=>rfl
    | succ n ih=>simp [dig,ih,List.replicate_succ]
  have h2:dig 12 y=y % 65536::y / 65536 % 65536::y / 65536 / 65536 % 65536::y / 65536 / 65536 / 65536 % 65536::dig 8 (y / 65536 / 65536 / 65536 / 65536):=rfl
  rw [h2,h0,h1]
  simp only [u64n,List.map_cons,Int.natCast_emod,Int.natCast_ediv]
  rfl
theorem u64n_len (l:List Nat):(u64n l).length=l.length:=by simp [u64n]
theorem u64n_get {l:List Nat} {o:Nat} (h:o < l.length):(u64n l)[o]? = some (.int .u64 (l.getD o 0:Nat)):=by simp [u64n,h]
theorem u64n_one (l:List Nat):(u64n l).all Value.oneCell'=true:=by rw [List.all_eq_true];intro x hx;obtain ⟨y,_,rfl⟩:=List.mem_map.1 hx;rfl
theorem u64n_set {l:List Nat} {o x:Nat} (h:o < l.length):setE (u64n l) o [.int .u64 (x:Int)]=some (u64n (l.set o x)):=by
  rw [setE_one (by rw [u64n_len];exact h)]
  simp [u64n,List.map_set]
theorem times_ok (U V:Nat):CallP Tryz.prog 206 [.agg ⟨u64n (dig 12 U)⟩,.agg ⟨u64n (dig 12 V)⟩] (.agg ⟨u64n (dig 12 (U * V))⟩):=by
  refine enterP (tb:=tb) Tryz.func206 rfl Tryz.ntmps206 rfl fun w=>?_
  have hla:=dig_len 12 U
  have hlb:=dig_len 12 V
  have hga:∀ i:Nat,i < 12→(u64n (dig 12 U))[0+(i:Int).toNat * 1]? = some (.int .u64 (U / 65536 ^ i % 65536:Nat)):=fun i hi=>by rw [← dig_get 12 U i hi];rw [show 0+(i:Int).toNat * 1=i by omega];exact u64n_get (by omega)
  have hgb:∀ i:Nat,i < 12→(u64n (dig 12 V))[0+(i:Int).toNat * 1]? = some (.int .u64 (V / 65536 ^ i % 65536:Nat)):=fun i hi=>by rw [← dig_get 12 V i hi];rw [show 0+(i:Int).toNat * 1=i by omega];exact u64n_get (by omega)
  have hca:cellsE (.agg ⟨u64n (dig 12 U)⟩)=some (u64n (dig 12 U)):=rfl
  generalize hAv:u64n (dig 12 U)=av at *
  generalize hBv:u64n (dig 12 V)=bv at *
  repeat' (first|(apply R.is1;first|(apply R.pure;exact rfl;first|(apply Ok1.assign;exact rfl)|(apply Ok1.buildA;(iterate 6 exact rfl)))|(apply R.box;(iterate 3 exact rfl);intro)|(apply R.alloc;(iterate 3 exact rfl);intro))|(apply R.is0;(apply R.store;(iterate 6 exact rfl);exact Upd.head;exact rfl))|apply R.nil|(apply T.is;first|apply T.seq|apply T.region|apply T.block))
  rename_i bA bB bO bZ
  apply T.loopK (α:=Nat × List Nat) (I:=fun x=>x.1≤12∧x.2.length=12∧(∀ d∈x.2,d < 65536)∧val x.2 % 65536 ^ 12=(U % 65536 ^ x.1 * V) % 65536 ^ 12) (σi:=fun x=>[(2,.pointer (some ⟨bA,0,none⟩)),(3,.pointer (some ⟨bB,0,none⟩)),(4,.pointer (some ⟨bO,0,none⟩)),(5,.pointer (some ⟨bZ,0,none⟩)),(6,.int .i64 x.1)])
    (Li:=fun x=>[(bZ,.cells ⟨u64n x.2⟩ 358 (0,0)),(bO,.cells ⟨List.replicate 12 (.int .u64 0)⟩ 358 (0,0)),(bB,.cells ⟨bv⟩ 358 (0,0)),(bA,.cells ⟨av⟩ 358 (0,0))]) (μ:=fun x=>12 - x.1) (i0:=(0,List.replicate 12 0))
  · refine ⟨by decide,rfl,?_,?_⟩
    · intro d hd;rw [List.eq_of_mem_replicate hd];decide
    · simp only [Nat.pow_zero,Nat.mod_one,Nat.zero_mul];rfl
  · exact ⟨rfl,rfl,rfl,rfl,rfl,trivial⟩
  · (focus (repeat' first|exact Keep.nil _|exact Ext.one _ _|apply Keep.cons);done)
  · rintro ⟨i,z0⟩ ⟨hi,hz0,hd0,hv0⟩
    simp only at hi hz0 hd0 hv0 ⊢
    rcases Nat.lt_or_ge i 12 with hlt|hge
    · repeat' (first|(apply R.is1;first|(apply R.isBin;(apply R.pure;exact rfl;(apply Ok1.lss_t;exact rfl;exact rfl;omega)))|(apply R.pure;exact rfl;first|(apply Ok1.move;exact rfl)|(apply Ok1.assign;exact rfl)))|apply R.nil|(apply T.is;first|apply T.seq|apply T.region|apply T.block|apply T.skip|(apply T.cond_t;exact rfl)))
      have hai:=hga i hlt
      have ha16:U / 65536 ^ i % 65536 < 65536:=Nat.mod_lt _ (by decide)
      have hout:=fun Z ov=>@outer_step Z (val z0) ov U V i hi hv0
      generalize U / 65536 ^ i % 65536=a at *
      apply T.loopK (α:=Nat × Nat × List Nat) (I:=fun x=>i+x.1≤12∧x.2.1 < 65536∧x.2.2.length=12∧(∀ d∈x.2.2,d < 65536)∧val x.2.2+x.2.1 * 65536 ^ (i+x.1)=val z0+a * (V % 65536 ^ x.1) * 65536 ^ i) (σi:=fun x=>[(2,.pointer (some ⟨bA,0,none⟩)),(3,.pointer (some ⟨bB,0,none⟩)),(4,.pointer (some ⟨bO,0,none⟩)),(5,.pointer (some ⟨bZ,0,none⟩)),(6,.int .i64 i),(7,.int .u64 x.2.1),(8,.int .i64 x.1)])
        (Li:=fun x=>[(bZ,.cells ⟨u64n x.2.2⟩ 358 (0,0)),(bO,.cells ⟨List.replicate 12 (.int .u64 0)⟩ 358 (0,0)),(bB,.cells ⟨bv⟩ 358 (0,0)),(bA,.cells ⟨av⟩ 358 (0,0))]) (μ:=fun x=>12 - x.1) (i0:=(0,0,z0))
      · exact ⟨by omega,by simp only;omega,hz0,hd0,by simp [Nat.mod_one]⟩
      · exact ⟨rfl,rfl,rfl,rfl,rfl,rfl,rfl,trivial⟩
      · (focus (repeat' first|exact Keep.nil _|exact Ext.one _ _|apply Keep.cons);done)
      · rintro ⟨k,ov,z⟩ ⟨hk,hov,hz,hd,hv⟩
        simp only at hk hov hz hd hv ⊢
        rcases Nat.lt_or_ge (i+k) 12 with hlt2|hge2
        · have hbk:=hgb k (by omega)
          have hb16:V / 65536 ^ k % 65536 < 65536:=Nat.mod_lt _ (by decide)
          have hpos:0+((i:Int)+(k:Int)).toNat * 1=i+k:=by omega
          have hzk:(u64n z)[0+((i:Int)+(k:Int)).toNat * 1]? = some (.int .u64 (z.getD (i+k) 0:Nat)):=by rw [hpos];exact u64n_get (by omega)
          have hzm:z.getD (i+k) 0 < 65536:=hd _ (by rw [List.getD_eq_getElem?_getD,List.getElem?_eq_getElem (by omega)];exact List.getElem_mem _)
          have hvs:=fun x=>val_set z (i+k) x (by omega)
          have hstep:=@inner_step (val z)
          generalize z.getD (i+k) 0=zk at *
          have hst:=fun Z'=>@inner_step (val z) Z' (val z0) ov a V zk i k
          generalize V / 65536 ^ k % 65536=b at *
          have hab:a * b≤65535 * 65535:=Nat.mul_le_mul (by omega) (by omega)
          have hcast:((a * b:Nat):Int)=(a:Int) * (b:Int):=by push_cast;rfl
          have hab2:(a:Int) * (b:Int)≤4294836225:=by rw [← hcast];omega
          have hab0:0≤(a:Int) * (b:Int):=by rw [← hcast];omega
          have hset:setE (u64n z) (0+((i:Int)+(k:Int)).toNat * 1) [.int .u64 (((ov:Int)+(zk:Int)+(a:Int) * (b:Int)) % 65536)]=some (u64n (z.set (i+k) ((ov+zk+a * b) % 65536))):=by
            rw [hpos,← u64n_set (by omega)]
            congr 3
          have hdiv:((ov:Int)+(zk:Int)+(a:Int) * (b:Int)) / 65536=(((ov+zk+a * b) / 65536:Nat):Int):=by
            rw [Int.natCast_ediv,Int.natCast_add,Int.natCast_add,Int.natCast_mul];rfl
          repeat' (first|(apply R.is1;first|(apply R.isBin;(apply R.pure;exact rfl;first|(apply Ok1.quoU;exact rfl;exact rfl;omega;omega;omega)|(apply Ok1.add64;exact rfl;exact rfl;omega;omega)|(apply Ok1.lss_t;exact rfl;exact rfl;omega)|(apply Ok1.remN;exact rfl;exact rfl;omega;omega)))|(apply R.pure;exact rfl;first|(apply Ok1.move;exact rfl)|(apply Ok1.assign;exact rfl)|(apply Ok1.indexAddrA;(iterate 5 exact rfl);omega;omega)))|(apply R.is0;(apply R.store;(iterate 6 exact rfl);exact Upd.head;exact hset))|apply R.nil|(apply T.is;first|(apply T.drawC (id:=9) [0,2,3] (by decide);((apply A.tk 0;exact rfl;kernel_rfl;(apply Ok1.move;exact rfl))<;>(apply A.tk 1;exact rfl;kernel_rfl;(apply Ok1.move;exact rfl))<;>(apply A.tk 2;exact rfl;kernel_rfl;(apply Ok1.move;exact rfl))<;>(apply A.tk 3;exact rfl;kernel_rfl;(apply Ok1.add64;exact rfl;exact rfl;omega;omega))<;>(apply A.tk 4;exact rfl;kernel_rfl;(apply Ok1.indexAddrA;(iterate 5 exact rfl);omega;omega))<;>(apply A.tk 5;exact rfl;kernel_rfl;(apply Ok1.load;exact rfl;apply Ld.own1;exact rfl;exact rfl;exact At.head;with_reducible (exact hzk)))<;>(apply A.tk 6;exact rfl;kernel_rfl;(apply Ok1.addU;exact rfl;exact rfl;omega;omega))<;>(apply A.tk 7;exact rfl;kernel_rfl;(apply Ok1.move;exact rfl))<;>(apply A.tk 8;exact rfl;kernel_rfl;(apply Ok1.indexAddrA;(iterate 5 exact rfl);omega;omega))<;>(apply A.tk 9;exact rfl;kernel_rfl;(apply Ok1.load;exact rfl;apply Ld.own1;exact rfl;exact rfl;(focus (repeat' first|exact At.head|apply At.tail);done);with_reducible (exact hai)))<;>(apply A.tk 10;exact rfl;kernel_rfl;(apply Ok1.move;exact rfl))<;>(apply A.tk 11;exact rfl;kernel_rfl;(apply Ok1.indexAddrA;(iterate 5 exact rfl);omega;omega))<;>(apply A.tk 12;exact rfl;kernel_rfl;(apply Ok1.load;exact rfl;apply Ld.own1;exact rfl;exact rfl;(focus (repeat' first|exact At.head|apply At.tail);done);with_reducible (exact hbk)))<;>(apply A.tk 13;exact rfl;kernel_rfl;(apply Ok1.mulU;exact rfl;exact rfl;omega;omega))<;>(apply A.tk 14;exact rfl;kernel_rfl;(apply Ok1.addU;exact rfl;exact rfl;omega;omega))<;>(apply A.tk 15;exact rfl;kernel_rfl;(apply Ok1.assign;exact rfl))<;>(apply A.done;kernel_rfl)))|apply T.seq|apply T.region|apply T.block|apply T.skip|(apply T.cond_t;exact rfl)))
          refine ⟨(k+1,(ov+zk+a * b) / 65536,z.set (i+k) ((ov+zk+a * b) % 65536)),⟨by simp only;omega,by simp only;omega,by simp only [List.length_set];exact hz,?_,hst _ (hvs _) hv⟩,by simp only;omega,⟨rfl,rfl,rfl,rfl,rfl,congrArg (fun z=>some (Value.int .u64 z)) hdiv,rfl,trivial⟩,?_⟩
          · intro d hdm
            rcases List.mem_or_eq_of_mem_set hdm with h|rfl
            · exact hd d h
            · exact Nat.mod_lt _ (by decide)
          · (focus (repeat' first|exact Keep.nil _|exact Ext.one _ _|apply Keep.cons);done)
        · have he:i+k=12:=by omega
          have hk2:k=12 - i:=by omega
          rw [he,hk2] at hv
          have hv2:=hout _ _ hv
          repeat' (first|(apply R.is1;first|(apply R.isBin;(apply R.pure;exact rfl;first|(apply Ok1.add64;exact rfl;exact rfl;omega;omega)|(apply Ok1.lss_f;exact rfl;exact rfl;omega)))|(apply R.pure;exact rfl;first|(apply Ok1.move;exact rfl)|(apply Ok1.assign;exact rfl)))|apply R.nil|(apply T.is;first|apply T.seq|apply T.region|apply T.exit|(apply T.cond_f;exact rfl)))
          exact ⟨(i+1,z),⟨by simp only;omega,hz,hd,hv2⟩,by simp only;omega,⟨rfl,rfl,rfl,rfl,rfl,trivial⟩,by (focus (repeat' first|exact Keep.nil _|exact Ext.one _ _|apply Keep.cons);done)⟩
    · have he:i=12:=by omega
      subst he
      have hfin:u64n z0=u64n (dig 12 (U * V)):=by
        have h1:=dig_val hd0
        rw [hz0] at h1
        rw [← h1,← dig_mod 12 (val z0),hv0,Nat.mod_mul_mod,dig_mod]
      rw [← hfin]
      have hl:(u64n z0).length=12:=by rw [u64n_len,hz0]
      have ho:=u64n_one z0
      repeat' (first|(apply R.is1;first|(apply R.isBin;(apply R.pure;exact rfl;(apply Ok1.lss_f;exact rfl;exact rfl;omega)))|(apply R.pure;exact rfl;first|(apply Ok1.load;exact rfl;apply Ld.ownk;exact rfl;exact rfl;exact At.head;exact subE_all hl)|(apply Ok1.move;exact rfl)))|(apply R.is0;(apply R.store;(iterate 4 exact rfl);exact hl;exact ho;(focus (repeat' first|exact Upd.head|apply Upd.tail);done);exact setE_all hl))|apply R.nil|(apply T.is;first|apply T.seq|apply T.region|apply T.exit|apply T.ret|(apply T.cond_f;exact rfl)))
      apply RetOk.c
      exact rfl
      apply Ld.ownk
      exact rfl
      exact rfl
      (focus (repeat' first|exact At.head|apply At.tail);done)
      exact subE_all hl
      rfl
theorem dig_shift (n v:Nat):dig (n+1) (65536 * v)=0::dig n v:=by
  simp only [dig]
  rw [Nat.mul_mod_right,Nat.mul_div_cancel_left v (by decide)]
theorem dig_zero (n:Nat):dig n 0=List.replicate n 0:=by
  induction n with
  | zero=>rfl
  | succ n ih=>simp [dig,ih,List.replicate_succ]
theorem dig_one (n p:Nat) (h:p < 65536):dig (n+1) p=p::List.replicate n 0:=by
  simp only [dig]
  rw [Nat.mod_eq_of_lt h,Nat.div_eq_of_lt h,dig_zero]
theorem top4 (p:Nat) (h:p < 65536):dig 12 (p * 65536 ^ 4)=[0,0,0,0,p,0,0,0,0,0,0,0]:=by
  rw [show p * 65536 ^ 4=65536 * (65536 * (65536 * (65536 * p))) by omega,dig_shift,dig_shift,dig_shift,dig_shift,dig_one _ _ h]
  rfl
theorem top6 (p:Nat) (h:p < 65536):dig 12 (p * 65536 ^ 6)=[0,0,0,0,0,0,p,0,0,0,0,0]:=by
  rw [show p * 65536 ^ 6=65536 * (65536 * (65536 * (65536 * (65536 * (65536 * p))))) by omega,dig_shift,dig_shift,dig_shift,dig_shift,dig_shift,dig_shift,dig_one _ _ h]
  rfl
theorem cmp_step {X T i:Nat} (h:X / 65536 ^ (i+1)=T / 65536 ^ (i+1)) :
    (X / 65536 ^ i % 65536=T / 65536 ^ i % 65536→X / 65536 ^ i=T / 65536 ^ i)∧(X / 65536 ^ i % 65536 < T / 65536 ^ i % 65536→X≤T)∧(T / 65536 ^ i % 65536 < X / 65536 ^ i % 65536→¬ X≤T):=by
  rw [Nat.pow_succ,← Nat.div_div_eq_div_mul,← Nat.div_div_eq_div_mul] at h
  have hm:∀ {a b:Nat},a / 65536 ^ i < b / 65536 ^ i→a < b:=by
    intro a b hab
    apply Nat.lt_of_not_le
    intro hba
    have:=Nat.div_le_div_right (c:=65536 ^ i) hba
    omega
  refine ⟨fun e=>by omega,fun e=>Nat.le_of_lt (hm (by omega)),fun e=>Nat.not_le_of_lt (hm (by omega))⟩
theorem small_2 (y p X TT:Nat) (hy:y < 137438953472) (hp:p < 65536) (hX:X=y * y) (hT:TT=p * 65536 ^ 4):CallP Tryz.prog 155 [.int .u64 y,.int .u64 2,.int .u64 p] (.bool (decide (X≤TT))):=by
  refine enterP (tb:=tb) Tryz.func155 rfl Tryz.ntmps155 rfl fun w=>?_
  obtain ⟨D,hD⟩:∃ D:Nat→List Value,D=fun v=>u64n (dig 12 v):=⟨_,rfl⟩
  have hpa:CallP Tryz.prog 205 [.int .u64 y] (.agg ⟨D y⟩):=by rw [hD];exact parts_ok y (by omega)
  have hti:∀ a b,CallP Tryz.prog 206 [.agg ⟨D a⟩,.agg ⟨D b⟩] (.agg ⟨D (a * b)⟩):=by intro a b;rw [hD];exact times_ok a b
  have hDl:∀ v,(D v).length=12:=by intro v;rw [hD];simp only [u64n_len,dig_len]
  have hDo:∀ v,(D v).all Value.oneCell'=true:=by intro v;rw [hD];exact u64n_one _
  have hDg:∀ (v i:Nat),i < 12→∀ j:Int,j=(i:Int)→(D v)[0+j.toNat * 1]? = some (.int .u64 (v / 65536 ^ i % 65536:Nat)):=by
    intro v i hi j hj
    subst hj
    rw [hD,← dig_get 12 v i hi,show 0+(i:Int).toNat * 1=i by omega];exact u64n_get (by rw [dig_len];exact hi)
  have ht4:setE [.int .u64 0,.int .u64 0,.int .u64 0,.int .u64 0,.int .u64 0,.int .u64 0,.int .u64 0,.int .u64 0,.int .u64 0,.int .u64 0,.int .u64 0,.int .u64 0] 4 [.int .u64 (p:Int)]=some (D TT):=by
    rw [hD,hT];simp only [top4 p hp];rfl
  have hb1:y * y < 137438953472 * 137438953472:=Nat.mul_lt_mul'' hy hy
  have hb2:y * y * y < 137438953472 * 137438953472 * 137438953472:=Nat.mul_lt_mul'' hb1 hy
  have hXb:X < 65536 ^ 12:=by rw [hX];omega
  have hTb:TT < 65536 ^ 12:=by rw [hT];omega
  have hti1:=hti y y
  rw [← hX] at hti1
  clear hD hti hT hX hb1 hb2
  repeat' (first|(apply R.is1;first|(apply R.isCall;apply R.callP rfl rfl rfl hpa)|(apply R.pure;exact rfl;first|(apply Ok1.move;exact rfl)|(apply Ok1.assign;exact rfl))|(apply R.alloc;(iterate 3 exact rfl);intro))|(apply R.is0;(apply R.store;(iterate 4 exact rfl);exact hDl _;exact hDo _;exact Upd.head;exact setE_all (hDl _)))|apply R.nil|(apply T.is;first|apply T.seq|apply T.region|apply T.block))
  apply T.rounds 3
  repeat' (first|(apply R.is1;first|(apply R.isBin;(apply R.pure;exact rfl;first|(apply Ok1.mulU;exact rfl;exact rfl;omega;omega)|(apply Ok1.addU;exact rfl;exact rfl;omega;omega)|(apply Ok1.lss_t;exact rfl;exact rfl;omega)|(apply Ok1.lss_f;exact rfl;exact rfl;omega)))|(apply R.pure;exact rfl;first|(apply Ok1.move;exact rfl)|(apply Ok1.assign;exact rfl)|(apply Ok1.indexAddrA;(iterate 5 exact rfl);omega;omega)|(apply Ok1.buildA;(iterate 6 exact rfl)))|(apply R.alloc;(iterate 3 exact rfl);intro))|(apply R.is0;first|(apply R.store;(iterate 6 exact rfl);exact Upd.head;exact ht4)|(apply R.store;(iterate 6 exact rfl);exact Upd.head;exact rfl))|apply R.nil|(apply T.is;first|(apply T.drawC (id:=5) [] (by decide);((apply A.tk 1;exact rfl;kernel_rfl;(apply Ok1.move;exact rfl))<;>(apply A.call 2;exact rfl;exact rfl;kernel_rfl;kernel_rfl;kernel_rfl;exact rfl;exact rfl;(exact fun w1 _=>hpa.w w1))<;>(apply A.one 0;kernel_rfl;exact rfl;(((apply R.pure;exact rfl;(apply Ok1.load;exact rfl;apply Ld.ownk;exact rfl;exact rfl;exact At.head;exact subE_all (hDl _)))));apply R.nil;refine ⟨?_,?_⟩;(focus ((repeat' (exact trivial)))))<;>(apply A.call 3;exact rfl;exact rfl;kernel_rfl;kernel_rfl;kernel_rfl;exact rfl;exact rfl;(exact fun w1 _=>hti1.w w1))<;>(apply A.one 4;kernel_rfl;exact rfl;(((apply R.store;(iterate 4 exact rfl);exact hDl _;exact hDo _;exact Upd.head;exact setE_all ((hDl _).trans (hDl _).symm))));apply R.nil;refine ⟨?_,?_⟩;(focus ((repeat' (exact trivial)))))<;>(apply A.done;kernel_rfl)))|apply T.seq|apply T.region|apply T.block|apply T.skip|apply T.exit|(apply T.cond_t;exact rfl)|(apply T.cond_f;exact rfl)))
  rename_i bX bT
  have hb0:X / 65536 ^ 12=TT / 65536 ^ 12:=by rw [Nat.div_eq_of_lt hXb,Nat.div_eq_of_lt hTb]
  apply T.loopK (α:=Nat) (I:=fun m=>m≤12∧X / 65536 ^ m=TT / 65536 ^ m) (σi:=fun m=>[(7,.pointer (some ⟨bX,0,none⟩)),(9,.pointer (some ⟨bT,0,none⟩)),(10,.int .i64 ((m:Int) - 1))])
    (Li:=fun _=>[(bT,.cells ⟨D TT⟩ 358 (0,0)),(bX,.cells ⟨D X⟩ 358 (0,0))]) (μ:=fun m=>m) (i0:=12)
  · exact ⟨Nat.le_refl _,hb0⟩
  · exact ⟨rfl,rfl,rfl,trivial⟩
  · (focus (repeat' first|exact Keep.nil _|exact Ext.one _ _|apply Keep.cons);done)
  · rintro m ⟨hm,hq⟩
    cases m with
    | zero =>
      repeat' (first|(apply R.is1;first|(apply R.isBin;(apply R.pure;exact rfl;(apply Ok1.geq_f;exact rfl;exact rfl;omega)))|(apply R.pure;exact rfl;first|(apply Ok1.move;exact rfl)|(apply Ok1.assign;exact rfl)))|apply R.nil|(apply T.is;first|apply T.seq|apply T.region|apply T.exit|apply T.ret|(apply T.cond_f;exact rfl)))
      (apply RetOk.t;exact rfl)
      simp only [Nat.pow_zero,Nat.div_one] at hq
      rw [decide_eq_true (Nat.le_of_eq hq)]
    | succ i =>
      obtain ⟨h1,h2,h3⟩:=cmp_step hq
      have gx:=hDg X i (by omega) (((i+1:Nat):Int) - 1) (by omega)
      have gt:=hDg TT i (by omega) (((i+1:Nat):Int) - 1) (by omega)
      generalize X / 65536 ^ i % 65536=xi at *
      generalize TT / 65536 ^ i % 65536=ti at *
      rcases Nat.lt_trichotomy xi ti with hc|hc|hc
      · repeat' (first|(apply R.is1;first|(apply R.isBin;(apply R.pure;exact rfl;(apply Ok1.geq_t;exact rfl;exact rfl;omega)))|(apply R.pure;exact rfl;(apply Ok1.move;exact rfl)))|apply R.nil|(apply T.is;first|(apply T.drawC (id:=11) [0,1] (by decide);((apply A.tk 0;exact rfl;kernel_rfl;(apply Ok1.move;exact rfl))<;>(apply A.tk 1;exact rfl;kernel_rfl;(apply Ok1.indexAddrA;(iterate 5 exact rfl);omega;omega))<;>(apply A.tk 2;exact rfl;kernel_rfl;(apply Ok1.load;exact rfl;apply Ld.own1;exact rfl;exact rfl;(focus (repeat' first|exact At.head|apply At.tail);done);with_reducible (exact gx)))<;>(apply A.tk 3;exact rfl;kernel_rfl;(apply Ok1.move;exact rfl))<;>(apply A.tk 4;exact rfl;kernel_rfl;(apply Ok1.indexAddrA;(iterate 5 exact rfl);omega;omega))<;>(apply A.tk 5;exact rfl;kernel_rfl;(apply Ok1.load;exact rfl;apply Ld.own1;exact rfl;exact rfl;exact At.head;with_reducible (exact gt)))<;>((apply A.tk 6;exact rfl;kernel_rfl;(apply Ok1.neq_t;exact rfl;exact rfl;omega)))<;>(apply A.done;kernel_rfl)))|(apply T.drawC (id:=12) [0,1] (by decide);((apply A.tk 0;exact rfl;kernel_rfl;(apply Ok1.move;exact rfl))<;>(apply A.tk 1;exact rfl;kernel_rfl;(apply Ok1.indexAddrA;(iterate 5 exact rfl);omega;omega))<;>(apply A.tk 2;exact rfl;kernel_rfl;(apply Ok1.load;exact rfl;apply Ld.own1;exact rfl;exact rfl;(focus (repeat' first|exact At.head|apply At.tail);done);with_reducible (exact gx)))<;>(apply A.tk 3;exact rfl;kernel_rfl;(apply Ok1.move;exact rfl))<;>(apply A.tk 4;exact rfl;kernel_rfl;(apply Ok1.indexAddrA;(iterate 5 exact rfl);omega;omega))<;>(apply A.tk 5;exact rfl;kernel_rfl;(apply Ok1.load;exact rfl;apply Ld.own1;exact rfl;exact rfl;exact At.head;with_reducible (exact gt)))<;>((apply A.tk 6;exact rfl;kernel_rfl;(apply Ok1.lss_t;exact rfl;exact rfl;omega)))<;>(apply A.tk 7;exact rfl;kernel_rfl;(apply Ok1.assign;exact rfl))<;>(apply A.done;kernel_rfl)))|apply T.seq|apply T.region|apply T.block|apply T.skip|apply T.ret|(apply T.cond_t;exact rfl)))
        (apply RetOk.t;exact rfl)
        rw [decide_eq_true (h2 hc)]
      · repeat' (first|(apply R.is1;first|(apply R.isBin;(apply R.pure;exact rfl;first|(apply Ok1.sub64;exact rfl;exact rfl;omega;omega)|(apply Ok1.geq_t;exact rfl;exact rfl;omega)))|(apply R.pure;exact rfl;first|(apply Ok1.move;exact rfl)|(apply Ok1.assign;exact rfl)))|apply R.nil|(apply T.is;first|(apply T.drawC (id:=11) [0,1] (by decide);((apply A.tk 0;exact rfl;kernel_rfl;(apply Ok1.move;exact rfl))<;>(apply A.tk 1;exact rfl;kernel_rfl;(apply Ok1.indexAddrA;(iterate 5 exact rfl);omega;omega))<;>(apply A.tk 2;exact rfl;kernel_rfl;(apply Ok1.load;exact rfl;apply Ld.own1;exact rfl;exact rfl;(focus (repeat' first|exact At.head|apply At.tail);done);with_reducible (exact gx)))<;>(apply A.tk 3;exact rfl;kernel_rfl;(apply Ok1.move;exact rfl))<;>(apply A.tk 4;exact rfl;kernel_rfl;(apply Ok1.indexAddrA;(iterate 5 exact rfl);omega;omega))<;>(apply A.tk 5;exact rfl;kernel_rfl;(apply Ok1.load;exact rfl;apply Ld.own1;exact rfl;exact rfl;exact At.head;with_reducible (exact gt)))<;>((apply A.tk 6;exact rfl;kernel_rfl;(apply Ok1.neq_f;exact rfl;exact rfl;omega)))<;>(apply A.done;kernel_rfl)))|apply T.seq|apply T.region|apply T.block|apply T.skip|(apply T.cond_t;exact rfl)|(apply T.cond_f;exact rfl)))
        refine ⟨i,⟨by omega,h1 hc⟩,by omega,⟨rfl,rfl,?_,trivial⟩,by (focus (repeat' first|exact Keep.nil _|exact Ext.one _ _|apply Keep.cons);done)⟩
        exact congrArg (fun z=>some (Value.int .i64 z)) (by omega)
      · repeat' (first|(apply R.is1;first|(apply R.isBin;(apply R.pure;exact rfl;(apply Ok1.geq_t;exact rfl;exact rfl;omega)))|(apply R.pure;exact rfl;(apply Ok1.move;exact rfl)))|apply R.nil|(apply T.is;first|(apply T.drawC (id:=11) [0,1] (by decide);((apply A.tk 0;exact rfl;kernel_rfl;(apply Ok1.move;exact rfl))<;>(apply A.tk 1;exact rfl;kernel_rfl;(apply Ok1.indexAddrA;(iterate 5 exact rfl);omega;omega))<;>(apply A.tk 2;exact rfl;kernel_rfl;(apply Ok1.load;exact rfl;apply Ld.own1;exact rfl;exact rfl;(focus (repeat' first|exact At.head|apply At.tail);done);with_reducible (exact gx)))<;>(apply A.tk 3;exact rfl;kernel_rfl;(apply Ok1.move;exact rfl))<;>(apply A.tk 4;exact rfl;kernel_rfl;(apply Ok1.indexAddrA;(iterate 5 exact rfl);omega;omega))<;>(apply A.tk 5;exact rfl;kernel_rfl;(apply Ok1.load;exact rfl;apply Ld.own1;exact rfl;exact rfl;exact At.head;with_reducible (exact gt)))<;>((apply A.tk 6;exact rfl;kernel_rfl;(apply Ok1.neq_t;exact rfl;exact rfl;omega)))<;>(apply A.done;kernel_rfl)))|(apply T.drawC (id:=12) [0,1] (by decide);((apply A.tk 0;exact rfl;kernel_rfl;(apply Ok1.move;exact rfl))<;>(apply A.tk 1;exact rfl;kernel_rfl;(apply Ok1.indexAddrA;(iterate 5 exact rfl);omega;omega))<;>(apply A.tk 2;exact rfl;kernel_rfl;(apply Ok1.load;exact rfl;apply Ld.own1;exact rfl;exact rfl;(focus (repeat' first|exact At.head|apply At.tail);done);with_reducible (exact gx)))<;>(apply A.tk 3;exact rfl;kernel_rfl;(apply Ok1.move;exact rfl))<;>(apply A.tk 4;exact rfl;kernel_rfl;(apply Ok1.indexAddrA;(iterate 5 exact rfl);omega;omega))<;>(apply A.tk 5;exact rfl;kernel_rfl;(apply Ok1.load;exact rfl;apply Ld.own1;exact rfl;exact rfl;exact At.head;with_reducible (exact gt)))<;>((apply A.tk 6;exact rfl;kernel_rfl;(apply Ok1.lss_f;exact rfl;exact rfl;omega)))<;>(apply A.tk 7;exact rfl;kernel_rfl;(apply Ok1.assign;exact rfl))<;>(apply A.done;kernel_rfl)))|apply T.seq|apply T.region|apply T.block|apply T.skip|apply T.ret|(apply T.cond_t;exact rfl)))
        (apply RetOk.t;exact rfl)
        rw [decide_eq_false (h3 hc)]
theorem small_3 (y p X TT:Nat) (hy:y < 137438953472) (hp:p < 65536) (hX:X=y * y * y) (hT:TT=p * 65536 ^ 6):CallP Tryz.prog 155 [.int .u64 y,.int .u64 3,.int .u64 p] (.bool (decide (X≤TT))):=by
  refine enterP (tb:=tb) Tryz.func155 rfl Tryz.ntmps155 rfl fun w=>?_
  obtain ⟨D,hD⟩:∃ D:Nat→List Value,D=fun v=>u64n (dig 12 v):=⟨_,rfl⟩
  have hpa:CallP Tryz.prog 205 [.int .u64 y] (.agg ⟨D y⟩):=by rw [hD];exact parts_ok y (by omega)
  have hti:∀ a b,CallP Tryz.prog 206 [.agg ⟨D a⟩,.agg ⟨D b⟩] (.agg ⟨D (a * b)⟩):=by intro a b;rw [hD];exact times_ok a b
  have hDl:∀ v,(D v).length=12:=by intro v;rw [hD];simp only [u64n_len,dig_len]
  have hDo:∀ v,(D v).all Value.oneCell'=true:=by intro v;rw [hD];exact u64n_one _
  have hDg:∀ (v i:Nat),i < 12→∀ j:Int,j=(i:Int)→(D v)[0+j.toNat * 1]? = some (.int .u64 (v / 65536 ^ i % 65536:Nat)):=by
    intro v i hi j hj
    subst hj
    rw [hD,← dig_get 12 v i hi,show 0+(i:Int).toNat * 1=i by omega];exact u64n_get (by rw [dig_len];exact hi)
  have ht6:setE [.int .u64 0,.int .u64 0,.int .u64 0,.int .u64 0,.int .u64 0,.int .u64 0,.int .u64 0,.int .u64 0,.int .u64 0,.int .u64 0,.int .u64 0,.int .u64 0] 6 [.int .u64 (p:Int)]=some (D TT):=by
    rw [hD,hT];simp only [top6 p hp];rfl
  have hb1:y * y < 137438953472 * 137438953472:=Nat.mul_lt_mul'' hy hy
  have hb2:y * y * y < 137438953472 * 137438953472 * 137438953472:=Nat.mul_lt_mul'' hb1 hy
  have hXb:X < 65536 ^ 12:=by rw [hX];omega
  have hTb:TT < 65536 ^ 12:=by rw [hT];omega
  have hti1:=hti y y
  have hti2:=hti (y * y) y
  rw [← hX] at hti2
  generalize y * y=yy at *
  clear hD hti hT hX hb1 hb2
  repeat' (first|(apply R.is1;first|(apply R.isCall;apply R.callP rfl rfl rfl hpa)|(apply R.pure;exact rfl;first|(apply Ok1.move;exact rfl)|(apply Ok1.assign;exact rfl))|(apply R.alloc;(iterate 3 exact rfl);intro))|(apply R.is0;(apply R.store;(iterate 4 exact rfl);exact hDl _;exact hDo _;exact Upd.head;exact setE_all (hDl _)))|apply R.nil|(apply T.is;first|apply T.seq|apply T.region|apply T.block))
  apply T.rounds 3
  repeat' (first|(apply R.is1;first|(apply R.isBin;(apply R.pure;exact rfl;first|(apply Ok1.mulU;exact rfl;exact rfl;omega;omega)|(apply Ok1.addU;exact rfl;exact rfl;omega;omega)|(apply Ok1.lss_t;exact rfl;exact rfl;omega)|(apply Ok1.lss_f;exact rfl;exact rfl;omega)))|(apply R.pure;exact rfl;first|(apply Ok1.move;exact rfl)|(apply Ok1.assign;exact rfl)|(apply Ok1.indexAddrA;(iterate 5 exact rfl);omega;omega)|(apply Ok1.buildA;(iterate 6 exact rfl)))|(apply R.alloc;(iterate 3 exact rfl);intro))|(apply R.is0;first|(apply R.store;(iterate 6 exact rfl);exact Upd.head;exact ht6)|(apply R.store;(iterate 6 exact rfl);exact Upd.head;exact rfl))|apply R.nil|(apply T.is;first|(apply T.drawC (id:=5) [] (by decide);((apply A.tk 1;exact rfl;kernel_rfl;(apply Ok1.move;exact rfl))<;>(apply A.call 2;exact rfl;exact rfl;kernel_rfl;kernel_rfl;kernel_rfl;exact rfl;exact rfl;(exact fun w1 _=>hpa.w w1))<;>(apply A.one 0;kernel_rfl;exact rfl;(((apply R.pure;exact rfl;(apply Ok1.load;exact rfl;apply Ld.ownk;exact rfl;exact rfl;exact At.head;exact subE_all (hDl _)))));apply R.nil;refine ⟨?_,?_⟩;(focus ((repeat' (exact trivial)))))<;>(apply A.call 3;exact rfl;exact rfl;kernel_rfl;kernel_rfl;kernel_rfl;exact rfl;exact rfl;first|(exact fun w1 _=>hti1.w w1)|(exact fun w1 _=>hti2.w w1))<;>(apply A.one 4;kernel_rfl;exact rfl;(((apply R.store;(iterate 4 exact rfl);exact hDl _;exact hDo _;exact Upd.head;exact setE_all ((hDl _).trans (hDl _).symm))));apply R.nil;refine ⟨?_,?_⟩;(focus ((repeat' (exact trivial)))))<;>(apply A.done;kernel_rfl)))|apply T.seq|apply T.region|apply T.block|apply T.skip|apply T.exit|(apply T.cond_t;exact rfl)|(apply T.cond_f;exact rfl)))
  rename_i bX bT
  have hb0:X / 65536 ^ 12=TT / 65536 ^ 12:=by rw [Nat.div_eq_of_lt hXb,Nat.div_eq_of_lt hTb]
  apply T.loopK (α:=Nat) (I:=fun m=>m≤12∧X / 65536 ^ m=TT / 65536 ^ m) (σi:=fun m=>[(7,.pointer (some ⟨bX,0,none⟩)),(9,.pointer (some ⟨bT,0,none⟩)),(10,.int .i64 ((m:Int) - 1))])
    (Li:=fun _=>[(bT,.cells ⟨D TT⟩ 358 (0,0)),(bX,.cells ⟨D X⟩ 358 (0,0))]) (μ:=fun m=>m) (i0:=12)
  · exact ⟨Nat.le_refl _,hb0⟩
  · exact ⟨rfl,rfl,rfl,trivial⟩
  · (focus (repeat' first|exact Keep.nil _|exact Ext.one _ _|apply Keep.cons);done)
  · rintro m ⟨hm,hq⟩
    cases m with
    | zero =>
      repeat' (first|(apply R.is1;first|(apply R.isBin;(apply R.pure;exact rfl;(apply Ok1.geq_f;exact rfl;exact rfl;omega)))|(apply R.pure;exact rfl;first|(apply Ok1.move;exact rfl)|(apply Ok1.assign;exact rfl)))|apply R.nil|(apply T.is;first|apply T.seq|apply T.region|apply T.exit|apply T.ret|(apply T.cond_f;exact rfl)))
      (apply RetOk.t;exact rfl)
      simp only [Nat.pow_zero,Nat.div_one] at hq
      rw [decide_eq_true (Nat.le_of_eq hq)]
    | succ i =>
      obtain ⟨h1,h2,h3⟩:=cmp_step hq
      have gx:=hDg X i (by omega) (((i+1:Nat):Int) - 1) (by omega)
      have gt:=hDg TT i (by omega) (((i+1:Nat):Int) - 1) (by omega)
      generalize X / 65536 ^ i % 65536=xi at *
      generalize TT / 65536 ^ i % 65536=ti at *
      rcases Nat.lt_trichotomy xi ti with hc|hc|hc
      · repeat' (first|(apply R.is1;first|(apply R.isBin;(apply R.pure;exact rfl;(apply Ok1.geq_t;exact rfl;exact rfl;omega)))|(apply R.pure;exact rfl;(apply Ok1.move;exact rfl)))|apply R.nil|(apply T.is;first|(apply T.drawC (id:=11) [0,1] (by decide);((apply A.tk 0;exact rfl;kernel_rfl;(apply Ok1.move;exact rfl))<;>(apply A.tk 1;exact rfl;kernel_rfl;(apply Ok1.indexAddrA;(iterate 5 exact rfl);omega;omega))<;>(apply A.tk 2;exact rfl;kernel_rfl;(apply Ok1.load;exact rfl;apply Ld.own1;exact rfl;exact rfl;(focus (repeat' first|exact At.head|apply At.tail);done);with_reducible (exact gx)))<;>(apply A.tk 3;exact rfl;kernel_rfl;(apply Ok1.move;exact rfl))<;>(apply A.tk 4;exact rfl;kernel_rfl;(apply Ok1.indexAddrA;(iterate 5 exact rfl);omega;omega))<;>(apply A.tk 5;exact rfl;kernel_rfl;(apply Ok1.load;exact rfl;apply Ld.own1;exact rfl;exact rfl;exact At.head;with_reducible (exact gt)))<;>((apply A.tk 6;exact rfl;kernel_rfl;(apply Ok1.neq_t;exact rfl;exact rfl;omega)))<;>(apply A.done;kernel_rfl)))|(apply T.drawC (id:=12) [0,1] (by decide);((apply A.tk 0;exact rfl;kernel_rfl;(apply Ok1.move;exact rfl))<;>(apply A.tk 1;exact rfl;kernel_rfl;(apply Ok1.indexAddrA;(iterate 5 exact rfl);omega;omega))<;>(apply A.tk 2;exact rfl;kernel_rfl;(apply Ok1.load;exact rfl;apply Ld.own1;exact rfl;exact rfl;(focus (repeat' first|exact At.head|apply At.tail);done);with_reducible (exact gx)))<;>(apply A.tk 3;exact rfl;kernel_rfl;(apply Ok1.move;exact rfl))<;>(apply A.tk 4;exact rfl;kernel_rfl;(apply Ok1.indexAddrA;(iterate 5 exact rfl);omega;omega))<;>(apply A.tk 5;exact rfl;kernel_rfl;(apply Ok1.load;exact rfl;apply Ld.own1;exact rfl;exact rfl;exact At.head;with_reducible (exact gt)))<;>((apply A.tk 6;exact rfl;kernel_rfl;(apply Ok1.lss_t;exact rfl;exact rfl;omega)))<;>(apply A.tk 7;exact rfl;kernel_rfl;(apply Ok1.assign;exact rfl))<;>(apply A.done;kernel_rfl)))|apply T.seq|apply T.region|apply T.block|apply T.skip|apply T.ret|(apply T.cond_t;exact rfl)))
        (apply RetOk.t;exact rfl)
        rw [decide_eq_true (h2 hc)]
      · repeat' (first|(apply R.is1;first|(apply R.isBin;(apply R.pure;exact rfl;first|(apply Ok1.sub64;exact rfl;exact rfl;omega;omega)|(apply Ok1.geq_t;exact rfl;exact rfl;omega)))|(apply R.pure;exact rfl;first|(apply Ok1.move;exact rfl)|(apply Ok1.assign;exact rfl)))|apply R.nil|(apply T.is;first|(apply T.drawC (id:=11) [0,1] (by decide);((apply A.tk 0;exact rfl;kernel_rfl;(apply Ok1.move;exact rfl))<;>(apply A.tk 1;exact rfl;kernel_rfl;(apply Ok1.indexAddrA;(iterate 5 exact rfl);omega;omega))<;>(apply A.tk 2;exact rfl;kernel_rfl;(apply Ok1.load;exact rfl;apply Ld.own1;exact rfl;exact rfl;(focus (repeat' first|exact At.head|apply At.tail);done);with_reducible (exact gx)))<;>(apply A.tk 3;exact rfl;kernel_rfl;(apply Ok1.move;exact rfl))<;>(apply A.tk 4;exact rfl;kernel_rfl;(apply Ok1.indexAddrA;(iterate 5 exact rfl);omega;omega))<;>(apply A.tk 5;exact rfl;kernel_rfl;(apply Ok1.load;exact rfl;apply Ld.own1;exact rfl;exact rfl;exact At.head;with_reducible (exact gt)))<;>((apply A.tk 6;exact rfl;kernel_rfl;(apply Ok1.neq_f;exact rfl;exact rfl;omega)))<;>(apply A.done;kernel_rfl)))|apply T.seq|apply T.region|apply T.block|apply T.skip|(apply T.cond_t;exact rfl)|(apply T.cond_f;exact rfl)))
        refine ⟨i,⟨by omega,h1 hc⟩,by omega,⟨rfl,rfl,?_,trivial⟩,by (focus (repeat' first|exact Keep.nil _|exact Ext.one _ _|apply Keep.cons);done)⟩
        exact congrArg (fun z=>some (Value.int .i64 z)) (by omega)
      · repeat' (first|(apply R.is1;first|(apply R.isBin;(apply R.pure;exact rfl;(apply Ok1.geq_t;exact rfl;exact rfl;omega)))|(apply R.pure;exact rfl;(apply Ok1.move;exact rfl)))|apply R.nil|(apply T.is;first|(apply T.drawC (id:=11) [0,1] (by decide);((apply A.tk 0;exact rfl;kernel_rfl;(apply Ok1.move;exact rfl))<;>(apply A.tk 1;exact rfl;kernel_rfl;(apply Ok1.indexAddrA;(iterate 5 exact rfl);omega;omega))<;>(apply A.tk 2;exact rfl;kernel_rfl;(apply Ok1.load;exact rfl;apply Ld.own1;exact rfl;exact rfl;(focus (repeat' first|exact At.head|apply At.tail);done);with_reducible (exact gx)))<;>(apply A.tk 3;exact rfl;kernel_rfl;(apply Ok1.move;exact rfl))<;>(apply A.tk 4;exact rfl;kernel_rfl;(apply Ok1.indexAddrA;(iterate 5 exact rfl);omega;omega))<;>(apply A.tk 5;exact rfl;kernel_rfl;(apply Ok1.load;exact rfl;apply Ld.own1;exact rfl;exact rfl;exact At.head;with_reducible (exact gt)))<;>((apply A.tk 6;exact rfl;kernel_rfl;(apply Ok1.neq_t;exact rfl;exact rfl;omega)))<;>(apply A.done;kernel_rfl)))|(apply T.drawC (id:=12) [0,1] (by decide);((apply A.tk 0;exact rfl;kernel_rfl;(apply Ok1.move;exact rfl))<;>(apply A.tk 1;exact rfl;kernel_rfl;(apply Ok1.indexAddrA;(iterate 5 exact rfl);omega;omega))<;>(apply A.tk 2;exact rfl;kernel_rfl;(apply Ok1.load;exact rfl;apply Ld.own1;exact rfl;exact rfl;(focus (repeat' first|exact At.head|apply At.tail);done);with_reducible (exact gx)))<;>(apply A.tk 3;exact rfl;kernel_rfl;(apply Ok1.move;exact rfl))<;>(apply A.tk 4;exact rfl;kernel_rfl;(apply Ok1.indexAddrA;(iterate 5 exact rfl);omega;omega))<;>(apply A.tk 5;exact rfl;kernel_rfl;(apply Ok1.load;exact rfl;apply Ld.own1;exact rfl;exact rfl;exact At.head;with_reducible (exact gt)))<;>((apply A.tk 6;exact rfl;kernel_rfl;(apply Ok1.lss_f;exact rfl;exact rfl;omega)))<;>(apply A.tk 7;exact rfl;kernel_rfl;(apply Ok1.assign;exact rfl))<;>(apply A.done;kernel_rfl)))|apply T.seq|apply T.region|apply T.block|apply T.skip|apply T.ret|(apply T.cond_t;exact rfl)))
        (apply RetOk.t;exact rfl)
        rw [decide_eq_false (h3 hc)]
theorem small_ok (y n p:Nat) (hy:y < 137438953472) (hn:n=2 ∨ n=3) (hp:p < 65536):CallP Tryz.prog 155 [.int .u64 y,.int .u64 n,.int .u64 p] (.bool (decide (y ^ n≤p * 65536 ^ (2 * n)))):=by
  rcases hn with rfl|rfl
  · exact small_2 y p (y ^ 2) _ hy hp (Nat.pow_two y) rfl
  · exact small_3 y p (y ^ 3) _ hy hp (by rw [Nat.pow_succ,Nat.pow_two]) rfl
def rootI (p n:Nat):Nat→Nat→Nat
  | 0,x=>x
  | k+1,x=>if (x+2 ^ k) ^ n≤p * 65536 ^ (2 * n) then rootI p n k (x+2 ^ k) else rootI p n k x
def rootR (p n:Nat):Nat:=rootI p n 36 0 % 4294967296
theorem root_ok (p n:Nat) (hn:n=2 ∨ n=3) (hp:p < 65536):CallP Tryz.prog 82 [.int .u64 p,.int .u64 n] (.int .u32 (rootR p n)):=by
  refine enterP (tb:=tb) Tryz.func82 rfl Tryz.ntmps82 rfl fun w=>?_
  obtain ⟨V,hV⟩:∃ V,V=rootI p n 36 0:=⟨_,rfl⟩
  have hVr:rootR p n=V % 4294967296:=by rw [hV];rfl
  rw [hVr]
  repeat' (first|(apply R.is1;(apply R.pure;exact rfl;(apply Ok1.assign;exact rfl)))|apply R.nil|(apply T.is;first|apply T.seq|apply T.region|apply T.block))
  apply T.loopK (α:=Nat × Nat) (I:=fun x=>x.1≤36∧x.2+2 ^ x.1≤68719476736∧rootI p n x.1 x.2=V) (σi:=fun x=>[(0,.int .u64 p),(1,.int .u64 n),(5,.int .u64 x.2),(6,.int .i64 ((x.1:Int) - 1))]) (Li:=fun _=>[]) (μ:=fun x=>x.1) (i0:=(36,0))
  · exact ⟨by simp only;omega,by simp only;omega,hV.symm⟩
  · exact ⟨rfl,rfl,rfl,rfl,trivial⟩
  · (focus ((repeat' (exact Keep.nil _));done))
  · rintro ⟨k,x⟩ ⟨hk,hb,hr⟩
    simp only at hk hb hr ⊢
    cases k with
    | zero =>
      have hx:x=V:=hr
      subst hx
      rw [Nat.pow_zero] at hb
      repeat' (first|(apply R.is1;first|(apply R.isBin;(apply R.pure;exact rfl;first|(apply Ok1.geq_f;exact rfl;exact rfl;omega)|(apply Ok1.remN;exact rfl;exact rfl;omega;omega)))|(apply R.pure;exact rfl;first|(apply Ok1.convU32;(iterate 5 exact rfl);omega;omega)|(apply Ok1.move;exact rfl)|(apply Ok1.assign;exact rfl)))|apply R.nil|(apply T.is;first|apply T.seq|apply T.region|apply T.exit|apply T.ret|(apply T.cond_f;exact rfl)))
      (apply RetOk.t;exact rfl)
      rw [Int.natCast_emod]
      rfl
    | succ k =>
      have hpw:2 ^ (k+1)=2 * 2 ^ k:=by rw [Nat.pow_succ,Nat.mul_comm]
      have hr2:rootI p n (k+1) x=if (x+2 ^ k) ^ n≤p * 65536 ^ (2 * n) then rootI p n k (x+2 ^ k) else rootI p n k x:=rfl
      rw [hr] at hr2
      rw [hpw] at hb
      have hpos:0 < 2 ^ k:=Nat.pow_pos (by decide)
      have hsm:=small_ok (x+2 ^ k) n p (by omega) hn hp
      have hkn:(((k+1:Nat):Int) - 1).toNat=k:=by omega
      have hk0:0≤((k+1:Nat):Int) - 1:=by omega
      have hk64:(((k+1:Nat):Int) - 1).toNat≤IntKind.u64.bits:=by rw [hkn];show k≤64;omega
      have hpk:pw (((k+1:Nat):Int) - 1).toNat=((2 ^ k:Nat):Int):=by rw [hkn,pw_eq,Int.natCast_pow];rfl
      have hI:∀ x',x'+2 * 2 ^ k≤68719476736+2 ^ k→x'+2 ^ k≤68719476736:=fun x' h=>by omega
      have hx0:x+2 ^ k≤68719476736:=by omega
      have hx1:x+2 ^ k+2 ^ k≤68719476736:=by omega
      have hnxt:((k+1:Nat):Int) - 1 - 1=(k:Int) - 1:=by omega
      generalize hq:2 ^ k=q at *
      have hwr:IntKind.u64.wrap (1 * (q:Int))=(q:Int):=by rw [Int.one_mul];exact wrap_u64 (by omega) (by omega)
      have hsum:(x:Int)+(q:Int)=((x+q:Nat):Int):=by omega
      rw [← hsum] at hsm
      by_cases hle:(x+q) ^ n≤p * 65536 ^ (2 * n)
      · rw [if_pos hle] at hr2
        rw [decide_eq_true hle] at hsm
        repeat' (first|(apply R.is1;first|(apply R.isBin;(apply R.pure;exact rfl;first|(apply Ok1.shlE;exact rfl;exact rfl;exact hk0;exact hk64;exact hpk;exact hwr)|(apply Ok1.addU;exact rfl;exact rfl;omega;omega)|(apply Ok1.sub64;exact rfl;exact rfl;omega;omega)|(apply Ok1.geq_t;exact rfl;exact rfl;omega)))|(apply R.isCall;apply R.callP rfl rfl rfl hsm)|(apply R.pure;exact rfl;first|(apply Ok1.move;exact rfl)|(apply Ok1.assign;exact rfl)))|apply R.nil|(apply T.is;first|apply T.seq|apply T.region|apply T.block|apply T.skip|(apply T.cond_t;exact rfl)))
        exact ⟨(k,x+q),⟨by simp only;omega,by simp only [hq];exact hx1,hr2.symm⟩,by simp only;omega,⟨rfl,rfl,congrArg (fun z=>some (Value.int .u64 z)) hsum,congrArg (fun z=>some (Value.int .i64 z)) hnxt,trivial⟩,by (focus ((repeat' (exact Keep.nil _));done))⟩
      · rw [if_neg hle] at hr2
        rw [decide_eq_false hle] at hsm
        repeat' (first|(apply R.is1;first|(apply R.isBin;(apply R.pure;exact rfl;first|(apply Ok1.shlE;exact rfl;exact rfl;exact hk0;exact hk64;exact hpk;exact hwr)|(apply Ok1.addU;exact rfl;exact rfl;omega;omega)|(apply Ok1.sub64;exact rfl;exact rfl;omega;omega)|(apply Ok1.geq_t;exact rfl;exact rfl;omega)))|(apply R.isCall;apply R.callP rfl rfl rfl hsm)|(apply R.pure;exact rfl;first|(apply Ok1.move;exact rfl)|(apply Ok1.assign;exact rfl)))|apply R.nil|(apply T.is;first|apply T.seq|apply T.region|apply T.block|apply T.skip|(apply T.cond_t;exact rfl)|(apply T.cond_f;exact rfl)))
        exact ⟨(k,x),⟨by simp only;omega,by simp only [hq];exact hx0,hr2.symm⟩,by simp only;omega,⟨rfl,rfl,rfl,congrArg (fun z=>some (Value.int .i64 z)) hnxt,trivial⟩,by (focus ((repeat' (exact Keep.nil _));done))⟩
def pl (p:Nat):Nat→Nat→Bool→Bool
  | 0,_,b=>b
  | f+1,q,b=>if q * q≤p then pl p f (q+1) (b && !decide (p % q=0)) else b
def isP (p:Nat):Bool:=pl p 18 2 true
def PL:List Nat:=[2,3,5,7,11,13,17,19,23,29,31,37,41,43,47,53,59,61,67,71,73,79,83,89,97,101,103,107,109,113,127,131,137,139,149,151,157,163,167,173,179,181,191,193,197,199,211,223,227,229,233,239,241,251,257,263,269,271,277,281,283,293,307,311]
def Fp (p:Nat):List Nat:=PL.filter fun x=>Nat.blt x p
theorem Fp_step:∀ p,p < 312→2≤p→Fp (p+1)=(if isP p then Fp p++[p] else Fp p)∧(Fp p).length < 64:=by decide +kernel
theorem Fp_end:Fp 312=PL:=by decide +kernel
theorem roots3:PL.map (fun p=>((rootR p 3:Nat):Int))=kI:=by decide +kernel
theorem roots2:(PL.take 8).map (fun p=>((rootR p 2:Nat):Int))=h0I.l:=by decide +kernel
def zs (n:Nat):List Value:=List.replicate n (.int .u32 0)
def tbC (l:List Nat):List Value:=u32s (l.map fun p=>((rootR p 3:Nat):Int))++(zs (64 - l.length)++(u32s ((l.take 8).map fun p=>((rootR p 2:Nat):Int))++zs (8 - l.length)))
theorem tbC_end:tbC PL=tabV:=by
  unfold tbC
  rw [roots3,roots2]
  rfl
theorem put_mid {o:List Value} {n k i:Nat} {x z:Value} {r:List Value} (hl:o.length=n) (hi:i=n):setE (o++(List.replicate (k+1) z++r)) i [x]=some (o++[x]++(List.replicate k z++r)):=by
  subst hl hi
  rw [setE_mid o (by simp;omega)]
  simp [List.replicate_succ]
theorem tb_put {l:List Nat} {p:Nat} (h:l.length < 64) (h8:¬ l.length < 8):setE (tbC l) l.length [.int .u32 ((rootR p 3:Nat):Int)]=some (tbC (l++[p])):=by
  unfold tbC zs
  obtain ⟨k,hk⟩:∃ k,64 - l.length=k+1:=⟨63 - l.length,by omega⟩
  rw [hk,put_mid (by rw [u32s_len,List.length_map]) rfl,List.map_append,u32s_app,List.length_append,List.length_singleton,show 64 - (l.length+1)=k by omega,List.take_append_of_le_length (by omega),show 8 - (l.length+1)=8 - l.length by omega]
  rfl
def tbM (l:List Nat) (p:Nat):List Value:=u32s ((l++[p]).map fun p=>((rootR p 3:Nat):Int))++(zs (64 - (l.length+1))++(u32s ((l.take 8).map fun p=>((rootR p 2:Nat):Int))++zs (8 - l.length)))
theorem tb_put1 {l:List Nat} {p:Nat} (h:l.length < 8):setE (tbC l) l.length [.int .u32 ((rootR p 3:Nat):Int)]=some (tbM l p):=by
  unfold tbC tbM zs
  obtain ⟨k,hk⟩:∃ k,64 - l.length=k+1:=⟨63 - l.length,by omega⟩
  rw [hk,put_mid (by rw [u32s_len,List.length_map]) rfl,List.map_append,u32s_app,show 64 - (l.length+1)=k by omega]
  rfl
theorem tb_put2 {l:List Nat} {p:Nat} (h:l.length < 8):setE (tbM l p) (64+l.length) [.int .u32 ((rootR p 2:Nat):Int)]=some (tbC (l++[p])):=by
  unfold tbC tbM zs
  obtain ⟨k,hk⟩:∃ k,8 - l.length=k+1:=⟨7 - l.length,by omega⟩
  rw [hk,← List.append_assoc,← List.append_assoc]
  have h1:=put_mid (k:=k) (z:=.int .u32 0) (x:=.int .u32 ((rootR p 2:Nat):Int)) (r:=[]) (i:=64+l.length) (n:=64+l.length) (o:=u32s ((l++[p]).map fun p=>((rootR p 3:Nat):Int))++List.replicate (64 - (l.length+1)) (.int .u32 0)++u32s ((l.take 8).map fun p=>((rootR p 2:Nat):Int))) (by
    simp only [List.length_append,u32s_len,List.length_map,List.length_replicate,List.length_take,List.length_singleton];omega) rfl
  rw [List.append_nil,List.append_nil] at h1
  rw [h1,List.length_append,List.length_singleton,List.take_of_length_le (by omega:l.length≤8),List.take_of_length_le (by rw [List.length_append,List.length_singleton];omega),List.map_append (f:=fun p=>((rootR p 2:Nat):Int)),u32s_app (List.map (fun p=>((rootR p 2:Nat):Int)) l),show 8 - (l.length+1)=k by omega]
  simp only [List.append_assoc]
  rfl
theorem tb_len {l:List Nat} (h:l.length≤64):(tbC l).length=72:=by
  unfold tbC zs
  simp only [List.length_append,u32s_len,List.length_map,List.length_replicate,List.length_take];omega
theorem tb_one (l:List Nat):(tbC l).all Value.oneCell'=true:=by
  have hz:∀ n,(zs n).all Value.oneCell'=true:=by intro n;rw [List.all_eq_true];intro x hx;rw [List.eq_of_mem_replicate hx];rfl
  unfold tbC
  simp only [List.all_append,u32s_one,hz,Bool.and_true]
theorem vmake_ok:CallP Tryz.prog 18 [] (.agg ⟨tabV⟩):=by
  refine enterP (tb:=tb) Tryz.func18 rfl Tryz.ntmps18 rfl fun w=>?_
  repeat' (first|(apply R.is1;first|(apply R.pure;exact rfl;first|(apply Ok1.assign;exact rfl)|(apply Ok1.build;(iterate 5 exact rfl)))|(apply R.alloc;(iterate 3 exact rfl);intro))|(apply R.is0;(apply R.store;(iterate 6 exact rfl);exact Upd.head;exact rfl))|apply R.nil|(apply T.is;first|apply T.seq|apply T.region|apply T.block))
  rename_i bR bT
  apply T.loopK (α:=Nat) (I:=fun p=>2≤p∧p≤312) (σi:=fun p=>[(0,.pointer (some ⟨bR,0,none⟩)),(1,.pointer (some ⟨bT,0,none⟩)),(2,.int .i64 ((Fp p).length:Nat)),(3,.int .u64 p)])
    (Li:=fun p=>[(bT,.cells ⟨tbC (Fp p)⟩ 56 (0,0)),(bR,.cells ⟨List.replicate 72 (.int .u32 0)⟩ 56 (0,0))]) (μ:=fun p=>312 - p) (i0:=2)
  · exact ⟨by decide,by decide⟩
  · exact ⟨rfl,rfl,rfl,rfl,trivial⟩
  · (focus (repeat' first|exact Keep.nil _|exact Ext.one _ _|apply Keep.cons);done)
  · rintro p ⟨h2,h3⟩
    rcases Nat.lt_or_ge p 312 with hlt|hge
    · obtain ⟨hst,h64⟩:=Fp_step p hlt h2
      have hr3:=root_ok p 3 (.inr rfl) (by omega)
      have hr2:=root_ok p 2 (.inl rfl) (by omega)
      generalize Fp p=l at *
      repeat' (first|(apply R.is1;first|(apply R.isBin;(apply R.pure;exact rfl;(apply Ok1.lss_t;exact rfl;exact rfl;omega)))|(apply R.pure;exact rfl;first|(apply Ok1.move;exact rfl)|(apply Ok1.assign;exact rfl)))|apply R.nil|(apply T.is;first|apply T.seq|apply T.region|apply T.block|apply T.skip|(apply T.cond_t;exact rfl)))
      apply T.loopK (α:=Nat × Bool) (I:=fun x=>2≤x.1∧x.1≤20∧pl p (20 - x.1) x.1 x.2=isP p) (σi:=fun x=>[(0,.pointer (some ⟨bR,0,none⟩)),(1,.pointer (some ⟨bT,0,none⟩)),(2,.int .i64 (l.length:Nat)),(3,.int .u64 p),(4,.bool x.2),(5,.int .u64 x.1)])
        (Li:=fun _=>[(bT,.cells ⟨tbC l⟩ 56 (0,0)),(bR,.cells ⟨List.replicate 72 (.int .u32 0)⟩ 56 (0,0))]) (μ:=fun x=>20 - x.1) (i0:=(2,true))
      · exact ⟨by decide,by decide,rfl⟩
      · exact ⟨rfl,rfl,rfl,rfl,rfl,rfl,trivial⟩
      · (focus (repeat' first|exact Keep.nil _|exact Ext.one _ _|apply Keep.cons);done)
      · rintro ⟨q,b⟩ ⟨hq2,hq20,hpl⟩
        simp only at hq2 hq20 hpl ⊢
        have hqq:((q * q:Nat):Int)=(q:Int) * (q:Int):=by rw [Int.natCast_mul]
        have hqb:q * q≤20 * 20:=Nat.mul_le_mul hq20 hq20
        have hpq:((p % q:Nat):Int)=(p:Int) % (q:Int):=Int.natCast_emod p q
        rcases Nat.lt_or_ge p (q * q) with hgt|hle
        · have hb:b=isP p:=by
            rw [← hpl]
            cases hf:20 - q with
            | zero=>rfl
            | succ f=>simp only [pl];rw [if_neg (by omega)]
          rw [← hb] at hst
          cases b with
          | false =>
            repeat' (first|(apply R.is1;first|(apply R.isBin;(apply R.pure;exact rfl;first|(apply Ok1.mulU;exact rfl;exact rfl;omega;omega)|(apply Ok1.addU;exact rfl;exact rfl;omega;omega)|(apply Ok1.leq_f;exact rfl;exact rfl;omega)))|(apply R.pure;exact rfl;first|(apply Ok1.move;exact rfl)|(apply Ok1.assign;exact rfl)|(apply Ok1.not_f;exact rfl)))|apply R.nil|(apply T.is;first|apply T.seq|apply T.region|apply T.exit|(apply T.cond_t;exact rfl)|(apply T.cond_f;exact rfl)))
            refine ⟨p+1,⟨by omega,by omega⟩,by omega,⟨rfl,rfl,?_,rfl,trivial⟩,?_⟩
            · rw [hst];rfl
            · rw [hst];(focus (repeat' first|exact Keep.nil _|exact Ext.one _ _|apply Keep.cons);done)
          | true =>
            have hst2:Fp (p+1)=l++[p]:=hst
            have hn1:((l.length:Nat):Int)+1=(((l++[p]).length:Nat):Int):=by simp
            have ho1:(0+0)+((l.length:Nat):Int).toNat * 1=l.length:=by omega
            have ho2:(0+64)+((l.length:Nat):Int).toNat * 1=64+l.length:=by omega
            by_cases h8:l.length < 8
            · have hp1:=tb_put1 (p:=p) h8
              have hp2:=tb_put2 (p:=p) h8
              rw [← ho1] at hp1
              rw [← ho2] at hp2
              repeat' (first|(apply R.is1;first|(apply R.isBin;(apply R.pure;exact rfl;first|(apply Ok1.mulU;exact rfl;exact rfl;omega;omega)|(apply Ok1.addU;exact rfl;exact rfl;omega;omega)|(apply Ok1.add64;exact rfl;exact rfl;omega;omega)|(apply Ok1.lss_t;exact rfl;exact rfl;omega)|(apply Ok1.leq_f;exact rfl;exact rfl;omega)))|(apply R.isCall;first|apply R.callP rfl rfl rfl hr3|apply R.callP rfl rfl rfl hr2)|(apply R.pure;exact rfl;first|(apply Ok1.move;exact rfl)|(apply Ok1.fieldAddr;(iterate 5 exact rfl))|(apply Ok1.assign;exact rfl)|(apply Ok1.indexAddrA;(iterate 5 exact rfl);omega;omega)|(apply Ok1.not_t;exact rfl)))|(apply R.is0;(apply R.store;(iterate 6 exact rfl);exact Upd.head;first|exact hp1|exact hp2))|apply R.nil|(apply T.is;first|apply T.seq|apply T.region|apply T.skip|apply T.exit|(apply T.cond_t;exact rfl)|(apply T.cond_f;exact rfl)))
              refine ⟨p+1,⟨by omega,by omega⟩,by omega,⟨rfl,rfl,?_,rfl,trivial⟩,?_⟩
              · rw [hst2];exact congrArg (fun z=>some (Value.int .i64 z)) hn1
              · rw [hst2];(focus (repeat' first|exact Keep.nil _|exact Ext.one _ _|apply Keep.cons);done)
            · have hp1:=tb_put (p:=p) h64 h8
              rw [← ho1] at hp1
              repeat' (first|(apply R.is1;first|(apply R.isBin;(apply R.pure;exact rfl;first|(apply Ok1.mulU;exact rfl;exact rfl;omega;omega)|(apply Ok1.addU;exact rfl;exact rfl;omega;omega)|(apply Ok1.add64;exact rfl;exact rfl;omega;omega)|(apply Ok1.lss_f;exact rfl;exact rfl;omega)|(apply Ok1.leq_f;exact rfl;exact rfl;omega)))|(apply R.isCall;apply R.callP rfl rfl rfl hr3)|(apply R.pure;exact rfl;first|(apply Ok1.move;exact rfl)|(apply Ok1.fieldAddr;(iterate 5 exact rfl))|(apply Ok1.assign;exact rfl)|(apply Ok1.indexAddrA;(iterate 5 exact rfl);omega;omega)|(apply Ok1.not_t;exact rfl)))|(apply R.is0;(apply R.store;(iterate 6 exact rfl);exact Upd.head;exact hp1))|apply R.nil|(apply T.is;first|apply T.seq|apply T.region|apply T.skip|apply T.exit|(apply T.cond_f;exact rfl)))
              refine ⟨p+1,⟨by omega,by omega⟩,by omega,⟨rfl,rfl,?_,rfl,trivial⟩,?_⟩
              · rw [hst2];exact congrArg (fun z=>some (Value.int .i64 z)) hn1
              · rw [hst2];(focus (repeat' first|exact Keep.nil _|exact Ext.one _ _|apply Keep.cons);done)
        · have hq19:q < 20:=by
            rcases Nat.lt_or_ge q 20 with h|h
            · exact h
            · have:q=20:=by omega
              subst this;omega
          have hpl2:pl p (20 - (q+1)) (q+1) (b && !decide (p % q=0))=isP p:=by
            rw [← hpl,show 20 - q=(20 - (q+1))+1 by omega]
            simp only [pl]
            rw [if_pos hle]
          cases b with
          | false =>
            repeat' (first|(apply R.is1;first|(apply R.isBin;(apply R.pure;exact rfl;first|(apply Ok1.mulU;exact rfl;exact rfl;omega;omega)|(apply Ok1.addU;exact rfl;exact rfl;omega;omega)|(apply Ok1.leq_t;exact rfl;exact rfl;omega)))|(apply R.pure;exact rfl;first|(apply Ok1.move;exact rfl)|(apply Ok1.assign;exact rfl)|(apply Ok1.pick_f;exact rfl;exact rfl)))|(apply R.isG;(apply R.guard_not;(iterate 3 exact rfl)))|apply R.nil|(apply T.is;first|apply T.seq|apply T.region|apply T.block|apply T.skip|(apply T.cond_t;exact rfl)))
            exact ⟨(q+1,false),⟨by simp only;omega,by simp only;omega,hpl2⟩,by simp only;omega,⟨rfl,rfl,rfl,rfl,rfl,rfl,trivial⟩,by (focus (repeat' first|exact Keep.nil _|exact Ext.one _ _|apply Keep.cons);done)⟩
          | true =>
            by_cases hz:p % q=0
            · rw [decide_eq_true hz] at hpl2
              have hz2:(p:Int) % (q:Int)=0:=by omega
              repeat' (first|(apply R.is1;first|(apply R.isBin;(apply R.pure;exact rfl;first|(apply Ok1.mulU;exact rfl;exact rfl;omega;omega)|(apply Ok1.addU;exact rfl;exact rfl;omega;omega)|(apply Ok1.leq_t;exact rfl;exact rfl;omega)|(apply Ok1.neq_f;exact rfl;exact rfl;omega)|(apply Ok1.remN;exact rfl;exact rfl;omega;omega)))|(apply R.pure;exact rfl;first|(apply Ok1.move;exact rfl)|(apply Ok1.assign;exact rfl)|(apply Ok1.pick_t;exact rfl;exact rfl)))|(apply R.isG;(apply R.guard_run;exact rfl;exact rfl))|apply R.nil|(apply T.is;first|apply T.seq|apply T.region|apply T.block|apply T.skip|(apply T.cond_t;exact rfl)))
              exact ⟨(q+1,false),⟨by simp only;omega,by simp only;omega,hpl2⟩,by simp only;omega,⟨rfl,rfl,rfl,rfl,rfl,rfl,trivial⟩,by (focus (repeat' first|exact Keep.nil _|exact Ext.one _ _|apply Keep.cons);done)⟩
            · rw [decide_eq_false hz] at hpl2
              have hz2:(p:Int) % (q:Int)≠0:=by omega
              repeat' (first|(apply R.is1;first|(apply R.isBin;(apply R.pure;exact rfl;first|(apply Ok1.mulU;exact rfl;exact rfl;omega;omega)|(apply Ok1.addU;exact rfl;exact rfl;omega;omega)|(apply Ok1.leq_t;exact rfl;exact rfl;omega)|(apply Ok1.neq_t;exact rfl;exact rfl;omega)|(apply Ok1.remN;exact rfl;exact rfl;omega;omega)))|(apply R.pure;exact rfl;first|(apply Ok1.move;exact rfl)|(apply Ok1.assign;exact rfl)|(apply Ok1.pick_t;exact rfl;exact rfl)))|(apply R.isG;(apply R.guard_run;exact rfl;exact rfl))|apply R.nil|(apply T.is;first|apply T.seq|apply T.region|apply T.block|apply T.skip|(apply T.cond_t;exact rfl)))
              exact ⟨(q+1,true),⟨by simp only;omega,by simp only;omega,hpl2⟩,by simp only;omega,⟨rfl,rfl,rfl,rfl,rfl,rfl,trivial⟩,by (focus (repeat' first|exact Keep.nil _|exact Ext.one _ _|apply Keep.cons);done)⟩
    · have he:p=312:=by omega
      subst he
      have hl:(tbC PL).length=72:=tb_len (by decide)
      have ho:=tb_one PL
      have h64:(Fp 312).length=64:=by rw [Fp_end];rfl
      rw [h64,Fp_end]
      have hend:=tbC_end
      generalize tbC PL=tv at *
      repeat' (first|(apply R.is1;first|(apply R.isBin;(apply R.pure;exact rfl;(apply Ok1.lss_f;exact rfl;exact rfl;omega)))|(apply R.pure;exact rfl;first|(apply Ok1.load;exact rfl;apply Ld.ownk;exact rfl;exact rfl;exact At.head;exact subE_all hl)|(apply Ok1.move;exact rfl)))|(apply R.is0;(apply R.store;(iterate 4 exact rfl);exact hl;exact ho;(focus (repeat' first|exact Upd.head|apply Upd.tail);done);exact setE_all hl))|apply R.nil|(apply T.is;first|apply T.seq|apply T.region|apply T.exit|apply T.ret|(apply T.cond_f;exact rfl)))
      apply RetOk.c
      exact rfl
      apply Ld.ownk
      exact rfl
      exact rfl
      (focus (repeat' first|exact At.head|apply At.tail);done)
      exact subE_all hl
      rw [hend]
theorem dgx {vs p8:List Int} (hv:vs.length=4) (hp:p8.length=8):∃ a b c d e f g h i j k l,vs=[a,b,c,d]∧p8=[e,f,g,h,i,j,k,l]:=by
  match vs,hv,p8,hp with
  | [a,b,c,d],_,[e,f,g,h,i,j,k,l],_=>exact ⟨a,b,c,d,e,f,g,h,i,j,k,l,rfl,rfl⟩
/-- A digest of which the first so many numbers are there. -/
def dgQ (vs ps:List Int):List Value:=iis (vs++List.replicate (4 - vs.length) 0)++u8s (ps++List.replicate (8 - ps.length) 0)
theorem dgQ0:dgQ [] []=dgV [0,0,0,0] [0,0,0,0,0,0,0,0]:=rfl
theorem dgQ_all {vs ps:List Int} (hv:vs.length=4) (hp:ps.length=8):dgQ vs ps=dgV vs ps:=by simp [dgQ,dgV,hv,hp]
theorem dgQ_v {vs ps:List Int} {i:Nat} (hv:vs.length=i) (hi:i < 4) (x:Int):setE (dgQ vs ps) (0+i * 1) [.int .i64 x]=some (dgQ (vs++[x]) ps):=by
  have e:∀ z:Int,dgQ (vs++[z]) ps=iis vs++([.int .i64 z]++(iis (List.replicate (3 - i) 0)++u8s (ps++List.replicate (8 - ps.length) 0))):=fun z=>by
    simp only [dgQ,List.length_append,List.length_singleton,hv,iis_app,show 4 - (i+1)=3 - i by omega]
    simp [iis]
  have e0:dgQ vs ps=dgQ (vs++[0]) ps:=by
    simp only [dgQ,List.length_append,List.length_singleton,hv,show 4 - i=(3 - i)+1 by omega,show 4 - (i+1)=3 - i by omega,List.replicate_succ]
    simp
  have hl:(iis vs).length=0+i * 1:=by rw [iis_len,hv];omega
  rw [e0,e 0,e x,← hl,setE_mid _ (by simp)]
  simp
theorem dgQ_p {vs ps:List Int} {i:Nat} (hv:vs.length=4) (hp:ps.length=i) (hi:i < 8) (x:Int):setE (dgQ vs ps) (4+i * 1) [.int .u8 x]=some (dgQ vs (ps++[x])):=by
  have e:∀ z:Int,dgQ vs (ps++[z])=(iis vs++u8s ps)++([.int .u8 z]++u8s (List.replicate (7 - i) 0)):=fun z=>by
    simp only [dgQ,List.length_append,List.length_singleton,hp,hv,show 8 - (i+1)=7 - i by omega]
    simp [iis,u8s]
  have e0:dgQ vs ps=dgQ vs (ps++[0]):=by
    simp only [dgQ,List.length_append,List.length_singleton,hp,show 8 - i=(7 - i)+1 by omega,show 8 - (i+1)=7 - i by omega,List.replicate_succ]
    simp
  have hl:(iis vs++u8s ps).length=4+i * 1:=by rw [List.length_append,iis_len,u8s_len,hv,hp];omega
  rw [e0,e 0,e x,← hl,setE_mid _ (by simp)]
  simp
theorem dof9_ok (bm:Nat) (ms:List Lg) (hm:GOk ms) (hlo:LOk (lgs ms)) (w:World) (hs:DSR w bm ms):CallW Tryz.prog 94 [.agg ⟨tabV⟩,.pointer (some ⟨bm,0,none⟩)] w fun v _=>v = .agg ⟨dgV ((lgs ms).map fun x=>(x.length:Int)) ((shaI (prI (lgs ms))).take 8)⟩:=by
  have hpr:=fun w1 (hc:Chg [] w w1)=>dprint_ok bm ms hm hlo w1 ⟨hc.heap hs.b List.not_mem_nil,fun g h=>(hs.rd g h).chg' hc (fun _=>Off.nil _)⟩
  have hsl:=sha_len (prI (lgs ms))
  have hb:=hs.b
  have htl:tabV.length=72:=rfl
  have hll:((lgs ms).map fun x=>(x.length:Int)).length=4:=by rw [List.length_map,lgs,List.length_map,hm.len]
  have hget:∀ (i:Nat) (g:Lg),ms[i]? = some g→((lgs ms).map fun x=>(x.length:Int))[i]? = some (g.xs.length:Int):=fun i g h=>by rw [lgs,List.getElem?_map,List.getElem?_map,h];rfl
  have hset:=fun i g h=>setV_at hm (i:=i) (g:=g) h
  have hml:=hm.len
  generalize (lgs ms).map (fun x=>(x.length:Int))=us at *
  generalize shaI (prI (lgs ms))=P at *
  generalize setV ms=SV at *
  have hpl:(u8s P).length=32:=by rw [u8s_len,hsl]
  have hpo:=u8s_one P
  refine enterW (tb:=tb) Tryz.func94 rfl Tryz.ntmps94 rfl ?_
  repeat' (first|(apply R.is1;first|(apply R.isCall;(apply R.callV (vs:=[.pointer (some ⟨bm,0,none⟩),.agg ⟨tabV⟩]);(iterate 3 exact rfl);intro w1 hw1;exact hpr w1 hw1.chg))|(apply R.pure;exact rfl;first|(apply Ok1.load;exact rfl;(apply Ld.ownk;exact rfl;exact rfl;(focus (repeat' first|exact At.head|apply At.tail);done);exact subE_all htl))|(apply Ok1.move;exact rfl)|(apply Ok1.assign;exact rfl)|(apply Ok1.build;(iterate 5 exact rfl)))|(apply R.box;(iterate 3 exact rfl);intro)|(apply R.alloc;(iterate 3 exact rfl);intro))|(apply R.is0;first|(apply R.store;(iterate 4 exact rfl);exact hpl;exact hpo;exact Upd.head;exact setE_all (by rw [hpl];rfl))|(apply R.store;(iterate 6 exact rfl);exact Upd.head;exact rfl))|apply R.nil|(apply T.is;first|apply T.seq|apply T.region|apply T.block))
  rename_i b2 b4 b5 b6
  apply T.loopK (α:=Nat) (I:=fun i=>i≤4) (σi:=fun i=>[(1,.pointer (some ⟨bm,0,none⟩)),(4,.pointer (some ⟨b4,0,none⟩)),(5,.pointer (some ⟨b5,0,none⟩)),(6,.pointer (some ⟨b6,0,none⟩)),(7,.int .i64 i)])
    (Li:=fun i=>[(b4,.cells ⟨dgV [0,0,0,0] [0,0,0,0,0,0,0,0]⟩ 196 (0,0)),(b5,.cells ⟨dgQ (us.take i) []⟩ 196 (0,0)),(b6,.cells ⟨u8s P⟩ 98 (0,0))]) (μ:=fun i=>4 - i) (i0:=0)
  · exact Nat.zero_le _
  · exact ⟨rfl,rfl,rfl,rfl,rfl,trivial⟩
  · simp only [List.take_zero,dgQ0]
    (focus (repeat' first|exact Keep.nil _|exact Ext.one _ _|apply Keep.cons|apply Ext.cons);done)
  · intro i hi
    rcases Nat.lt_or_ge i 4 with hlt|hge
    · obtain ⟨g,hgi⟩:∃ g,ms[i]? = some g:=⟨_,List.getElem?_eq_getElem (by omega)⟩
      have hcell:=hset i g hgi
      have hui:=hget i g hgi
      have hst:=dgQ_v (ps:=[]) (show (us.take i).length=i by rw [List.length_take];omega) hlt (g.xs.length:Int)
      have htk:us.take (i+1)=us.take i++[(g.xs.length:Int)]:=by rw [List.take_add_one,hui];rfl
      repeat' (first|(apply R.is1;first|(apply R.isBin;(apply R.pure;exact rfl;first|(apply Ok1.add64;exact rfl;exact rfl;omega;omega)|(apply Ok1.lss_t;exact rfl;exact rfl;omega)))|(apply R.isCall;(apply R.pure;exact rfl;(apply Ok1.lenS;(iterate 3 exact rfl))))|(apply R.pure;exact rfl;first|(apply Ok1.load;exact rfl;(apply Ld.blk1;exact rfl;exact rfl;exact hb;exact List.not_mem_nil;exact hcell))|(apply Ok1.move;exact rfl)|(apply Ok1.fieldAddr;(iterate 5 exact rfl))|(apply Ok1.assign;exact rfl)|(apply Ok1.indexAddrA;(iterate 5 exact rfl);omega;omega)|(apply Ok1.nilCheck;exact rfl)))|(apply R.is0;(apply R.store;(iterate 6 exact rfl);(focus (repeat' first|exact Upd.head|apply Upd.tail);done);exact hst))|apply R.nil|(apply T.is;first|apply T.seq|apply T.region|apply T.block|apply T.skip|(apply T.cond_t;exact rfl)))
      exact ⟨i+1,by omega,by omega,⟨rfl,rfl,rfl,rfl,rfl,trivial⟩,by simp only [htk];(focus (repeat' first|exact Keep.nil _|exact Ext.one _ _|apply Keep.cons);done)⟩
    · have hi4:i=4:=by omega
      subst hi4
      rw [show us.take 4=us from List.take_of_length_le (by omega)]
      repeat' (first|(apply R.is1;first|(apply R.isBin;(apply R.pure;exact rfl;(apply Ok1.lss_f;exact rfl;exact rfl;omega)))|(apply R.pure;exact rfl;first|(apply Ok1.move;exact rfl)|(apply Ok1.assign;exact rfl)))|apply R.nil|(apply T.is;first|apply T.seq|apply T.region|apply T.block|apply T.exit|(apply T.cond_f;exact rfl)))
      apply T.loopK (α:=Nat) (I:=fun i=>i≤8) (σi:=fun i=>[(4,.pointer (some ⟨b4,0,none⟩)),(5,.pointer (some ⟨b5,0,none⟩)),(6,.pointer (some ⟨b6,0,none⟩)),(8,.int .i64 i)])
        (Li:=fun i=>[(b4,.cells ⟨dgV [0,0,0,0] [0,0,0,0,0,0,0,0]⟩ 196 (0,0)),(b5,.cells ⟨dgQ us (P.take i)⟩ 196 (0,0)),(b6,.cells ⟨u8s P⟩ 98 (0,0))]) (μ:=fun i=>8 - i) (i0:=0)
      · exact Nat.zero_le _
      · exact ⟨rfl,rfl,rfl,rfl,trivial⟩
      · (focus (repeat' first|exact Keep.nil _|exact Ext.one _ _|apply Keep.cons);done)
      · intro i hi
        rcases Nat.lt_or_ge i 8 with hlt|hge
        · obtain ⟨x,hx⟩:∃ x,P[i]? = some x:=⟨_,List.getElem?_eq_getElem (by omega)⟩
          have hpc:(u8s P)[0+i * 1]? = some (.int .u8 x):=by rw [Nat.zero_add,Nat.mul_one,u8s,List.getElem?_map,hx];rfl
          have hst:=dgQ_p hll (show (P.take i).length=i by rw [List.length_take];omega) hlt x
          have htk:P.take (i+1)=P.take i++[x]:=by rw [List.take_add_one,hx];rfl
          repeat' (first|(apply R.is1;first|(apply R.isBin;(apply R.pure;exact rfl;first|(apply Ok1.add64;exact rfl;exact rfl;omega;omega)|(apply Ok1.lss_t;exact rfl;exact rfl;omega)))|(apply R.pure;exact rfl;first|(apply Ok1.load;exact rfl;(apply Ld.own1;exact rfl;exact rfl;(focus (repeat' first|exact At.head|apply At.tail);done);exact hpc))|(apply Ok1.move;exact rfl)|(apply Ok1.fieldAddr;(iterate 5 exact rfl))|(apply Ok1.assign;exact rfl)|(apply Ok1.indexAddrA;(iterate 5 exact rfl);omega;omega)))|(apply R.is0;(apply R.store;(iterate 6 exact rfl);(focus (repeat' first|exact Upd.head|apply Upd.tail);done);exact hst))|apply R.nil|(apply T.is;first|apply T.seq|apply T.region|apply T.block|apply T.skip|(apply T.cond_t;exact rfl)))
          exact ⟨i+1,by omega,by omega,⟨rfl,rfl,rfl,rfl,trivial⟩,by simp only [htk];(focus (repeat' first|exact Keep.nil _|exact Ext.one _ _|apply Keep.cons);done)⟩
        · have hi8:i=8:=by omega
          subst hi8
          have h8:(P.take 8).length=8:=by rw [List.length_take,hsl];rfl
          rw [dgQ_all hll h8]
          have hdl:=dg_len hll h8
          have hdo:=dg_one us (P.take 8)
          repeat' (first|(apply R.is1;first|(apply R.isBin;(apply R.pure;exact rfl;(apply Ok1.lss_f;exact rfl;exact rfl;omega)))|(apply R.pure;exact rfl;first|(apply Ok1.load;exact rfl;(apply Ld.ownk;exact rfl;exact rfl;(focus (repeat' first|exact At.head|apply At.tail);done);exact subE_all hdl))|(apply Ok1.move;exact rfl)))|(apply R.is0;(apply R.store;(iterate 4 exact rfl);exact hdl;exact hdo;exact Upd.head;exact setE_all (by rw [hdl];rfl)))|apply R.nil|(apply T.is;first|apply T.seq|apply T.region|apply T.exit|apply T.ret|(apply T.cond_f;exact rfl)))
          (apply RetOk.c;exact rfl;(apply Ld.ownk;exact rfl;exact rfl;exact At.head;exact subE_all hdl))
          rfl
/-- A digest's bytes. -/
def encG (vs p8:List Int):List Int:=numsI 1 vs++p8
theorem encG_len {vs p8:List Int} (hv:vs.length=4) (hp:p8.length=8):(encG vs p8).length=16:=by rw [encG,List.length_append,nums1_len,hv,hp]
theorem vr_fits {vs:List Int} (h:VR vs):∀ x∈vs,Fits 1 x:=fun x hx=>by have:=h x hx;exact ⟨this.1,.inr (.inl ⟨rfl,by omega⟩)⟩
theorem by_fits {ps:List Int} (h:Byt ps):∀ x∈ps,Fits 0 x:=fun x hx=>by have:=h x hx;exact ⟨by omega,.inl ⟨rfl,by omega⟩⟩
theorem num0 {x:Int} (h0:0≤x) (h1:x≤255):numI 0 x=[x]:=by show [x % 256]=[x];congr 1;omega
theorem dbytes9_ok (vs p8:List Int) (hv:vs.length=4) (hp:p8.length=8) (hV:VR vs) (hb:Byt p8) (w:World) :
    CallM Tryz.prog 78 [.agg ⟨dgV vs p8⟩] [] w fun v L=>∃ ov,OvOk 1 ov (encG vs p8).length (u8s (encG vs p8))∧v = .tuple #[slV ov (encG vs p8).length,.int .i64 0]∧L=blkL 5 ov (u8s (encG vs p8)):=by
  have hr:=vright_ok vs hv
  rw [decide_eq_true hV] at hr
  have hs4:subE (dgV vs p8) 0 4=some (iis vs):=subE_app _ _ (by rw [iis_len,hv])
  have hs8:subE (dgV vs p8) 4 8=some (u8s p8):=sub_tail (by rw [iis_len,hv]) (by rw [u8s_len,hp])
  have hn1:=fun bw p w1 h1 h2=>numbers_ok bw none [] (OvOk.start 1) 1 p 4 4 vs hv.symm (vr_fits hV) (by rw [hv];decide) w1 h1 h2
  have hdr:dgV vs p8=fl iV vs++u8s p8:=by rw [fl_i];rfl
  refine enterK (tb:=tb) Tryz.func78 rfl Tryz.ntmps78 rfl ?_
  repeat' (first|(apply R.is1;first|(apply R.isCall;first|apply R.callP rfl rfl rfl hr|(apply R.callE (Li:=WL _ none []) (vs:=[.pointer (some ⟨_,0,none⟩),.int .i64 1,.slice (some ⟨_,0,none⟩) 4 4]);(iterate 3 exact rfl);(focus ((repeat' (exact Ext.one _ _));done));intro w1 hw1;exact hn1 _ _ w1 (RdSl.of hw1 (by (focus (repeat' first|exact At.head|apply At.tail);done)) hdr) (fun _=>Off.of hw1 (by (focus ((repeat' (exact Ext.one _ _));done))) (by exact At.head));rintro v Lo ⟨ov1,rfl,hov1,rfl⟩))|(apply R.pure;exact rfl;first|(apply Ok1.load;exact rfl;first|(apply Ld.ownk;exact rfl;exact rfl;(focus (repeat' first|exact At.head|apply At.tail|apply At.right);done);exact hs4)|(apply Ld.ownk;exact rfl;exact rfl;(focus (repeat' first|exact At.head|apply At.tail|apply At.right);done);exact hs8))|(apply Ok1.sliceArr;(iterate 4 exact rfl))|(apply Ok1.move;exact rfl)|(apply Ok1.fieldAddr;(iterate 5 exact rfl))|(apply Ok1.assign;exact rfl)|(apply Ok1.not_t;exact rfl))|(apply R.box;(iterate 3 exact rfl);intro)|(apply R.alloc;(iterate 3 exact rfl);intro))|apply R.nil|(apply T.is;first|apply T.seq|apply T.region|apply T.block|apply T.skip|(apply T.cond_f;exact rfl)))
  rename_i b1 bw
  rw [List.nil_append] at hov1
  rw [List.nil_append]
  apply T.loopK (α:=Nat × Ov) (I:=fun y=>y.1≤8∧OvOk 1 y.2 (numsI 1 vs++p8.take y.1).length (u8s (numsI 1 vs++p8.take y.1))) (σi:=fun y=>[(4,.pointer (some ⟨bw,0,none⟩)),(15,.agg ⟨u8s p8⟩),(16,.int .i64 y.1)]) (Li:=fun y=>WL bw y.2 (numsI 1 vs++p8.take y.1)) (μ:=fun y=>8 - y.1) (i0:=(0,ov1))
  · refine ⟨Nat.zero_le _,?_⟩
    simp only [List.take_zero,List.append_nil]
    exact hov1
  · exact ⟨rfl,rfl,rfl,trivial⟩
  · simp only [List.take_zero,List.append_nil]
    (focus (repeat' first|exact Ext.one _ _|exact Ext.here _ _|apply Keep.cons|apply Keep.last);done)
  · rintro ⟨i,ov⟩ ⟨hi,hov⟩
    simp only at hi hov ⊢
    rcases Nat.lt_or_ge i 8 with hlt|hge
    · obtain ⟨x,hx⟩:∃ x,p8[i]? = some x:=⟨_,List.getElem?_eq_getElem (by omega)⟩
      have hxf:=by_fits hb x (List.mem_of_getElem? hx)
      have hxb:=hb x (List.mem_of_getElem? hx)
      have hpc:(u8s p8)[i * 1]? = some (.int .u8 x):=by rw [Nat.mul_one,u8s,List.getElem?_map,hx];rfl
      have hnl:=nums1_len vs
      have htl:(p8.take i).length=i:=by rw [List.length_take];omega
      have hn:=fun bl fz e w1=>number1_ok bw ov (numsI 1 vs++p8.take i) hov 0 x hxf (by rw [List.length_append];omega) bl fz e w1
      have htk:numsI 1 vs++p8.take (i+1)=numsI 1 vs++p8.take i++numI 0 x:=by rw [List.take_add_one,hx,num0 (by omega) (by omega),List.append_assoc];rfl
      unfold WRes at hn
      rw [← htk] at hn
      repeat' (first|(apply R.is1;first|(apply R.isBin;(apply R.pure;exact rfl;first|(apply Ok1.add64;exact rfl;exact rfl;omega;omega)|(apply Ok1.lss_t;exact rfl;exact rfl;omega)))|(apply R.isCall;(apply R.callE (Li:=WL bw ov (numsI 1 vs++p8.take i)) (vs:=[.pointer (some ⟨bw,0,none⟩),.int .i64 0,.slice (some ⟨_,0,none⟩) 1 1]);(iterate 3 exact rfl);(focus (repeat' first|exact Ext.all _|apply Ext.cons);done);intro w1 hw1;exact hn _ _ _ w1 (hw1.get _ _ (At.mem (by exact At.head))) (RdSl.off hw1 (by (focus (repeat' first|exact Ext.all _|apply Ext.cons);done)) (At.mem (by exact At.head)));rintro v Lo ⟨ov2,rfl,hov2,rfl⟩))|(apply R.pure;exact rfl;first|(apply Ok1.index1;(iterate 6 exact rfl);omega;omega;exact hpc)|(apply Ok1.move;exact rfl)|(apply Ok1.assign;exact rfl)|(apply Ok1.convI64;(iterate 5 exact rfl);omega;omega))|(apply R.buildSlice;(iterate 12 exact rfl);intro))|apply R.nil|(apply T.is;first|apply T.seq|apply T.region|apply T.block|apply T.skip|(apply T.cond_t;exact rfl)))
      exact ⟨(i+1,ov2),⟨by simp only;omega,hov2⟩,by simp only;omega,⟨rfl,rfl,rfl,trivial⟩,by (focus (repeat' first|exact Ext.one _ _|exact Ext.here _ _|apply Keep.cons|apply Keep.last);done)⟩
    · have hi8:i=8:=by omega
      subst hi8
      rw [show p8.take 8=p8 from List.take_of_length_le (by omega)] at hov ⊢
      have hle:=encG_len hv hp
      unfold encG at hle ⊢
      have hwo:=fun w1 h1 h2=>wout_ok bw ov (numsI 1 vs++p8) hov (by omega) w1 h1 h2
      generalize numsI 1 vs++p8=B at *
      simp only [WL]
      repeat' (first|(apply R.is1;first|(apply R.isBin;(apply R.pure;exact rfl;(apply Ok1.lss_f;exact rfl;exact rfl;omega)))|(apply R.isCall;(apply R.callE (vs:=[.pointer (some ⟨bw,0,none⟩)]);(iterate 3 exact rfl);exact Ext.none _;intro w1 hw1;exact hwo w1 (hw1.get _ _ (At.mem (by exact At.head))) (rdown hov hw1 (Ext.mem (by (focus (repeat' first|exact Ext.all _|apply Ext.cons);done))));rintro v Lo ⟨ov2,hov2,rfl,rfl⟩))|(apply R.pure;exact rfl;first|(apply Ok1.assign;exact rfl)|(apply Ok1.extract;exact rfl;exact rfl)))|apply R.nil|(apply T.is;first|apply T.seq|apply T.region|apply T.exit|apply T.ret|(apply T.cond_f;exact rfl)))
      (apply RetOk.tt;exact rfl;exact rfl)
      exact ⟨_,by (focus (repeat' first|exact Ext.here _ _|apply Keep.last);done),ov2,hov2,rfl,rfl⟩
theorem RdSl.ofOff {α:Type} {v:α→List Value} {rs:List α} {w0 w:World} {S:List Nat} {L:Lst} {b o:Nat} {e:TypeId} {fz:Nat × Nat} {cs pre junk:List Value} (hw:Hp w0 S L w) (hat:At L b (.cells ⟨cs⟩ e fz)) (hc:cs=pre++(fl v rs++junk)) (ho:pre.length=o):RdSl w (some ⟨b,o,none⟩) v rs:=by
  subst hc
  right
  refine ⟨b,o,rfl,fun k hk=>?_⟩
  have:=hw.get b _ hat.mem
  simp only [World.cell?,this]
  subst ho
  show (Array.mk (pre++(fl v rs++junk)))[pre.length+k]? = _
  rw [List.getElem?_toArray,List.getElem?_append_right (by omega),Nat.add_sub_cancel_left,List.getElem?_append_left hk]
theorem rbytes9_ok (vs p8:List Int) (hv:vs.length=4) (hp:p8.length=8) (hV:VR vs) (w:World) :
    CallM Tryz.prog 93 [.agg ⟨dgV vs p8⟩] [] w fun v L=>∃ ov,OvOk 1 ov (encG vs p8).length (u8s (encG vs p8))∧v=slV ov (encG vs p8).length∧L=blkL 5 ov (u8s (encG vs p8)):=by
  have hcell:∀ (i:Nat) (x:Int),vs[i]? = some x→(dgV vs p8)[0+i * 1]? = some (.int .i64 x):=fun i x h=>by
    rw [Nat.zero_add,dgV,List.getElem?_append_left (by rw [iis_len];have:=(List.getElem?_eq_some_iff.1 h).1;omega)]
    exact i_at h
  have hdr:dgV vs p8=iis vs++(fl u8V p8++[]):=by rw [fl_u8,List.append_nil];rfl
  have hil:(iis vs).length=4:=by rw [iis_len,hv]
  have hlen:(dgV vs p8).length=12:=dg_len hv hp
  refine enterK (tb:=tb) Tryz.func93 rfl Tryz.ntmps93 rfl ?_
  generalize hD:dgV vs p8=D at *
  repeat' (first|(apply R.is1;first|(apply R.pure;exact rfl;(apply Ok1.assign;exact rfl))|(apply R.box;(iterate 3 exact rfl);intro))|apply R.nil|(apply T.is;first|apply T.seq|apply T.region|apply T.block))
  rename_i b1
  apply T.loopK (α:=Nat × Ov) (I:=fun y=>y.1≤4∧OvOk 1 y.2 (numsI 1 (vs.take y.1)).length (u8s (numsI 1 (vs.take y.1)))) (σi:=fun y=>[(1,.pointer (some ⟨b1,0,none⟩)),(3,slV y.2 (numsI 1 (vs.take y.1)).length),(4,.int .i64 y.1)]) (Li:=fun y=>(b1,.cells ⟨D⟩ 196 (0,0))::blkL 5 y.2 (u8s (numsI 1 (vs.take y.1)))) (μ:=fun y=>4 - y.1) (i0:=(0,none))
  · exact ⟨Nat.zero_le _,OvOk.start 1⟩
  · exact ⟨rfl,rfl,rfl,trivial⟩
  · (focus (repeat' first|exact Keep.nil _|exact Ext.one _ _|apply Keep.cons);done)
  · rintro ⟨i,ov⟩ ⟨hi,hov⟩
    simp only at hi hov ⊢
    rcases Nat.lt_or_ge i 4 with hlt|hge
    · obtain ⟨x,hx⟩:∃ x,vs[i]? = some x:=⟨_,List.getElem?_eq_getElem (by omega)⟩
      have hxc:=hcell i x hx
      have ha:=fun w1=>dout_ok 1 x (vr_fits hV x (List.mem_of_getElem? hx)) w1
      have hla:=num_len 1 x
      have htk:=nums_take (s:=1) hx
      have hnl:=nums1_len (vs.take i)
      have htl:(vs.take i).length=i:=by rw [List.length_take];omega
      have hbl:(numsI 1 (vs.take i)).length≤8:=by omega
      generalize numsI 1 (vs.take i)=B0 at *
      generalize numI 1 x=N1 at *
      repeat' (first|(apply R.is1;first|(apply R.isBin;(apply R.pure;exact rfl;first|(apply Ok1.add64;exact rfl;exact rfl;omega;omega)|(apply Ok1.lss_t;exact rfl;exact rfl;omega)))|(apply R.isCall;first|(apply R.callE (vs:=[.agg ⟨fldV 1 x⟩]);(iterate 3 exact rfl);exact Ext.none _;intro w1 hw1;exact ha w1;rintro v Lo ⟨ova,hova,rfl,rfl⟩)|(apply R.appendSl (ov:=ov) (n:=B0.length) (old:=u8s B0) (ov2:=ova) (m:=N1.length) (news:=u8s N1) (e3:=5);(iterate 12 exact rfl);exact hov;exact hova;(focus (repeat' first|exact Ext.all _|apply Ext.cons|apply Ext.app);done);exact Ext.mem (by (focus ((repeat' (exact Ext.here _ _));done)));exact u8s_one _;omega;intro ov1 hov1;rw [← u8s_app,← List.length_append];rw [← u8s_app,← List.length_append] at hov1))|(apply R.pure;exact rfl;first|(apply Ok1.load;exact rfl;(apply Ld.own1;exact rfl;exact rfl;exact At.head;exact hxc))|(apply Ok1.move;exact rfl)|(apply Ok1.fieldAddr;(iterate 5 exact rfl))|(apply Ok1.assign;exact rfl)|(apply Ok1.indexAddrA;(iterate 5 exact rfl);omega;omega)|(apply Ok1.build;(iterate 5 exact rfl))))|apply R.nil|(apply T.is;first|apply T.seq|apply T.region|apply T.block|apply T.skip|(apply T.cond_t;exact rfl)))
      rw [← htk] at hov1 ⊢
      exact ⟨(i+1,ov1),⟨by simp only;omega,hov1⟩,by simp only;omega,⟨rfl,rfl,rfl,trivial⟩,by (focus (repeat' first|exact Ext.one _ _|exact Ext.here _ _|apply Keep.cons|apply Keep.last|apply Ext.app);done)⟩
    · have hi4:i=4:=by omega
      subst hi4
      rw [show vs.take 4=vs from List.take_of_length_le (by omega)] at hov ⊢
      have hnl:=nums1_len vs
      unfold encG
      generalize numsI 1 vs=B at *
      repeat' (first|(apply R.is1;first|(apply R.isBin;(apply R.pure;exact rfl;(apply Ok1.lss_f;exact rfl;exact rfl;omega)))|(apply R.isCall;(apply R.appendRd (xs:=p8) (v:=u8V) (sz:=1) (ov:=ov) (n:=B.length) (old:=u8s B) (m:=8) (p:=some ⟨b1,4,none⟩);(iterate 12 exact rfl);exact hov;(focus (repeat' first|exact Ext.all _|apply Ext.cons);done);exact hp.symm;exact u8V_len;exact rfl;(intro w1 hw1;exact RdSl.ofOff hw1 (by exact At.head) hdr hil);(focus (rw [fl_u8];exact u8s_one _));omega;intro ov1 hov1 hsome;rw [fl_u8,← u8s_app] at hov1;rw [fl_u8,← u8s_app];rw [show B.length+8=(B++p8).length by rw [List.length_append,hp]] at hov1;rw [show B.length+8=(B++p8).length by rw [List.length_append,hp]]))|(apply R.pure;exact rfl;first|(apply Ok1.sliceArr;(iterate 4 exact rfl))|(apply Ok1.move;exact rfl)|(apply Ok1.fieldAddr;(iterate 5 exact rfl))|(apply Ok1.assign;exact rfl)))|apply R.nil|(apply T.is;first|apply T.seq|apply T.region|apply T.exit|apply T.ret|(apply T.cond_f;exact rfl)))
      (apply RetOk.t;exact rfl)
      exact ⟨_,by (focus (repeat' first|exact Ext.here _ _|apply Keep.last);done),ov1,hov1,rfl,rfl⟩
theorem Rs.ok.fail {s:Rs} {br:Nat} {w:World} (h:s.ok br w) (e:Int):(s.fail e).ok br w:=by
  unfold Rs.fail
  split
  · exact ⟨.inl rfl,Nat.le_refl _,(fun h=>absurd rfl h),(fun y hy=>by cases hy),Nat.zero_le _⟩
  · exact h
theorem Rs.ok.drop {s:Rs} {br:Nat} {w:World} (h:s.ok br w) {k:Nat} (hk:k≤s.xs.length):(s.drop k).ok br w:=by
  refine ⟨h.rd.suf u8V_len hk h.cap,?_,fun hne=>?_,fun y hy=>h.byt y (List.mem_of_mem_drop hy),?_⟩
  · have:=h.cap;simp only [Rs.drop,List.length_drop];omega
  · exact (h.off (by intro h0;apply hne;simp [Rs.drop,h0])).suf _ _ _
  · have:=h.big;simp only [Rs.drop,List.length_drop];omega
theorem Rs.ok.num {s:Rs} {br:Nat} {w:World} (h:s.ok br w) (k:Nat):(s.num k).2.2.ok br w:=by
  unfold Rs.num
  split
  · exact h.fail 4
  · rename_i hn
    have hk:k≤s.xs.length:=Nat.le_of_not_lt fun h1=>hn (.inr h1)
    split
    · exact h.drop hk
    · exact (h.drop hk).fail 3
theorem Rs.ok.chg {s:Rs} {br:Nat} {w w1:World} (h:s.ok br w) {S:List Nat} (hc:Chg S w w1) (hS:S=[br]):s.ok br w1:=⟨h.rd.chg' hc (fun h9=>hS ▸ h.off h9),h.cap,h.off,h.byt,h.big⟩
def Rs.nx (s:Rs) (w:Nat):Nat→Rs
  | 0=>s
  | k+1=>((s.nx w k).num w).2.2
def Rs.nv (s:Rs) (w k:Nat):List Int:=(List.range k).map fun j=>((s.nx w j).num w).1
theorem Rs.nv_snoc (s:Rs) (w k:Nat):s.nv w (k+1)=s.nv w k++[((s.nx w k).num w).1]:=by simp [Rs.nv,List.range_succ]
theorem Rs.nv_len (s:Rs) (w k:Nat):(s.nv w k).length=k:=by simp [Rs.nv]
theorem Rs.ok.nx {s:Rs} {br:Nat} {w:World} (h:s.ok br w) (z k:Nat):(s.nx z k).ok br w:=by
  induction k with
  | zero=>exact h
  | succ k ih=>exact ih.num z
/-- A digest read: the digest,the error,what is left. -/
def Rs.rdF (s:Rs):Rs:=(s.nx 2 4).nx 1 8
def rdD (s:Rs):List Int × List Int × Int:=if s.rdF.e≠0 then ([0,0,0,0],[0,0,0,0,0,0,0,0],s.rdF.e) else if VR (s.nv 2 4) then (s.nv 2 4,(s.nx 2 4).nv 1 8,0) else ([0,0,0,0],[0,0,0,0,0,0,0,0],3)
theorem rL_blk (s:Rs) (br:Nat):blks (s.L br)=[br]:=rfl
theorem Rs.num1_range (s:Rs) (hb:Byt s.xs):0≤(s.num 1).1∧(s.num 1).1≤255:=by
  unfold Rs.num
  split
  · exact ⟨Int.le_refl _,by simp⟩
  · rename_i hn
    have hl:(s.xs.take 1).length=1:=by rw [List.length_take];have:=Nat.le_of_not_lt fun h=>hn (.inr h);omega
    have hr:=be_range 1 (s.xs.take 1) hl fun y hy=>hb y (List.mem_of_mem_take hy)
    split
    · exact ⟨hr.1,by have:=hr.2;omega⟩
    · exact ⟨Int.le_refl _,by simp⟩
theorem Ext.memI9 {L s L1:Lst} {x:Nat × Obj} (hm:x∈s) (h:Ext L s L1):x∈L:=h.mem x hm
theorem read9_ok (br:Nat) (s:Rs) (w:World) (hs:s.ok br w):CallM Tryz.prog 25 [.pointer (some ⟨br,0,none⟩)] (s.L br) w fun v L=>v = .tuple #[.agg ⟨dgV (rdD s).1 (rdD s).2.1⟩,.int .i64 (rdD s).2.2]∧L=s.rdF.L br:=by
  refine enterK (tb:=tb) Tryz.func25 rfl Tryz.ntmps25 rfl ?_
  repeat' (first|(apply R.is1;first|(apply R.pure;exact rfl;first|(apply Ok1.move;exact rfl)|(apply Ok1.assign;exact rfl))|(apply R.alloc;(iterate 3 exact rfl);intro))|apply R.nil|(apply T.is;first|apply T.seq|apply T.region|apply T.block))
  rename_i b2 b4
  apply T.loopK (α:=Nat) (I:=fun i=>i≤4) (σi:=fun i=>[(0,.pointer (some ⟨br,0,none⟩)),(2,.pointer (some ⟨b2,0,none⟩)),(4,.pointer (some ⟨b4,0,none⟩)),(8,.int .i64 i)]) (Li:=fun i=>(b2,.cells ⟨dgV [0,0,0,0] [0,0,0,0,0,0,0,0]⟩ 70 (0,0))::(b4,.cells ⟨dgQ (s.nv 2 i) []⟩ 70 (0,0))::(s.nx 2 i).L br) (μ:=fun i=>4 - i) (i0:=0)
  · exact Nat.zero_le _
  · exact ⟨rfl,rfl,rfl,rfl,trivial⟩
  · show Keep _ ((b2,_)::(b4,.cells ⟨dgQ [] []⟩ 70 (0,0))::s.L br)
    rw [dgQ0]
    (focus (repeat' first|exact Keep.nil _|exact Ext.one _ _|apply Keep.cons|apply Ext.cons);done)
  · intro i hi
    rcases Nat.lt_or_ge i 4 with hlt|hge
    · have hn:=fun w1 h1=>rnum_ok br (s.nx 2 i) 1 2 (by decide) u2 w1 h1
      have hok:=hs.nx 2 i
      have hst:=dgQ_v (ps:=[]) (s.nv_len 2 i) hlt ((s.nx 2 i).num 2).1
      rw [← Rs.nv_snoc] at hst
      have hnx:s.nx 2 (i+1)=((s.nx 2 i).num 2).2.2:=rfl
      have hbl:=rL_blk (s.nx 2 i) br
      have hbl0:=rL_blk s br
      rw [← hnx] at hn
      generalize s.nx 2 i=r at *
      generalize hr':s.nx 2 (i+1)=r' at *
      generalize hL0:r.L br=L0 at *
      generalize hL1:r'.L br=L1 at *
      repeat' (first|(apply R.is1;first|(apply R.isBin;(apply R.pure;exact rfl;first|(apply Ok1.add64;exact rfl;exact rfl;omega;omega)|(apply Ok1.lss_t;exact rfl;exact rfl;omega)))|(apply R.isCall;(apply R.callE (Li:=L0) (vs:=[.pointer (some ⟨br,0,none⟩),.int .i64 1]);(iterate 3 exact rfl);(focus (repeat' first|exact Ext.all _|apply Ext.cons);done);intro w1 hw1;exact hn w1 (hok.chg hw1.chg hbl0);rintro v Lo ⟨rfl,hq⟩;rw [hq];clear hq))|(apply R.pure;exact rfl;first|(apply Ok1.move;exact rfl)|(apply Ok1.fieldAddr;(iterate 5 exact rfl))|(apply Ok1.assign;exact rfl)|(apply Ok1.indexAddrA;(iterate 5 exact rfl);omega;omega)))|(apply R.is0;(apply R.store;(iterate 6 exact rfl);(focus (repeat' first|exact Upd.head|apply Upd.tail|apply Upd.right);done);exact hst))|apply R.nil|(apply T.is;first|apply T.seq|apply T.region|apply T.block|apply T.skip|(apply T.cond_t;exact rfl)))
      exact ⟨i+1,by omega,by omega,⟨rfl,rfl,rfl,rfl,trivial⟩,by simp only [hr',hL1];(focus (repeat' first|exact Ext.one _ _|exact Ext.here _ _|apply Keep.cons|apply Keep.last|apply Ext.app);done)⟩
    · have hi4:i=4:=by omega
      subst hi4
      have hvl:=s.nv_len 2 4
      have hok4:=hs.nx 2 4
      have hbl0:=rL_blk s br
      have hV4:=vright_ok (s.nv 2 4) hvl
      have hF:s.rdF=(s.nx 2 4).nx 1 8:=rfl
      have hD:rdD s=if s.rdF.e≠0 then ([0,0,0,0],[0,0,0,0,0,0,0,0],s.rdF.e) else if VR (s.nv 2 4) then (s.nv 2 4,(s.nx 2 4).nv 1 8,0) else ([0,0,0,0],[0,0,0,0,0,0,0,0],3):=rfl
      generalize s.nv 2 4=vs at *
      generalize hs4:s.nx 2 4=s4 at *
      generalize hL0:s4.L br=L4 at *
      repeat' (first|(apply R.is1;first|(apply R.isBin;(apply R.pure;exact rfl;(apply Ok1.lss_f;exact rfl;exact rfl;omega)))|(apply R.pure;exact rfl;(apply Ok1.move;exact rfl)))|apply R.nil|(apply T.is;first|apply T.seq|apply T.region|apply T.block|apply T.exit|(apply T.cond_f;exact rfl)))
      apply T.loopK (α:=Nat) (I:=fun i=>i≤8) (σi:=fun i=>[(0,.pointer (some ⟨br,0,none⟩)),(2,.pointer (some ⟨b2,0,none⟩)),(4,.pointer (some ⟨b4,0,none⟩)),(17,.int .i64 i)]) (Li:=fun i=>(b2,.cells ⟨dgV [0,0,0,0] [0,0,0,0,0,0,0,0]⟩ 70 (0,0))::(b4,.cells ⟨dgQ vs (s4.nv 1 i)⟩ 70 (0,0))::(s4.nx 1 i).L br) (μ:=fun i=>8 - i) (i0:=0)
      · exact Nat.zero_le _
      · exact ⟨rfl,rfl,rfl,rfl,trivial⟩
      · show Keep _ ((b2,_)::(b4,.cells ⟨dgQ vs []⟩ 70 (0,0))::s4.L br)
        rw [hL0]
        (focus (repeat' first|exact Ext.one _ _|exact Ext.all _|apply Keep.cons|apply Keep.last);done)
      · intro i hi
        rcases Nat.lt_or_ge i 8 with hlt|hge
        · have hn:=fun w1 h1=>rnum_ok br (s4.nx 1 i) 0 1 (by decide) rfl w1 h1
          have hok:=hok4.nx 1 i
          have hnr:=(s4.nx 1 i).num1_range hok.byt
          have hst:=dgQ_p hvl (s4.nv_len 1 i) hlt ((s4.nx 1 i).num 1).1
          rw [← Rs.nv_snoc] at hst
          have hnx:s4.nx 1 (i+1)=((s4.nx 1 i).num 1).2.2:=rfl
          rw [← hnx] at hn
          generalize s4.nx 1 i=r at *
          generalize hr':s4.nx 1 (i+1)=r' at *
          generalize hL0:r.L br=L0 at *
          generalize hL1:r'.L br=L1 at *
          repeat' (first|(apply R.is1;first|(apply R.isBin;(apply R.pure;exact rfl;first|(apply Ok1.add64;exact rfl;exact rfl;omega;omega)|(apply Ok1.lss_t;exact rfl;exact rfl;omega)))|(apply R.isCall;(apply R.callE (Li:=L0) (vs:=[.pointer (some ⟨br,0,none⟩),.int .i64 0]);(iterate 3 exact rfl);(focus (repeat' first|exact Ext.all _|apply Ext.cons);done);intro w1 hw1;exact hn w1 (hok.chg hw1.chg hbl0);rintro v Lo ⟨rfl,hq⟩;rw [hq];clear hq))|(apply R.pure;exact rfl;first|(apply Ok1.move;exact rfl)|(apply Ok1.fieldAddr;(iterate 5 exact rfl))|(apply Ok1.assign;exact rfl)|(apply Ok1.indexAddrA;(iterate 5 exact rfl);omega;omega)|(apply Ok1.convU8;(iterate 5 exact rfl);omega;omega)))|(apply R.is0;(apply R.store;(iterate 6 exact rfl);(focus (repeat' first|exact Upd.head|apply Upd.tail|apply Upd.right);done);exact hst))|apply R.nil|(apply T.is;first|apply T.seq|apply T.region|apply T.block|apply T.skip|(apply T.cond_t;exact rfl)))
          exact ⟨i+1,by omega,by omega,⟨rfl,rfl,rfl,rfl,trivial⟩,by simp only [hr',hL1];(focus (repeat' first|exact Ext.one _ _|exact Ext.here _ _|apply Keep.cons|apply Keep.last|apply Ext.app);done)⟩
        · have hi8:i=8:=by omega
          subst hi8
          have hpl:=s4.nv_len 1 8
          have hre:=fun w1 h=>rerr_ok br (s4.nx 1 8) w1 h
          rw [dgQ_all hvl hpl]
          rw [← hF] at hre ⊢
          generalize hps:s4.nv 1 8=ps at *
          have hdl:=dg_len hvl hpl
          have hdo:=dg_one vs ps
          have hs4':subE (dgV vs ps) 0 4=some (iis vs):=subE_app _ _ (by rw [iis_len,hvl])
          generalize s.rdF=F at *
          have hm3:(br,Obj.cells ⟨[.slice F.q F.xs.length F.cap,.int .i64 F.e]⟩ 205 (0,0))∈F.L br:=by simp [Rs.L]
          generalize hLF:F.L br=LF at *
          by_cases he:F.e=0
          · rw [if_neg (fun h=>h he)] at hD
            rw [he] at hre hm3
            by_cases hV:VR vs
            · rw [decide_eq_true hV] at hV4
              rw [if_pos hV] at hD
              rw [hD]
              generalize dgV vs ps=D at *
              repeat' (first|(apply R.is1;first|(apply R.isBin;(apply R.pure;exact rfl;first|(apply Ok1.lss_f;exact rfl;exact rfl;omega)|(apply Ok1.neq_f;exact rfl;exact rfl;omega)))|(apply R.isCall;first|apply R.callP rfl rfl rfl hV4|(apply R.callV (vs:=[.pointer (some ⟨br,0,none⟩)]);(iterate 3 exact rfl);intro w1 hw1;(apply hre w1;apply hw1.get;apply Ext.memI9 hm3;(focus (repeat' first|exact Ext.all _|apply Ext.cons);done))))|(apply R.pure;exact rfl;first|(apply Ok1.load;exact rfl;first|(apply Ld.ownk;exact rfl;exact rfl;(focus (repeat' first|exact At.head|apply At.tail);done);exact subE_all hdl)|(apply Ld.ownk;exact rfl;exact rfl;(focus (repeat' first|exact At.head|apply At.tail);done);exact hs4'))|(apply Ok1.move;exact rfl)|(apply Ok1.fieldAddr;(iterate 5 exact rfl))|(apply Ok1.assign;exact rfl)|(apply Ok1.not_t;exact rfl)))|(apply R.is0;(apply R.store;(iterate 4 exact rfl);exact hdl;exact hdo;exact Upd.head;exact setE_all (by rw [hdl];rfl)))|apply R.nil|(apply T.is;first|apply T.seq|apply T.region|apply T.skip|apply T.exit|apply T.ret|(apply T.cond_f;exact rfl)))
              (apply RetOk.ct;exact rfl;(apply Ld.ownk;exact rfl;exact rfl;exact At.head;exact subE_all hdl);exact rfl)
              exact ⟨_,by (focus (repeat' first|exact Ext.all _|apply Keep.last|apply Ext.cons);done),rfl,rfl⟩
            · rw [decide_eq_false hV] at hV4
              rw [if_neg hV] at hD
              rw [hD]
              generalize dgV vs ps=D at *
              repeat' (first|(apply R.is1;first|(apply R.isBin;(apply R.pure;exact rfl;first|(apply Ok1.lss_f;exact rfl;exact rfl;omega)|(apply Ok1.neq_f;exact rfl;exact rfl;omega)))|(apply R.isCall;first|apply R.callP rfl rfl rfl hV4|(apply R.callV (vs:=[.pointer (some ⟨br,0,none⟩)]);(iterate 3 exact rfl);intro w1 hw1;(apply hre w1;apply hw1.get;apply Ext.memI9 hm3;(focus (repeat' first|exact Ext.all _|apply Ext.cons);done))))|(apply R.pure;exact rfl;first|(apply Ok1.load;exact rfl;(apply Ld.ownk;exact rfl;exact rfl;(focus (repeat' first|exact At.head|apply At.tail);done);exact hs4'))|(apply Ok1.move;exact rfl)|(apply Ok1.fieldAddr;(iterate 5 exact rfl))|(apply Ok1.assign;exact rfl)|(apply Ok1.build;(iterate 5 exact rfl))|(apply Ok1.not_f;exact rfl)))|(apply R.is0;(apply R.store;(iterate 6 exact rfl);exact Upd.head;exact rfl))|apply R.nil|(apply T.is;first|apply T.seq|apply T.region|apply T.skip|apply T.exit|apply T.ret|(apply T.cond_t;exact rfl)|(apply T.cond_f;exact rfl)))
              (apply RetOk.ct;exact rfl;((apply Ld.ownk;exact rfl;exact rfl;exact At.head;exact rfl));exact rfl)
              exact ⟨_,by (focus (repeat' first|exact Ext.all _|apply Keep.last|apply Ext.cons);done),rfl,rfl⟩
          · rw [if_pos he] at hD
            rw [hD]
            generalize dgV vs ps=D at *
            repeat' (first|(apply R.is1;first|(apply R.isBin;(apply R.pure;exact rfl;first|(apply Ok1.lss_f;exact rfl;exact rfl;omega)|(apply Ok1.neq_t;exact rfl;exact rfl;omega)))|(apply R.isCall;(apply R.callV (vs:=[.pointer (some ⟨br,0,none⟩)]);(iterate 3 exact rfl);intro w1 hw1;(apply hre w1;apply hw1.get;apply Ext.memI9 hm3;(focus (repeat' first|exact Ext.all _|apply Ext.cons);done))))|(apply R.pure;exact rfl;first|(apply Ok1.move;exact rfl)|(apply Ok1.assign;exact rfl)|(apply Ok1.build;(iterate 5 exact rfl))))|(apply R.is0;(apply R.store;(iterate 6 exact rfl);exact Upd.head;exact rfl))|apply R.nil|(apply T.is;first|apply T.seq|apply T.region|apply T.exit|apply T.ret|(apply T.cond_t;exact rfl)|(apply T.cond_f;exact rfl)))
            (apply RetOk.ct;exact rfl;((apply Ld.ownk;exact rfl;exact rfl;exact At.head;exact rfl));exact rfl)
            exact ⟨_,by (focus (repeat' first|exact Ext.all _|apply Keep.last|apply Ext.cons);done),rfl,rfl⟩
theorem Rs.num2_is {s:Rs} {a b:Int} {r:List Int} (h:s.is (a::b::r) 0) (ha:0≤a∧a≤255) (hb:0≤b∧b≤255):(s.num 2).1=256 * a+b∧(s.num 2).2.2.is r 0:=by
  obtain ⟨hx,he⟩:=h
  have e1:s.xs.take 2=[a,b]:=by rw [hx];rfl
  have e2:beN [a,b]=256 * a+b:=by simp only [beN,List.foldl_cons,List.foldl_nil];omega
  unfold Rs.num
  rw [if_neg,e1,e2,if_pos (by omega)]
  · exact ⟨rfl,by simp only [Rs.drop];rw [hx];rfl,he⟩
  · rw [hx]
    rintro (h|h)
    · exact h he
    · simp only [List.length_cons] at h;omega
theorem Rs.num1_is {s:Rs} {a:Int} {r:List Int} (h:s.is (a::r) 0) (ha:0≤a∧a≤255):(s.num 1).1=a∧(s.num 1).2.2.is r 0:=by
  obtain ⟨hx,he⟩:=h
  have e1:s.xs.take 1=[a]:=by rw [hx];rfl
  have e2:beN [a]=a:=by simp only [beN,List.foldl_cons,List.foldl_nil];omega
  unfold Rs.num
  rw [if_neg,e1,e2,if_pos (by omega)]
  · exact ⟨rfl,by simp only [Rs.drop];rw [hx];rfl,he⟩
  · rw [hx]
    rintro (h|h)
    · exact h he
    · simp only [List.length_cons] at h;omega
def pairN (xs:List Int) (j:Nat):Int:=256 * xs.getD (2 * j) 0+xs.getD (2 * j+1) 0
theorem Rs.nv2_is {s:Rs} {xs:List Int} (h:s.is xs 0) (hb:Byt xs):∀ k,2 * k≤xs.length→(s.nx 2 k).is (xs.drop (2 * k)) 0∧s.nv 2 k=(List.range k).map (pairN xs):=by
  intro k
  induction k with
  | zero=>exact fun _=>⟨h,rfl⟩
  | succ k ih =>
    intro hk
    obtain ⟨h1,h2⟩:=ih (by omega)
    have e1:xs.drop (2 * k)=xs[2 * k]::xs[2 * k+1]::xs.drop (2 * (k+1)):=by
      rw [show 2 * (k+1)=2 * k+1+1 by omega,List.drop_eq_getElem_cons (by omega),List.drop_eq_getElem_cons (by omega)]
    rw [e1] at h1
    obtain ⟨h3,h4⟩:=Rs.num2_is h1 (hb _ (List.getElem_mem _)) (hb _ (List.getElem_mem _))
    refine ⟨h4,?_⟩
    rw [Rs.nv_snoc,h2,h3,List.range_succ,List.map_append]
    simp only [List.map_cons,List.map_nil,pairN,List.getD_eq_getElem?_getD]
    rw [List.getElem?_eq_getElem (by omega),List.getElem?_eq_getElem (by omega)]
    rfl
theorem Rs.nv1_is {s:Rs} {xs:List Int} (h:s.is xs 0) (hb:Byt xs):∀ k,k≤xs.length→(s.nx 1 k).is (xs.drop k) 0∧s.nv 1 k=xs.take k:=by
  intro k
  induction k with
  | zero=>exact fun _=>⟨h,rfl⟩
  | succ k ih =>
    intro hk
    obtain ⟨h1,h2⟩:=ih (by omega)
    have e1:xs.drop k=xs[k]::xs.drop (k+1):=by rw [List.drop_eq_getElem_cons (by omega)]
    rw [e1] at h1
    obtain ⟨h3,h4⟩:=Rs.num1_is h1 (hb _ (List.getElem_mem _))
    refine ⟨h4,?_⟩
    rw [Rs.nv_snoc,h2,h3,List.take_add_one,List.getElem?_eq_getElem (by omega)]
    rfl
theorem rd_long {s:Rs} {xs:List Int} (h:s.is xs 0) (hb:Byt xs) (hl:16≤xs.length):s.rdF.is (xs.drop 16) 0∧s.nv 2 4=(List.range 4).map (pairN xs)∧(s.nx 2 4).nv 1 8=(xs.drop 8).take 8:=by
  obtain ⟨h1,h2⟩:=Rs.nv2_is h hb 4 (by omega)
  obtain ⟨h3,h4⟩:=Rs.nv1_is (xs:=xs.drop 8) h1 (fun y hy=>hb y (List.mem_of_mem_drop hy)) 8 (by rw [List.length_drop];omega)
  refine ⟨?_,h2,h4⟩
  rw [List.drop_drop] at h3
  exact h3
theorem enc_read {vs p8:List Int} (hv:vs.length=4) (hp:p8.length=8) (hV:VR vs) (y:Int):(List.range 4).map (pairN (encG vs p8++[y]))=vs∧((encG vs p8++[y]).drop 8).take 8=p8∧(encG vs p8++[y]).drop 16=[y]:=by
  obtain ⟨a,b,c,d,e,f,g,h,i,j,k,l,rfl,rfl⟩:=dgx hv hp
  have ha:=hV a (by simp)
  have hb:=hV b (by simp)
  have hc:=hV c (by simp)
  have hd:=hV d (by simp)
  have e0:encG [a,b,c,d] [e,f,g,h,i,j,k,l]++[y]=[a / 256 % 256,a % 256,b / 256 % 256,b % 256,c / 256 % 256,c % 256,d / 256 % 256,d % 256,e,f,g,h,i,j,k,l,y]:=rfl
  rw [e0]
  refine ⟨?_,rfl,rfl⟩
  have e1:(List.range 4).map (pairN [a / 256 % 256,a % 256,b / 256 % 256,b % 256,c / 256 % 256,c % 256,d / 256 % 256,d % 256,e,f,g,h,i,j,k,l,y])=[256 * (a / 256 % 256)+a % 256,256 * (b / 256 % 256)+b % 256,256 * (c / 256 % 256)+c % 256,256 * (d / 256 % 256)+d % 256]:=rfl
  rw [e1]
  simp only [List.cons.injEq,and_true]
  omega
theorem encG_byt {vs p8:List Int} (h:Byt p8):Byt (encG vs p8):=fun y hy=>by
  rcases List.mem_append.1 hy with h1|h1
  · exact nums_byt _ _ y h1
  · exact h y h1
end Go.Proofs.YtolnagbahceebaaGreat
set_option linter.unusedSimpArgs false
set_option linter.unusedVariables false
namespace Go.Proofs.YtolnagbahceebaaGreat
open Go.ChangeShapes Go.WideShapes Go.ChangeAt Go.RowKit
section
variable {H:Type} {enc:TypeId × Value→H} {P:Program} {w:World} {base:Nat} {spare:Nat→Bool} {held:Bool}
theorem Opens.arr (tb:Tb P) {t e n:Nat} {r re:TRow} {Q:List Value→Prop} (ht:tb.row t=some r) (hk:r.k = .arr n e) (he:tb.row e=some re) (hQ:Opens enc P w base spare held e Q) :
    Opens enc P w base spare held t fun cs=>cs.length=r.size∧∀ i,i < n→Q ((cs.drop (i * re.size)).take re.size):=by
  intro fuel cs x hx
  have his:=(tb.get ht).is
  rw [hk] at his
  obtain ⟨xs,m,rfl,_,hcl,hxl,hf⟩:=DataW.trod_array his hx
  refine ⟨by rw [hcl,cells_of w (tb.get ht).size],fun i hi=>?_⟩
  have h4:=hf i hi
  rw [cells_of w (tb.get he).size,List.getElem?_eq_getElem (by omega)] at h4
  exact hQ _ _ _ h4
end
section
variable {H:Type} {enc:TypeId × Value→H} {w:World} {base:Nat} {spare:Nat→Bool} {held:Bool}
theorem i_dec:∀ cs,allW [.int .i64] cs→∃ x:Int,iV x=cs:=by
  rintro cs h
  match cs,h with
  | [.int k1 a],h =>
    obtain ⟨⟨rfl,_⟩,_⟩:=h
    exact ⟨a,rfl⟩
/-- A slice of integers. -/
def SlOp (w:World) (cs:List Value):Prop:=∃ z:Pi,cs=[z.w]∧RdSl w z.p iV z.xs∧z.xs.length≤z.cap
theorem sl_opens:Opens enc Tryz.prog w base spare held 39 (SlOp w) :=
  (Opens.slice iV (fun _=>True) tb rfl rfl rfl rfl (fun _=>rfl) ((Opens.flat (ks:=[.int .i64]) tb rfl rfl rfl).mono fun cs h=>by obtain ⟨r,hr⟩:=i_dec cs h;exact ⟨r,hr,trivial⟩)).mono fun cs ⟨a,rs,cap,h1,h2,h3,_⟩=>⟨⟨a,cap,rs⟩,h1,h2,h3⟩
theorem logs_opens:Opens enc Tryz.prog w base spare held 40 fun cs=>∃ l0 l1 l2 l3,cs=[Pi.w l0,Pi.w l1,Pi.w l2,Pi.w l3]∧∀ z∈[l0,l1,l2,l3],RdSl w z.p iV z.xs∧z.xs.length≤z.cap:=by
  refine (Opens.arr (enc:=enc) (w:=w) (base:=base) (spare:=spare) (held:=held) tb (t:=40) rfl rfl rfl sl_opens).mono ?_
  rintro cs ⟨hl,h⟩
  match cs,hl with
  | [c0,c1,c2,c3],_ =>
    obtain ⟨z0,e0,r0,q0⟩:=h 0 (by decide)
    obtain ⟨z1,e1,r1,q1⟩:=h 1 (by decide)
    obtain ⟨z2,e2,r2,q2⟩:=h 2 (by decide)
    obtain ⟨z3,e3,r3,q3⟩:=h 3 (by decide)
    cases e0;cases e1;cases e2;cases e3
    refine ⟨z0,z1,z2,z3,rfl,?_⟩
    intro z hz
    simp only [List.mem_cons,List.not_mem_nil,or_false] at hz
    rcases hz with rfl|rfl|rfl|rfl
    · exact ⟨r0,q0⟩
    · exact ⟨r1,q1⟩
    · exact ⟨r2,q2⟩
    · exact ⟨r3,q3⟩
end
open Go.ChangeShapes Go.WideShapes Go.ChangeAt Go.RowKit
section
variable {H:Type} {enc:TypeId × Value→H} {P:Program} {w:World} {base:Nat} {spare:Nat→Bool} {held:Bool}
end
end Go.Proofs.YtolnagbahceebaaGreat
set_option linter.unusedSimpArgs false
set_option linter.unusedVariables false
namespace Go.Proofs.YtolnagbahceebaaGreat
open Go.ChangeShapes Go.WideShapes Go.ChangeAt Go.RowKit
theorem ownJ:ownKnob Tryz.prog.godebug=none:=by kernel_rfl
theorem laidJ:laidOutB Tryz.prog=true:=by kernel_rfl
theorem and_tt {a b:Bool} (h1:a=true) (h2:b=true):(a && b)=true:=by rw [h1,h2];rfl
theorem joined_of {P:Program} {f:FuncId} {fn:Func} {s:ChangeSpec} {c:OpenClaim} (k0:(c.wf (OpenSpec.ofChange s))=true) (k1:(laidOutB P)=true) (k2:(mapsRowed P)=true) (k3:(fn.params.all (P.readableRec ·))=true) (k4:(namedTie P c.named s.vars)=true) (k5:(c.stops == [])=true) (k6:(P.stops == [])=true) (k7:(c.knobs == [])=true) (k8:(P.stopKnobs == [])=true) (k9:(c.inPlace == P.inPlace f)=true) (k10:(c.unfollowed == P.unfollowed f)=true) (k11:(c.recurses == P.recurses f)=true) (k12:(c.named == P.varsNamed f)=true) (k13:(c.maps == (fn.params.toList++s.plain.varTypes P).any (P.mapsRec ·))=true) (k14:(c.ifaces == (fn.params.toList++s.plain.varTypes P).any (P.ifacesRec ·))=true) (k15:(c.mapsOut == P.mapsAmong fn.resultTypes.toList)=true) (k16:(c.loops == (fn.params.toList++s.plain.varTypes P).any (P.loopsFrom ·))=true) (k17:(c.wideKeys == (fn.params.toList++s.plain.varTypes P++fn.resultTypes.toList).any (P.wideKeysFrom ·))=true) (k18:(s.vars.all (P.varReadable ·))=true) (k19:(fn.resultTypes.all (fun t=>P.readableRec t && decide (t < P.types.size)))=true) (k20:(c.ifacesOut == fn.resultTypes.toList.any (P.ifacesRec ·))=true) (k21:(c.loopsOut == fn.resultTypes.toList.any (P.loopsFrom ·))=true) (k22:(c.plainKeys == P.plainKeys)=true) (k23:(c.shortTexts.isNone)=true) (k24:(P.stopsHeard)=true) (k25:(P.mayEnter)=true) (k26:(c.lifted == P.liftsFinal)=true) (k27:(P.make == some c.make)=true) (k28:(c.kinds == (if c.domain.isEmpty then [] else fn.params.toList.map fun t=>match P.underlying t with|some (.int k)=>some k|_=>none))=true) (k29:(c.pinned == c.pinnedBy)=true) (k30:(c.veiled == (fn.params.toList++s.plain.varTypes P++fn.resultTypes.toList).any (P.veiledRec ·))=true) (k31:(c.veiledFits P fn.params.toList (fn.params.toList++s.plain.varTypes P++fn.resultTypes.toList))=true):joinedFacts P f fn s c=true:=by
  unfold joinedFacts
  exact and_tt (and_tt (and_tt (and_tt (and_tt (and_tt (and_tt (and_tt (and_tt (and_tt (and_tt (and_tt (and_tt (and_tt (and_tt (and_tt (and_tt (and_tt (and_tt (and_tt (and_tt (and_tt (and_tt (and_tt (and_tt (and_tt (and_tt (and_tt (and_tt (and_tt (and_tt (k0) k1) k2) k3) k4) k5) k6) k7) k8) k9) k10) k11) k12) k13) k14) k15) k16) k17) k18) k19) k20) k21) k22) k23) k24) k25) k26) k27) k28) k29) k30) k31
end Go.Proofs.YtolnagbahceebaaGreat
set_option linter.unusedSimpArgs false
set_option linter.unusedVariables false
namespace Go.Proofs.YtolnagbahceebaaGreat
open Go.RowKit Go.Shelf
set_option maxRecDepth 100000
theorem u64_rangeM (v:Int):0≤IntKind.u64.wrap v∧IntKind.u64.wrap v≤18446744073709551615:=by
  have:IntKind.u64.wrap v=v % 18446744073709551616:=by simp [IntKind.wrap,IntKind.bits,IntKind.signed]
  omega
end Go.Proofs.YtolnagbahceebaaGreat
set_option linter.unusedSimpArgs false
set_option linter.unusedVariables false
namespace Go.Proofs.YtolnagbahceebaaGreat
open Go.ChangeShapes Go.WideShapes Go.ChangeAt Go.RowKit
theorem int1_decJ {cs:List Value} (h:allW [.int .i64] cs):∃ a:Int,cs=[.int .i64 a]:=by
  match cs,h with
  | [.int k1 a],h =>
    obtain ⟨⟨rfl,_⟩,_⟩:=h
    exact ⟨a,rfl⟩
section
variable {H:Type} {enc:TypeId × Value→H} {w:World} {base:Nat} {spare:Nat→Bool} {held:Bool}
theorem u8_opensJ:Opens enc Tryz.prog w base spare held 5 fun cs=>∃ x:Int,u8V x=cs∧(0≤x∧x≤255) :=
  (Opens.flat (ks:=[.int .u8]) tb rfl rfl rfl).mono fun cs h=>by
    match cs,h with
    | [.int k1 a],h =>
      obtain ⟨⟨rfl,h2⟩,_⟩:=h
      have e0:IntKind.u8.min=0:=rfl
      have e1:IntKind.u8.max=255:=rfl
      exact ⟨a,rfl,by omega⟩
end
end Go.Proofs.YtolnagbahceebaaGreat
set_option linter.unusedSimpArgs false
set_option linter.unusedVariables false
namespace Go.Proofs.YtolnagbahceebaaGreat
open Go.RowKit Go.Shelf
structure Ak where
  seed:Int
  tick:Int
  a:Int
  b:Int
  c:Int
  d:Int
  e:Int
  f:Int
  g:Int
  h:Int
def Ak.dr (x:Ak):List Int:=[x.a,x.b,x.c,x.d,x.e,x.f,x.g,x.h]
def Ak.v (x:Ak):List Value:=[.int .i64 x.seed,.int .i64 x.tick,.int .u8 x.a,.int .u8 x.b,.int .u8 x.c,.int .u8 x.d,.int .u8 x.e,.int .u8 x.f,.int .u8 x.g,.int .u8 x.h]
theorem Ak.v_len (x:Ak):x.v.length=10:=rfl
theorem Ak.v_one (x:Ak):x.v.all Value.oneCell'=true:=rfl
def Ak.op (x:Ak) (tick:Int):Bool:=decide (x.tick > tick - 64)
def Ak.is (seed tick:Int) (dr:List Int) (x:Ak):Bool:=decide (x.seed=seed) && x.op tick && decide (x.dr=dr)
def apos (al:List Ak) (seed tick:Int) (dr:List Int):Nat:=al.findIdx (Ak.is seed tick dr)
def ak (seed tick:Int) (dr:List Int):Ak:=⟨seed,tick,dr.getD 0 0,dr.getD 1 0,dr.getD 2 0,dr.getD 3 0,dr.getD 4 0,dr.getD 5 0,dr.getD 6 0,dr.getD 7 0⟩
def Rgt (seed tick:Int):Prop:=0≤seed∧seed < 4∧0≤tick∧tick≤1073741824
instance (seed tick:Int):Decidable (Rgt seed tick):=by unfold Rgt;infer_instance
def lensI (ls:List (List Int)):List Int:=ls.map fun x=>(x.length:Int)
structure FM where
  ls:List (List Int)
  al:List Ak
  since:Int
  is:Bool
def opn (al:List Ak) (tick:Int):List Ak:=al.filter fun x=>x.op tick
def FM.askE (m:FM) (seed tick:Int) (dr:List Int):Int:=if ¬ Rgt seed tick then 10 else if apos (opn m.al tick) seed tick dr < (opn m.al tick).length then 8 else if 8≤(opn m.al tick).length then 6 else 0
def FM.ask (m:FM) (seed tick:Int) (dr:List Int):FM :=
  if ¬ Rgt seed tick then m else if m.askE seed tick dr=0 then { m with al:=opn m.al tick++[ak seed tick dr] } else { m with al:=opn m.al tick }
def FM.askB (m:FM) (seed tick:Int) (dr:List Int):List Int:=if m.askE seed tick dr=0 then dr++numsI 1 (lensI m.ls) else []
def FM.takeE (m:FM) (seed tick:Int) (dr:List Int) (dd:List (Int × List Int)):Int:=if apos m.al seed tick dr < m.al.length then appX m.ls dd else 7
instance (us vs:List Int):Decidable (Cov us vs):=by unfold Cov;infer_instance
def FM.takeY (m:FM) (seed tick:Int) (dr vs:List Int) (dd:List (Int × List Int)):Bool:=decide (m.takeE seed tick dr dd=0) && decide (Cov (lensI (appL m.ls dd)) vs)
def FM.take (m:FM) (seed tick:Int) (dr vs:List Int) (dd:List (Int × List Int)):FM :=
  if m.takeE seed tick dr dd=0 then
    ⟨appL m.ls dd,m.al.eraseIdx (apos m.al seed tick dr),if Cov (lensI (appL m.ls dd)) vs then max m.since ((m.al[apos m.al seed tick dr]?.map Ak.tick).getD 0) else m.since,m.is || decide (Cov (lensI (appL m.ls dd)) vs)⟩
  else m
theorem cut_sin {ss:List (List Int)} {vs:List Int} (n:Nat) {i:Nat} {d:Int × List Int} {s:List Int} (hd:(cutD n (sinD ss vs))[i]? = some d) (hs:ss[i]? = some s):∃ n,d.2=(s.drop d.1.toNat).take n:=by
  have hi:i < (sinD ss vs).length:=by have:=(List.getElem?_eq_some_iff.1 hd).1;rwa [cutD_len] at this
  have hi2:i < vs.length:=by simp only [sinD,List.length_map,List.length_zip] at hi;omega
  obtain ⟨v,hv⟩:∃ v,vs[i]? = some v:=⟨_,List.getElem?_eq_getElem hi2⟩
  have h1:=sin_get hs hv
  obtain ⟨h2,_⟩:=cutD_get _ n i _ h1
  rw [h2] at hd
  cases hd
  exact ⟨_,rfl⟩
theorem opn_mem {al:List Ak} {t:Int} {a:Ak} (h:a∈opn al t):a∈al:=(List.mem_filter.1 h).1
structure FAct where
  kind:Int
  seed:Int
  tick:Int
  room:Int
  a:Int
  b:Int
  c:Int
  d:Int
  e:Int
  f:Int
  g:Int
  h:Int
  p:Option Addr
  cap:Nat
  xs:List Int
instance:Inhabited FAct:=⟨⟨0,0,0,0,0,0,0,0,0,0,0,0,none,0,[]⟩⟩
def FAct.dr (x:FAct):List Int:=[x.a,x.b,x.c,x.d,x.e,x.f,x.g,x.h]
def FAct.v (x:FAct):List Value:=[.int .i64 x.kind,.int .i64 x.seed,.int .i64 x.tick,.int .i64 x.room,.int .u8 x.a,.int .u8 x.b,.int .u8 x.c,.int .u8 x.d,.int .u8 x.e,.int .u8 x.f,.int .u8 x.g,.int .u8 x.h,.slice x.p x.xs.length x.cap]
theorem FAct.v_len (x:FAct):x.v.length=13:=rfl
structure FAct.okR (w:World) (x:FAct):Prop where
  rd:RdSl w x.p u8V x.xs
  byt:Byt x.xs
  cap:x.xs.length≤x.cap
end Go.Proofs.YtolnagbahceebaaGreat
set_option linter.unusedSimpArgs false
set_option linter.unusedVariables false
namespace Go.Proofs.YtolnagbahceebaaGreat
open Go.ChangeShapes Go.WideShapes Go.ChangeAt Go.RowKit
theorem cut9f (cs:List Value) (a n m:Nat) (h:a+n=m):(cs.drop a).take n++cs.drop m=cs.drop a:=by
  have e:=List.take_append_drop n (cs.drop a)
  rw [List.drop_drop,h] at e
  exact e
theorem u8n_decF (n:Nat):∀ cs,allW (List.replicate n (.int .u8)) cs→∃ t:List Int,t.length=n∧u8s t=cs:=by
  induction n with
  | zero =>
    intro cs h
    match cs,h with
    | [],_=>exact ⟨[],rfl,rfl⟩
  | succ n ih =>
    intro cs h
    rw [List.replicate_succ] at h
    match cs,h with
    | .int k1 a::r,h =>
      obtain ⟨⟨rfl,_⟩,h2⟩:=h
      obtain ⟨t,h3,h4⟩:=ih r h2
      exact ⟨a::t,by rw [List.length_cons,h3],by rw [← h4];rfl⟩
section
variable {H:Type} {enc:TypeId × Value→H} {w:World} {base:Nat} {spare:Nat→Bool} {held:Bool}
theorem fa_opens:Opens enc Tryz.prog w base spare held 60 fun cs=>∃ x:FAct,x.v=cs∧x.okR w:=by
  have hi:Opens enc Tryz.prog w base spare held 3 fun cs=>∃ a:Int,cs=[.int .i64 a]:=(Opens.flat (ks:=[.int .i64]) tb rfl rfl rfl).mono fun cs h=>int1_decJ h
  have h0:=Opens.field (enc:=enc) (w:=w) (base:=base) (spare:=spare) (held:=held) tb (t:=60) rfl rfl 0 rfl hi
  have h1:=Opens.field (enc:=enc) (w:=w) (base:=base) (spare:=spare) (held:=held) tb (t:=60) rfl rfl 1 rfl hi
  have h2:=Opens.field (enc:=enc) (w:=w) (base:=base) (spare:=spare) (held:=held) tb (t:=60) rfl rfl 2 rfl hi
  have h3:=Opens.field (enc:=enc) (w:=w) (base:=base) (spare:=spare) (held:=held) tb (t:=60) rfl rfl 3 rfl hi
  have h4:=Opens.field (enc:=enc) (w:=w) (base:=base) (spare:=spare) (held:=held) tb (t:=60) rfl rfl 4 rfl ((Opens.flat (ks:=List.replicate 8 (.int .u8)) tb rfl rfl rfl).mono (u8n_decF 8))
  have h5:=Opens.field (enc:=enc) (w:=w) (base:=base) (spare:=spare) (held:=held) tb (t:=60) rfl rfl 5 rfl (Opens.slice u8V (fun x=>0≤x∧x≤255) tb rfl rfl rfl rfl (fun _=>rfl) u8_opensJ)
  refine (((((h0.and h1).and h2).and h3).and h4).and h5).mono ?_
  rintro cs ⟨⟨⟨⟨⟨⟨hl,k,e0⟩,⟨_,s,e1⟩⟩,⟨_,t,e2⟩⟩,⟨_,r,e3⟩⟩,⟨_,z,hz,e4⟩⟩,⟨_,p,xs,cap,e5,q1,q2,_,q4,_⟩⟩
  match z,hz with
  | [z0,z1,z2,z3,z4,z5,z6,z7],_ =>
  refine ⟨⟨k,s,t,r,z0,z1,z2,z3,z4,z5,z6,z7,p,cap,xs⟩,?_,q1,q4,q2⟩
  replace hl:cs.length=13:=hl
  have z5':(cs.drop 12).take 1=cs.drop 12:=List.take_of_length_le (by rw [List.length_drop,hl];decide)
  have e6:FAct.v ⟨k,s,t,r,z0,z1,z2,z3,z4,z5,z6,z7,p,cap,xs⟩=[.int .i64 k]++([.int .i64 s]++([.int .i64 t]++([.int .i64 r]++(u8s [z0,z1,z2,z3,z4,z5,z6,z7]++[.slice p xs.length cap])))):=rfl
  rw [e6,← e0,← e1,← e2,← e3,e4,← e5,z5',cut9f cs 4 8 12 rfl,cut9f cs 3 1 4 rfl,cut9f cs 2 1 3 rfl,cut9f cs 1 1 2 rfl,cut9f cs 0 1 1 rfl]
  rfl
end
end Go.Proofs.YtolnagbahceebaaGreat
set_option linter.unusedSimpArgs false
set_option linter.unusedVariables false
namespace Go.Proofs.YtolnagbahceebaaGreat
open Go.RowKit Go.Shelf
section
variable {X:Cx} {σ:Env} {L L':Lst} {ty:TypeId} {pos:String} {af:Array Edge} {x y:Operand} {t t2 e te:TypeId} {r r2 re:TRow} {b o n m j cap:Nat} {cs cs':List Value} {all:Array Oper} {rest:List Oper} {K:Env→Lst→Prop} {dd:Nat}
theorem R.appendIn {e2:Nat} {old news junk:List Value} {s2:Value} (hn:Nat.blt dd X.n=true) (ht:X.tb.row t=some r) (hk:r.k = .slice e) (he:X.tb.row e=some re) (ht2:X.tb.row t2=some r2) (hk2:r2.k = .slice e2)
    (hx:ev σ x=some (.slice (some ⟨b,0,none⟩) n cap)) (hcp:n+j=cap) (hy:ev σ y=some s2) (hs2:Builtin.lenOf s2=Pure.pure m) (ho:old.length=n * re.size) (hj:junk.length=j * re.size)
    (hu:Upd L b (.cells ⟨old++junk⟩ te (0,0)) (.cells ⟨old++news++junk.drop news.length⟩ te (0,0)) L') (hh:∀ w,Hp X.w0 X.S L w→Holds w s2 news) (hlen:news.length=m * re.size)
    (h1:news.all Value.oneCell'=true) (hm:m≤j) (h:R X all rest K ((dd,.slice (some ⟨b,0,none⟩) (n+m) cap)::σ) L') :
    R X all (⟨some dd,.call { callee:=.builtin .append,args:=#[x,y],argTypes:=#[t,t2] },ty,pos,af,none⟩::rest) K σ L :=
  R.value rfl rfl hn fun a w ha hw=>by
    subst hcp
    have hu1:X.P.underlying t=some (.slice e):=by have:=(X.tb.get ht).is;rw [hk] at this;exact this
    have hu2:X.P.underlying t2=some (.slice e2):=by have:=(X.tb.get ht2).is;rw [hk2] at this;exact this
    have hset:=setE_mid old (vs:=news) (junk:=junk) (by rw [hlen,hj];exact Nat.mul_le_mul_right _ hm)
    have hb:=hw.get _ _ hu.mem
    obtain ⟨w',g1,g2,g3⟩:=run_stores X.P ((⟨b,0,none⟩:Addr).add (n * re.size)) (by rw [Addr.add_none]) te news 0 w (old++junk) (old++news++junk.drop news.length) h1 (by rw [Addr.add_none];exact hb) (by rw [Addr.add_none];simpa [ho] using hset)
    rw [Addr.add_none] at g1 g2 g3
    have hf2:=first_run (P:=X.P) (hh w hw) hlen
    refine ⟨.slice (some ⟨b,0,none⟩) (n+m) (n+j),w',L',?_,hw.upd hu g3 g2,h⟩
    have hrun:(Builtin.append_ #[t,t2] ty #[.slice (some ⟨b,0,none⟩) n (n+j),s2]).run X.P w = .ok (.slice (some ⟨b,0,none⟩) (n+m) (n+j)) w':=by
      unfold Builtin.append_
      simp only [List.getElem?_toArray,List.getElem?_cons_zero,List.getElem?_cons_succ,Sem.run_bind,run_underlying hu1,run_underlying hu2,Result.andThen_ok,(X.tb.get he).size,Sem.run_pure,Bool.false_eq_true,if_false,hs2,Bool.not_false,if_true,
        show n+m≤n+j by omega,Sem.run_ite,hf2,Addr.add_none,g1]
    simp [execOp,resolve,ha.ev hx,ha.ev hy,invoke,builtin,hrun]
theorem zc_gen {zero:Array Value} {zc:List Value} (hk:0 < zc.length) (hz:zero=⟨zc⟩):∀ n,(Builtin.zeroCells zero n).toList=(List.replicate n zc).flatten
  | 0=>by subst hz;simp [Builtin.zeroCells]
  | n + 1=>by
    have ih:=zc_gen hk hz n
    subst hz
    simp only [Builtin.zeroCells,Array.toList_map,Array.toList_range] at ih ⊢
    rw [List.replicate_succ',List.flatten_append,← ih,show (n+1) * (⟨zc⟩:Array Value).size=n * (⟨zc⟩:Array Value).size+(⟨zc⟩:Array Value).size by rw [Nat.add_mul,Nat.one_mul],List.range_add,List.map_append]
    congr 1
    simp only [List.map_map,List.flatten_cons,List.flatten_nil,List.append_nil]
    apply List.ext_getElem
    · simp
    · intro i h1 h2
      have hi:i < zc.length:=h2
      have hm:(n * zc.length+i) % zc.length=i:=by rw [Nat.add_comm,Nat.add_mul_mod_self_right,Nat.mod_eq_of_lt hi]
      simp [hm,hi]
theorem R.clearG {zc:List Value} (ht:X.tb.row t=some r) (hk:r.k = .slice e) (he:X.tb.row e=some re) (hz:cellsE re.zero=some zc) (hk0:0 < zc.length) (h10:zc.all Value.oneCell'=true) (hx:ev σ x=some (.slice (some ⟨b,o,none⟩) n cap)) (hn:0 < n)
    (hu:Upd L b (.cells ⟨cs⟩ te (0,0)) (.cells ⟨cs'⟩ te (0,0)) L') (hc:setE cs o (List.replicate n zc).flatten=some cs') (h:R X all rest K σ L') :
    R X all (⟨none,.call { callee:=.builtin .clear,args:=#[x],argTypes:=#[t] },ty,pos,af,none⟩::rest) K σ L :=
  R.value0 rfl rfl fun a w ha hw=>by
    have hall:((List.replicate n zc).flatten).all Value.oneCell'=true:=by
      rw [List.all_eq_true] at h10 ⊢
      intro v hv
      obtain ⟨l,hl,hvl⟩:=List.mem_flatten.1 hv
      rw [(List.mem_replicate.1 hl).2] at hvl
      exact h10 v hvl
    obtain ⟨w',h2,h3,h4⟩:=run_stores X.P ⟨b,o,none⟩ rfl te (List.replicate n zc).flatten 0 w cs cs' hall (hw.get _ _ hu.mem) hc
    have hcs:=cellsE_eq hz
    have hzc:=zc_gen hk0 hcs n
    have hu1:X.P.underlying t=some (.slice e):=by have:=(X.tb.get ht).is;rw [hk] at this;exact this
    refine ⟨.tuple #[],w',L',?_,hw.upd hu h4 h3,h⟩
    obtain ⟨n,rfl⟩:∃ m,n=m+1:=⟨n - 1,by omega⟩
    simp [execOp,resolve,ha.ev hx,invoke,builtin,Builtin.clear_,run_underlying hu1,(X.tb.get he).zero,hzc,h2]
theorem Ok1.sufB {d:Option Nat} {g:Option (Nat × Bool)} {lo:Operand} {i sz:Nat} (ht:X.tb.row t=some r) (hk:r.k = .slice e) (he:X.tb.row e=some re) (hsz:re.size=sz) (hx:ev σ x=some (.slice (some ⟨b,0,none⟩) n cap)) (hl:ev σ lo=some (.int .i64 i)) (h1:i≤n) (h2:n≤cap) (h3:i < cap) :
    Ok1 X ⟨d,.slice t x (some lo) none none,ty,pos,af,g⟩ σ L (.slice (some ⟨b,i * sz,none⟩) (n - i) (cap - i)):=.mk fun a w ha hw=>by
  subst hsz
  rw [slice_run (l:=(i:Int)) (h:=(n:Int)) (m:=(cap:Int)) X.tb ht hk he ha hx rfl rfl (by simp [bd,hl]) (by omega) (by omega) (by omega) (by omega) (.inl rfl)]
  simp only [Int.toNat_natCast,Option.map_some,Addr.add_none,Nat.zero_add,if_neg (show ¬ cap=i by omega)]
theorem Ok1.preB {d:Option Nat} {g:Option (Nat × Bool)} {hi:Operand} {i:Nat} (ht:X.tb.row t=some r) (hk:r.k = .slice e) (he:X.tb.row e=some re) (hx:ev σ x=some (.slice (some ⟨b,0,none⟩) n cap)) (hl:ev σ hi=some (.int .i64 i)) (h2:i≤cap) :
    Ok1 X ⟨d,.slice t x none (some hi) none,ty,pos,af,g⟩ σ L (.slice (some ⟨b,0,none⟩) i cap):=.mk fun a w ha hw=>by
  rw [slice_run (l:=0) (h:=(i:Int)) (m:=(cap:Int)) X.tb ht hk he ha hx rfl (by simp [bd,hl]) rfl (by omega) (by omega) (by omega) (by omega) (.inl rfl)]
  simp [Addr.add_none]
theorem Ok1.midB {d:Option Nat} {g:Option (Nat × Bool)} {lo hi:Operand} {i m sz:Nat} (ht:X.tb.row t=some r) (hk:r.k = .slice e) (he:X.tb.row e=some re) (hsz:re.size=sz) (hx:ev σ x=some (.slice (some ⟨b,0,none⟩) n cap)) (hl:ev σ lo=some (.int .i64 i)) (hh:ev σ hi=some (.int .i64 m)) (h1:i≤m) (h2:m≤cap) (h3:i < cap) :
    Ok1 X ⟨d,.slice t x (some lo) (some hi) none,ty,pos,af,g⟩ σ L (.slice (some ⟨b,i * sz,none⟩) (m - i) (cap - i)):=.mk fun a w ha hw=>by
  subst hsz
  rw [slice_run (l:=(i:Int)) (h:=(m:Int)) (m:=(cap:Int)) X.tb ht hk he ha hx rfl (by simp [bd,hh]) (by simp [bd,hl]) (by omega) (by omega) (by omega) (by omega) (.inl rfl)]
  simp only [Int.toNat_natCast,Option.map_some,Addr.add_none,Nat.zero_add,if_neg (show ¬ cap=i by omega)]
theorem Ok1.mid3B {d:Option Nat} {g:Option (Nat × Bool)} {lo hi mx:Operand} {i m q sz:Nat} (ht:X.tb.row t=some r) (hk:r.k = .slice e) (he:X.tb.row e=some re) (hsz:re.size=sz) (hx:ev σ x=some (.slice (some ⟨b,0,none⟩) n cap)) (hl:ev σ lo=some (.int .i64 i)) (hh:ev σ hi=some (.int .i64 m)) (hm:ev σ mx=some (.int .i64 q)) (h1:i≤m) (h2:m≤q) (h4:q≤cap) (h3:i < q) :
    Ok1 X ⟨d,.slice t x (some lo) (some hi) (some mx),ty,pos,af,g⟩ σ L (.slice (some ⟨b,i * sz,none⟩) (m - i) (q - i)):=.mk fun a w ha hw=>by
  subst hsz
  rw [slice_run (l:=(i:Int)) (h:=(m:Int)) (m:=(q:Int)) X.tb ht hk he ha hx (by simp [bd,hm]) (by simp [bd,hh]) (by simp [bd,hl]) (by omega) (by omega) (by omega) (by omega) (.inr (by simp))]
  simp only [Int.toNat_natCast,Option.map_some,Addr.add_none,Nat.zero_add,if_neg (show ¬ q=i by omega)]
end
end Go.Proofs.YtolnagbahceebaaGreat
