/- Contracts of mac: framed. -/
import Derived.Test.YtiegdpmkgegbaaaMc2
set_option linter.unusedSimpArgs false
set_option linter.unusedVariables false
namespace Go.Proofs.Ytiegdpmkgegbaaa
open Go.RowKit Go.Shelf
set_option maxRecDepth 100000

def len4 (n : Int) : List Int := [n / 16777216 % 256, n / 65536 % 256, n / 256 % 256, n % 256]
theorem len4_byt (n : Int) : Byt (len4 n) := by
  intro y hy
  simp only [len4, List.mem_cons, List.not_mem_nil, or_false] at hy
  rcases hy with rfl | rfl | rfl | rfl <;> omega
def frameI (ls : List (List Int)) : List Int := ls.flatMap fun b => len4 b.length ++ b
theorem frame_app (a b : List (List Int)) : frameI (a ++ b) = frameI a ++ frameI b := List.flatMap_append
theorem frame_one (b : List Int) : frameI [b] = len4 b.length ++ b := by simp [frameI]
theorem cat_app (a b : List Pt) : cat (a ++ b) = cat a ++ cat b := List.flatMap_append
theorem cellsE_slV (ov : Ov) (n : Nat) : cellsE (slV ov n) = some [slV ov n] := by cases ov <;> rfl
theorem one_slV (ov : Ov) (n : Nat) : [slV ov n].all Value.oneCell' = true := by cases ov <;> rfl
theorem Pt.v_one (x : Pt) : x.v.all Value.oneCell' = true := rfl
theorem add_ok (p : Option Addr) (n cap : Nat) (xs : List Int) (hn : n = xs.length) (hbig : n ≤ 1000000000) (bo : Nat) (ov : Ov) (pts : List Pt) (hov : OvOk 1 ov pts.length (fl Pt.v pts)) (hpl : pts.length ≤ 1000000) (w : World) :
    CallM Try.prog 91 [.slice p n cap, .pointer (some ⟨bo, 0, none⟩)] ((bo, .cells ⟨[slV ov pts.length]⟩ 93 (0, 0)) :: blkL 22 ov (fl Pt.v pts)) w fun v L => ∃ ov' b4, v = .tuple #[] ∧ OvOk 1 ov' (pts.length + 2) (fl Pt.v (pts ++ [⟨some ⟨b4, 0, none⟩, 4, len4 n⟩, ⟨p, cap, xs⟩])) ∧
      L = (bo, .cells ⟨[slV ov' (pts.length + 2)]⟩ 93 (0, 0)) :: (blkL 22 ov' (fl Pt.v (pts ++ [⟨some ⟨b4, 0, none⟩, 4, len4 n⟩, ⟨p, cap, xs⟩])) ++ [(b4, .cells ⟨u8s (len4 n)⟩ 5 (0, 0))]) := by
  subst hn
  refine enterK (tb := tb) Try.func91 rfl Try.ntmps91 rfl ?_
  repeat' (first | (apply R.is1; first | (apply R.isBin; (apply R.pure; exact rfl; (apply Ok1.shr; exact rfl; exact rfl; omega; exact Nat.le_of_ble_eq_true rfl; (first | exact pwE8 | exact pwE16 | exact pwE24)))) | (apply R.isCall; (apply R.pure; exact rfl; (apply Ok1.lenS; (iterate 3 exact rfl)))) | (apply R.pure; exact rfl; first | (apply Ok1.convU32; (iterate 5 exact rfl); omega; omega) | (apply Ok1.move; exact rfl) | (apply Ok1.load; exact rfl; (apply Ld.own1; exact rfl; exact rfl; exact At.head; exact rfl)) | (apply Ok1.assign; exact rfl) | (apply Ok1.convU8; (iterate 5 exact rfl); omega; omega) | (apply Ok1.conv; (iterate 5 exact rfl))) | (apply R.buildSlice; (iterate 12 exact rfl); intro)) | apply R.nil | (apply T.is; first | apply T.seq | apply T.region))
  rename_i b4 be
  simp only [u8_mod]
  have h4 : (xs.length : Int) / 16777216 = (xs.length : Int) / 16777216 % 256 := by omega
  rw [h4]
  repeat' (first | (apply R.is1; (apply R.isCall; (apply R.appendRd (xs := [⟨some ⟨b4, 0, none⟩, 4, len4 xs.length⟩, ⟨p, cap, xs⟩]) (v := Pt.v) (sz := 1) (ov := ov) (n := pts.length) (old := fl Pt.v pts); (iterate 12 exact rfl); exact hov; (focus ((repeat' (first | exact Ext.all _ | apply Ext.cons)); done)); exact rfl; exact Pt.v_len; exact rfl; (intro w1 hw1; exact RdSl.of (junk := []) hw1 (by exact At.head) rfl); exact rfl; omega; intro ov1 hov1 hsome))) | (apply R.is0; (apply R.store; (iterate 3 exact rfl); exact cellsE_slV _ _; exact rfl; exact one_slV _ _; (focus ((repeat' (first | exact Upd.head | apply Upd.tail | apply Upd.right)); done)); exact rfl)) | apply R.nil)
  (apply RetOk.n)
  rw [← fl_app] at hov1 ⊢
  refine ⟨_, ?_, ov1, b4, rfl, hov1, rfl⟩
  (focus ((repeat' (first | exact Keep.nil _ | exact Ext.one _ _ | exact Ext.here _ _ | apply Keep.cons | apply Keep.app | apply Ext.cons | apply Ext.app)); done))
theorem RdSl.heap {α : Type} {v : α → List Value} {rs : List α} {w : World} {b : Nat} {e : TypeId} {fz : Nat × Nat} {junk : List Value} (h : w.heap[b]? = some (.cells ⟨fl v rs ++ junk⟩ e fz)) : RdSl w (some ⟨b, 0, none⟩) v rs := by
  right
  refine ⟨b, 0, rfl, fun k hk => ?_⟩
  simp only [World.cell?, h]
  simp [hk, List.getElem?_append_left]
/-- What has been framed so far: the parts, and the blocks that they lie in. -/
structure FO where
  ov : Ov
  pts : List Pt
  ex : Lst
def FOok (f : FO) (ls : List (List Int)) (src : World → Prop) : Prop := OvOk 1 f.ov f.pts.length (fl Pt.v f.pts) ∧ f.pts.length = 2 * ls.length ∧ cat f.pts = frameI ls ∧ ∀ W, (∀ z ∈ f.ex, W.heap[z.1]? = some z.2) → src W → ∀ x ∈ f.pts, RdSl W x.p u8V x.xs
theorem framed_ok (name : ByteArray) (pp : Option Addr) (m cap : Nat) (ps : List Pt) (hm : m = ps.length) (hm2 : m ≤ 100000) (hname : name.size ≤ 1000000) (hbig : ∀ x ∈ ps, x.xs.length ≤ 1000000000) (w : World) (hp : RdSl w pp Pt.v ps) :
    CallM Try.prog 69 [.string name, .slice pp m cap] [] w fun v L => ∃ f : FO, v = slV f.ov f.pts.length ∧ L = blkL 22 f.ov (fl Pt.v f.pts) ++ f.ex ∧ FOok f (strI name :: ps.map (·.xs)) (fun W => ∀ x ∈ ps, RdSl W x.p u8V x.xs) := by
  subst hm
  refine enterK (tb := tb) Try.func69 rfl Try.ntmps69 rfl ?_
  have hnl : (strI name).length = name.size := by simp [strI]
  repeat' (first | (apply R.is1; first | (apply R.convBytes; (iterate 8 exact rfl); intro bn jn kn) | (apply R.pure; exact rfl; first | (apply Ok1.move; exact rfl) | (apply Ok1.assign; exact rfl) | (apply Ok1.makeFunc; exact rfl; exact rfl)) | (apply R.alloc; (iterate 3 exact rfl); intro)) | apply R.nil | (apply T.is; first | apply T.seq | apply T.region))
  rename_i bo
  obtain ⟨src, hsrc⟩ : ∃ src : World → Prop, src = fun W => ∀ x ∈ ps, RdSl W x.p u8V x.xs := ⟨_, rfl⟩
  rw [← hsrc]
  repeat' (first | (apply R.is1; first | (apply R.isCall; first | (apply R.callFE (fa := []) (cb := [.pointer (some ⟨bo, 0, none⟩)]) (Li := [(bo, .cells ⟨[.slice none 0 0]⟩ 93 (0, 0))]); (iterate 4 exact rfl); (focus ((repeat' (first | exact Ext.one _ _ | apply Ext.cons)); done)); intro w1 hw1; exact add_ok (some ⟨bn, 0, none⟩) name.size _ (strI name) hnl.symm (by omega) bo none [] (OvOk.start 1) (by decide) w1; rintro v Lo ⟨ov1, b4, rfl, hov1, rfl⟩) | (apply R.pure; exact rfl; (apply Ok1.lenS; (iterate 3 exact rfl)))) | (apply R.pure; exact rfl; (apply Ok1.move; exact rfl))) | apply R.nil | (apply T.is; first | apply T.seq | apply T.region | apply T.block))
  apply T.loopK (α := Nat × FO) (I := fun y => y.1 ≤ ps.length ∧ FOok y.2 (strI name :: (ps.take y.1).map (·.xs)) src) (σi := fun y => [(5, .pointer (some ⟨bo, 0, none⟩)), (6, .func (.func 91) #[] #[.pointer (some ⟨bo, 0, none⟩)]), (14, .slice pp ps.length cap), (15, .int .i64 ps.length), (16, .int .i64 y.1)])
    (Li := fun y => (bo, .cells ⟨[slV y.2.ov y.2.pts.length]⟩ 93 (0, 0)) :: (blkL 22 y.2.ov (fl Pt.v y.2.pts) ++ y.2.ex)) (μ := fun y => ps.length - y.1)
    (i0 := (0, ⟨ov1, [⟨some ⟨b4, 0, none⟩, 4, len4 name.size⟩, ⟨some ⟨bn, 0, none⟩, name.size + jn, strI name⟩], [(b4, .cells ⟨u8s (len4 name.size)⟩ 5 (0, 0)), (bn, .cells ⟨(strI name).map (.int .u8) ++ kn⟩ 5 (name.size + jn, name.size + jn + 1))]⟩))
  · refine ⟨Nat.zero_le _, hov1, rfl, ?_, fun W hex _ x hx => ?_⟩
    · simp [cat, frameI, hnl]
    · rcases List.mem_cons.1 hx with rfl | hx
      · exact RdSl.heap (junk := []) (e := 5) (fz := (0, 0)) (by rw [fl_u8, List.append_nil]; exact hex _ List.mem_cons_self)
      · rw [List.mem_singleton.1 hx]
        exact RdSl.heap (junk := kn) (e := 5) (fz := (name.size + jn, name.size + jn + 1)) (by rw [fl_u8]; exact hex _ (List.mem_cons_of_mem _ List.mem_cons_self))
  · exact ⟨rfl, rfl, rfl, rfl, rfl, trivial⟩
  · simp only [List.nil_append, List.cons_append, List.append_assoc]
    (focus ((repeat' (first | exact Keep.nil _ | exact Ext.one _ _ | exact Ext.here _ _ | apply Keep.cons | apply Keep.app)); done))
  · rintro ⟨i, f⟩ ⟨hi, hov, hlen, hcat, hrd⟩
    simp only at hi hov hlen hcat hrd ⊢
    have hll : (strI name :: (ps.take i).map (·.xs)).length = i + 1 := by simp; omega
    rw [hll] at hlen
    rcases Nat.lt_or_ge i ps.length with hlt | hge
    · obtain ⟨x, hx⟩ : ∃ x, ps[i]? = some x := ⟨_, List.getElem?_eq_getElem (by omega)⟩
      obtain ⟨b', o', hpe, H⟩ := hp.at hx
      replace H := H 1 Pt.v_len
      have hxb := hbig x (List.mem_of_getElem? hx)
      have hls : strI name :: (ps.take (i + 1)).map (·.xs) = (strI name :: (ps.take i).map (·.xs)) ++ [x.xs] := by rw [List.take_add_one, hx]; simp
      obtain ⟨ov, pts, ex⟩ := f
      simp only at hov hlen hcat hrd ⊢
      repeat' (first | (apply R.is1; first | (apply R.isBin; (apply R.pure; exact rfl; first | (apply Ok1.add64; exact rfl; exact rfl; omega; omega) | (apply Ok1.lss_t; exact rfl; exact rfl; omega))) | (apply R.isCall; (apply R.callFE (fa := []) (cb := [.pointer (some ⟨bo, 0, none⟩)]) (Li := (bo, .cells ⟨[slV ov pts.length]⟩ 93 (0, 0)) :: blkL 22 ov (fl Pt.v pts)); (iterate 4 exact rfl); (focus (exact Ext.here ((bo, .cells ⟨[slV ov pts.length]⟩ 93 (0, 0)) :: blkL 22 ov (fl Pt.v pts)) ex)); intro w1 hw1; exact add_ok x.p x.xs.length x.cap x.xs rfl hxb bo ov pts hov (by omega) w1; rintro v Lo ⟨ov2, b5, rfl, hov2, rfl⟩)) | (apply R.pure; exact rfl; first | (apply Ok1.indexAddrP; (iterate 4 exact rfl); exact hpe; exact rfl; omega; omega) | (apply Ok1.load; exact rfl; apply Ld.row0 H; exact rfl; exact List.not_mem_nil; (iterate 3 exact rfl)) | (apply Ok1.move; exact rfl) | (apply Ok1.assign; exact rfl))) | apply R.nil | (apply T.is; first | apply T.seq | apply T.region | apply T.block | apply T.skip | (apply T.cond_t; exact rfl)))
      refine ⟨(i + 1, ⟨ov2, pts ++ [⟨some ⟨b5, 0, none⟩, 4, len4 x.xs.length⟩, x], (b5, .cells ⟨u8s (len4 x.xs.length)⟩ 5 (0, 0)) :: ex⟩), ⟨by simp only; omega, ?_⟩, by simp only; omega, ⟨rfl, rfl, rfl, rfl, rfl, trivial⟩, ?_⟩
      · rw [hls]
        refine ⟨by simpa using hov2, by simp [hlen]; omega, ?_, fun W hex hs y hy => ?_⟩
        · rw [frame_app, cat_app, hcat, frame_one]
          simp [cat]
        · rcases List.mem_append.1 hy with hy | hy
          · exact hrd W (fun z hz => hex z (List.mem_cons_of_mem _ hz)) hs y hy
          · rcases List.mem_cons.1 hy with rfl | hy
            · exact RdSl.heap (junk := []) (e := 5) (fz := (0, 0)) (by rw [fl_u8, List.append_nil]; exact hex _ List.mem_cons_self)
            · rw [List.mem_singleton.1 hy]
              rw [hsrc] at hs
              exact hs x (List.mem_of_getElem? hx)
      · simp only [List.length_append, List.length_cons, List.length_nil, List.append_assoc, List.cons_append, List.nil_append]
        (focus ((repeat' (first | exact Ext.one _ _ | exact Ext.here _ _ | exact Ext.all _ | apply Keep.cons | apply Keep.app | apply Keep.last)); done))
    · have him : i = ps.length := by omega
      subst him
      rw [List.take_length] at hcat
      repeat' (first | (apply R.is1; first | (apply R.isBin; (apply R.pure; exact rfl; (apply Ok1.lss_f; exact rfl; exact rfl; omega))) | (apply R.pure; exact rfl; first | (apply Ok1.load; exact rfl; (apply Ld.own1; exact rfl; exact rfl; exact At.head; exact rfl)) | (apply Ok1.assign; exact rfl))) | apply R.nil | (apply T.is; first | apply T.seq | apply T.region | apply T.exit | apply T.ret | (apply T.cond_f; exact rfl)))
      (apply RetOk.t; exact rfl)
      refine ⟨_, ?_, f, rfl, rfl, hov, ?_, hcat, hrd⟩
      · (focus ((repeat' (first | exact Ext.here _ _ | exact Ext.all _ | apply Keep.app | apply Keep.last | apply Ext.cons)); done))
      · simp [hlen]
end Go.Proofs.Ytiegdpmkgegbaaa
