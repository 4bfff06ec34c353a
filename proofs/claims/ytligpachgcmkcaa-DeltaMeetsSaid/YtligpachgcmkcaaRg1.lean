/- The statement RevokeGrows: its walk. -/
import Derived.Test.YtligpachgcmkcaaRg0
import Derived.Test.YtligpachgcmkcaaEng25
set_option linter.unusedSimpArgs false
set_option linter.unusedVariables false
namespace Go.Proofs.Ytligpachgcmkcaa
open Go.RowKit Go.Shelf
set_option maxRecDepth 100000

structure RAct where
  kind : Int
  n : Int
  l : Pi
  f0 : Int
  f1 : Int
  f2 : Int
  f3 : Int
  l0 : Pi
  l1 : Pi
  l2 : Pi
  l3 : Pi
deriving Inhabited
def Pi.w (z : Pi) : Value := .slice z.p z.xs.length z.cap
def RAct.v (a : RAct) : List Value := [.int .i64 a.kind, .int .i64 a.n, a.l.w, .int .i64 a.f0, .int .i64 a.f1, .int .i64 a.f2, .int .i64 a.f3, a.l0.w, a.l1.w, a.l2.w, a.l3.w]
theorem RAct.v_len (a : RAct) : a.v.length = 11 := rfl
def RAct.d (a : RAct) : Dl := [(a.f0, a.l0), (a.f1, a.l1), (a.f2, a.l2), (a.f3, a.l3)]
structure RAct.ok (w : World) (a : RAct) : Prop where
  rd : RdSl w a.l.p iV a.l.xs
  cap : a.l.xs.length ≤ a.l.cap
  drd : ∀ x ∈ a.d, RdSl w x.2.p iV x.2.xs
  dcap : ∀ x ∈ a.d, x.2.xs.length ≤ x.2.cap
theorem ovoff {ov : Ov} {xs : List Value} {e : Nat} {w0 w : World} {S : List Nat} {L Li Lr : Lst} (hw : Hp w0 S L w) (he : Ext L Li Lr) (hin : ∀ z ∈ blkL e ov xs, z ∈ Lr) : Off (ovp ov) (blks Li) := by
  intro a ha
  cases ov with
  | none => cases ha
  | some q =>
    obtain ⟨b, j, junk⟩ := q
    cases ha
    exact RdSl.off hw he (hin _ List.mem_cons_self)
theorem DlO.off {d : Dl} {M : Lst} (h : DlO d M) {w0 w : World} {S : List Nat} {L Li Lr : Lst} (hw : Hp w0 S L w) (he : Ext L Li Lr) (hin : ∀ z ∈ M, z ∈ Lr) : ∀ x ∈ d, x.2.xs ≠ [] → Off x.2.p (blks Li) := by
  intro x hx hne a ha
  obtain ⟨b, o, hp, hb⟩ := h.adr x hx hne
  rw [hp] at ha
  cases ha
  obtain ⟨z, hz, hze⟩ := List.mem_map.1 hb
  obtain ⟨zb, zo⟩ := z
  simp only at hze
  subst hze
  exact RdSl.off hw he (hin _ hz)
theorem pur_len {d : Dl} {e : List (Int × List Int)} (h : pur d = e) : d.length = e.length := by rw [← h, pur, List.length_map]
theorem tak_le {d : Dl} {e : Dl} (h : pur d = e.map fun x => (x.1, x.2.xs.take 40)) {x : Int × Pi} (hx : x ∈ d) : x.2.xs.length ≤ 1000000 := by
  have h1 : (x.1, x.2.xs) ∈ pur d := List.mem_map.2 ⟨x, hx, rfl⟩
  rw [h] at h1
  obtain ⟨y, _, hy⟩ := List.mem_map.1 h1
  have : x.2.xs = y.2.xs.take 40 := (congrArg Prod.snd hy).symm
  rw [this, List.length_take]
  omega
theorem grows_ok (p : Option Addr) (cap : Nat) (ls : List RAct) (w : World) (hp : RdSl w p RAct.v ls) (hok : ∀ a ∈ ls, a.ok w) :
    CallW Try.prog 3 [.slice p ls.length cap] w fun v _ => v = .bool true := by
  refine enterW (tb := tb) Try.func3 rfl Try.ntmps3 rfl ?_
  repeat' (first | (apply R.is1; first | (apply R.isCall; (apply R.callE (vs := []); (iterate 3 exact rfl); exact Ext.none _; intro w1 hw1; exact rnew_ok w1; rintro v Lo ⟨bs, rfl, rfl⟩)) | (apply R.pure; exact rfl; (apply Ok1.assign; exact rfl))) | apply R.nil | (apply T.is; first | apply T.seq | apply T.region | apply T.block))
  apply T.loopK (α := Nat × List Lg) (I := fun y => y.1 ≤ ls.length ∧ y.1 ≤ 12 ∧ GOk y.2) (σi := fun y => [(0, .slice p ls.length cap), (3, .pointer (some ⟨bs, 0, none⟩)), (4, .int .i64 y.1)]) (Li := fun y => SetL bs y.2) (μ := fun y => 12 - y.1) (i0 := (0, [lg0, lg0, lg0, lg0]))
  · exact ⟨Nat.zero_le _, Nat.zero_le _, GOk.new⟩
  · exact ⟨rfl, rfl, rfl, trivial⟩
  · (focus ((repeat' (first | exact Keep.nil _ | exact Ext.one _ _ | apply Keep.cons)); done))
  · rintro ⟨i, gs⟩ ⟨hi, hi12, hg⟩
    simp only at hi hi12 hg ⊢
    by_cases hlt : i < ls.length ∧ i < 12
    · obtain ⟨hlt1, hlt2⟩ := hlt
      obtain ⟨a, hx⟩ : ∃ a, ls[i]? = some a := ⟨_, List.getElem?_eq_getElem (by omega)⟩
      obtain ⟨b, o, hpe, H⟩ := hp.at hx
      replace H := H 11 RAct.v_len
      have hao := hok a (List.mem_of_getElem? hx)
      have hall := fun w1 hs => rall_ok bs gs hg w1 hs
      have hver := fun w1 hs => versions_ok bs gs hg w1 hs
      have hvl : (lens gs).length = 4 := by rw [lens, List.length_map, hg.len]
      have hvo : (lens gs).all Value.oneCell' = true := by rw [lens_eq]; exact iis_one _
      repeat' (first | (apply R.is1; first | (apply R.isBin; (apply R.pure; exact rfl; (apply Ok1.lss_t; exact rfl; exact rfl; omega))) | (apply R.isCall; first | (apply R.callE (vs := [.pointer (some ⟨bs, 0, none⟩)]); (iterate 3 exact rfl); exact Ext.none _; intro w1 hw1; exact hall w1 (SetR.of hg hw1 (Ext.mem (by (focus ((repeat' (first | exact Ext.all _ | apply Ext.app)); done))))); rintro v Lo ⟨ovu, hovu, rfl, rfl⟩; rw [slV_eq hovu]) | (apply R.callV (vs := [.pointer (some ⟨bs, 0, none⟩)]); (iterate 3 exact rfl); intro w1 hw1; exact hver w1 (SetR.of hg hw1 (Ext.mem (by (focus ((repeat' (first | exact Ext.all _ | apply Ext.app)); done)))))) | (apply R.pure; exact rfl; (apply Ok1.lenS; (iterate 3 exact rfl)))) | (apply R.pure; exact rfl; first | (apply Ok1.move; exact rfl) | (apply Ok1.assign; exact rfl) | (apply Ok1.pick_t; exact rfl; exact rfl)) | (apply R.alloc; (iterate 3 exact rfl); intro)) | (apply R.is0; (apply R.store; (iterate 4 exact rfl); exact hvl; exact hvo; exact Upd.head; exact setE_all (by rw [hvl]; rfl))) | (apply R.isG; (apply R.guard_run; exact rfl; exact rfl)) | apply R.nil | (apply T.is; first | (apply T.stop 6) | apply T.seq | apply T.region | apply T.block | apply T.skip | (apply T.cond_t; exact rfl)))
      rename_i b6
      refine ⟨?_⟩
      refine T.meetK (α := List Lg) (I := fun gs' => GOk gs' ∧ Grw (lgs gs) (lgs gs')) (σi := fun _ => [(0, .slice p ls.length cap), (3, .pointer (some ⟨bs, 0, none⟩)), (4, .int .i64 i), (5, .slice (ovp ovu) (uniq (lcat gs)).length (ovc ovu (uniq (lcat gs)).length)), (6, .pointer (some ⟨b6, 0, none⟩))])
        (Li := fun gs' => (b6, .cells ⟨lens gs⟩ 28 (0, 0)) :: (SetL bs gs' ++ blkL 3 ovu (iis (uniq (lcat gs))))) ?_ ?_
      · have hfw := fun w1 (hc : Chg [] w w1) => few_ok a.l.p a.l.xs.length a.l.cap a.l.xs rfl hao.cap 20 (by decide) w1 (hao.rd.chg' hc (fun _ => Off.nil _))
        have hto := fun w1 (hc : Chg [] w w1) => to8_ok a.d rfl hao.dcap w1 fun x hx => (hao.drd x hx).chg' hc (fun _ => Off.nil _)
        have hml : (a.l.xs.take 20).length = min a.l.xs.length 20 := by rw [List.length_take]; omega
        have hrv := fun ov w1 (h1 : RdSl w1 (ovp ov) iV (a.l.xs.take 20)) h2 => revoke_ok bs gs hg a.n (ovp ov) (min a.l.xs.length 20) (ovc ov (min a.l.xs.length 20)) (a.l.xs.take 20) hml.symm (by omega) w1 h1 h2
        have hap := fun d w1 h1 h2 h3 h4 => apply_ok bs gs hg d h1 h2 w1 h3 h4
        repeat' (first | (apply R.is1; first | (apply R.isBin; first | (apply R.pure; exact rfl; (apply Ok1.andK; exact rfl; exact rfl)) | (apply R.eql rfl rfl rfl <;> intro)) | (apply R.isCall; first | (apply R.callE (vs := [.agg ⟨dlV a.d⟩]); (iterate 3 exact rfl); exact Ext.none _; intro w1 hw1; exact hto w1 hw1.chg; rintro v M ⟨d, rfl, hd, hdo⟩) | (apply R.callE (Li := SetL bs gs) (vs := [.pointer (some ⟨bs, 0, none⟩), .agg ⟨dlV d⟩]); (iterate 3 exact rfl); (focus ((repeat' (first | exact Ext.all _ | apply Ext.cons | apply Ext.app)); done)); intro w1 hw1; exact hap d w1 (pur_len hd) (fun x hx => ⟨tak_le hd hx, hdo.cap x hx⟩) (hdo.rd _ _ _ _ hw1 (Ext.mem (by (focus ((repeat' (exact Ext.here _ _)); done))))) (hdo.off (Li := SetL bs gs) hw1 (by (focus ((repeat' (first | exact Ext.all _ | apply Ext.cons | apply Ext.app)); done))) (Ext.mem (by (focus ((repeat' (exact Ext.here _ _)); done))))); rintro v Lo ⟨gs', rfl, hgl, hg', rfl⟩)) | (apply R.pure; exact rfl; first | (apply Ok1.indexAddrP; (iterate 4 exact rfl); exact hpe; exact rfl; omega; omega) | (apply Ok1.load; exact rfl; first | (apply Ld.row1 (f := 0) H; exact rfl; exact List.not_mem_nil; (iterate 3 exact rfl)) | (apply Ld.rowk (f := 3) H; exact rfl; exact List.not_mem_nil; (iterate 3 exact rfl))) | (apply Ok1.move; exact rfl) | (apply Ok1.fieldAddr; (iterate 5 exact rfl)))) | apply R.nil | (apply T.is; first | (apply T.drawC (id := 7) [] (by decide); ((apply A.take 0; exact rfl; exact rfl; kernel_rfl; kernel_rfl; kernel_rfl; (apply Ok1.move; exact rfl)) <;> (apply A.take 1; exact rfl; exact rfl; kernel_rfl; kernel_rfl; kernel_rfl; (apply Ok1.move; exact rfl)) <;> (apply A.take 2; exact rfl; exact rfl; kernel_rfl; kernel_rfl; kernel_rfl; (apply Ok1.move; exact rfl)) <;> (apply A.take 3; exact rfl; exact rfl; kernel_rfl; kernel_rfl; kernel_rfl; (apply Ok1.indexAddrP; (iterate 4 exact rfl); exact hpe; exact rfl; omega; omega)) <;> (apply A.take 4; exact rfl; exact rfl; kernel_rfl; kernel_rfl; kernel_rfl; (apply Ok1.fieldAddr; (iterate 5 exact rfl))) <;> (apply A.take 5; exact rfl; exact rfl; kernel_rfl; kernel_rfl; kernel_rfl; (apply Ok1.load; exact rfl; (apply Ld.row1 (f := 1) H; exact rfl; exact List.not_mem_nil; (iterate 3 exact rfl)))) <;> (apply A.take 6; exact rfl; exact rfl; kernel_rfl; kernel_rfl; kernel_rfl; (apply Ok1.move; exact rfl)) <;> (apply A.take 7; exact rfl; exact rfl; kernel_rfl; kernel_rfl; kernel_rfl; (apply Ok1.move; exact rfl)) <;> (apply A.take 8; exact rfl; exact rfl; kernel_rfl; kernel_rfl; kernel_rfl; (apply Ok1.indexAddrP; (iterate 4 exact rfl); exact hpe; exact rfl; omega; omega)) <;> (apply A.take 9; exact rfl; exact rfl; kernel_rfl; kernel_rfl; kernel_rfl; (apply Ok1.fieldAddr; (iterate 5 exact rfl))) <;> (apply A.take 10; exact rfl; exact rfl; kernel_rfl; kernel_rfl; kernel_rfl; (apply Ok1.load; exact rfl; (apply Ld.row1 (f := 2) H; exact rfl; exact List.not_mem_nil; (iterate 3 exact rfl)))) <;> (apply A.one 11; kernel_rfl; exact rfl; (((apply R.callE (vs := [a.l.w, .int .i64 20]); (iterate 3 exact rfl); exact Ext.none _; intro w1 hw1; exact hfw w1 hw1.chg; rintro v Lo ⟨ov, hov, rfl, rfl⟩; rw [slV_eq hov]; rw [← hml] at hov))); apply R.nil; refine ⟨?_, ?_⟩; (focus ((repeat' (exact trivial))))) <;> (apply A.one 12; kernel_rfl; exact rfl; (((apply R.callE (Li := SetL bs gs) (vs := [.pointer (some ⟨bs, 0, none⟩), .int .i64 a.n, .slice (ovp ov) (min a.l.xs.length 20) (ovc ov (min a.l.xs.length 20))]); (iterate 3 exact rfl); (focus ((repeat' (first | exact Ext.all _ | apply Ext.cons | apply Ext.app)); done)); intro w1 hw1; exact hrv ov w1 (irdown hov hw1 (Ext.mem (by (focus ((repeat' (exact Ext.here _ _)); done))))) (fun _ => ovoff (xs := iis (a.l.xs.take 20)) (e := 3) (Li := SetL bs gs) hw1 (by (focus ((repeat' (first | exact Ext.all _ | apply Ext.cons | apply Ext.app)); done))) (Ext.mem (by (focus ((repeat' (exact Ext.here _ _)); done))))); rintro v Lo ⟨gs', rfl, hgl, hg', rfl⟩))); apply R.nil; refine ⟨?_, ?_⟩; (focus ((repeat' (exact trivial))))) <;> (apply A.done; kernel_rfl))) | apply T.seq | apply T.region | (apply T.cond_t; exact rfl) | (apply T.cond_f; exact rfl)))
        · exact ⟨gs', ⟨hg', by rw [hgl]; exact Grw.rev _ (by rw [lgs, List.length_map, hg.len]) _ _⟩, ⟨rfl, rfl, rfl, rfl, rfl, trivial⟩, by (focus ((repeat' (first | exact Ext.one _ _ | exact Ext.here _ _ | apply Keep.cons | apply Keep.app | apply Keep.last | apply Ext.cons | apply Ext.app)); done))⟩
        · exact ⟨gs', ⟨hg', by rw [hgl]; exact Grw.app _ _ (by rw [lgs, List.length_map, List.length_map, hg.len, pur_len hd]; rfl)⟩, ⟨rfl, rfl, rfl, rfl, rfl, trivial⟩, by (focus ((repeat' (first | exact Ext.one _ _ | exact Ext.here _ _ | apply Keep.cons | apply Keep.app | apply Keep.last | apply Ext.cons | apply Ext.app)); done))⟩
      · rintro gs' ⟨hg', hgr⟩
        have hum := uniq_mem (lcat gs)
        have hul : (uniq (lcat gs)).length ≤ 1024 := by
          have h1 := uniq_le (lcat gs)
          have h2 := hg.cat 4
          rw [List.take_of_length_le (by rw [hg.len]; omega)] at h2
          omega
        generalize uniq (lcat gs) = us at *
        have hver' := fun w1 hs => versions_ok bs gs' hg' w1 hs
        have hhas := fun y w1 hs => has_ok bs gs' hg' y w1 hs
        have hcov := covers_list (gs'.map fun g => (g.xs.length : Int)) (gs.map fun g => (g.xs.length : Int)) (by rw [List.length_map, hg'.len]) (by rw [List.length_map, hg.len])
        rw [← lens_eq, ← lens_eq, decide_eq_true hgr.le] at hcov
        repeat' (first | (apply R.is1; (apply R.pure; exact rfl; (apply Ok1.assign; exact rfl))) | apply R.nil | (apply T.is; first | apply T.seq | apply T.region | apply T.block))
        apply T.loopK (α := Nat) (I := fun j => j ≤ us.length) (σi := fun j => [(0, .slice p ls.length cap), (3, .pointer (some ⟨bs, 0, none⟩)), (4, .int .i64 i), (5, .slice (ovp ovu) us.length (ovc ovu us.length)), (6, .pointer (some ⟨b6, 0, none⟩)), (7, .int .i64 j)])
          (Li := fun _ => (b6, .cells ⟨lens gs⟩ 28 (0, 0)) :: (SetL bs gs' ++ blkL 3 ovu (iis us))) (μ := fun j => us.length - j) (i0 := 0)
        · exact Nat.zero_le _
        · exact ⟨rfl, rfl, rfl, rfl, rfl, rfl, trivial⟩
        · (focus ((repeat' (first | exact Ext.one _ _ | exact Ext.here _ _ | exact Ext.all _ | apply Keep.cons | apply Keep.app | apply Keep.last)); done))
        · intro j hj
          rcases Nat.lt_or_ge j us.length with hjl | hjg
          · obtain ⟨y, hy⟩ : ∃ y, us[j]? = some y := ⟨_, List.getElem?_eq_getElem (by omega)⟩
            obtain ⟨b9, j9, k9, rfl⟩ := ovsome hovu (by omega)
            have hym : y ∈ lcat gs' := hgr.mem ((hum y).1 (List.mem_of_getElem? hy))
            have hh := hhas y
            rw [decide_eq_true hym] at hh
            have hcy : ∀ w1, RdSl w1 (ovp (some (b9, j9, k9))) iV us → w1.cell? ⟨b9, 0 + j * 1, none⟩ = some (.int .i64 y) := by
              intro w1 h1
              obtain ⟨b', o', hpe', H'⟩ := h1.at hy
              cases hpe'
              exact H' 1 iV_len 0 (by decide)
            repeat' (first | (apply R.is1; first | (apply R.isBin; (apply R.pure; exact rfl; first | (apply Ok1.add64; exact rfl; exact rfl; omega; omega) | (apply Ok1.lss_t; exact rfl; exact rfl; omega))) | (apply R.isCall; first | (apply R.callE (vs := [.pointer (some ⟨bs, 0, none⟩), .int .i64 y]); (iterate 3 exact rfl); exact Ext.none _; intro w1 hw1; exact hh w1 (SetR.of hg' hw1 (Ext.mem (by (focus ((repeat' (first | exact Ext.here _ _ | apply Ext.cons)); done))))); rintro v Lo ⟨rfl, rfl⟩) | (apply R.pure; exact rfl; (apply Ok1.lenS; (iterate 3 exact rfl)))) | (apply R.pure; exact rfl; first | (apply Ok1.indexAddrP (b := b9) (o := 0); (iterate 6 exact rfl); omega; omega) | (apply Ok1.load; exact rfl; apply Ld.of1; exact rfl; exact rfl; intro w1 hw1; exact hcy w1 (irdown hovu hw1 (Ext.mem (by (focus ((repeat' (first | exact Ext.one _ _ | apply Ext.cons | apply Ext.app)); done)))))) | (apply Ok1.move; exact rfl) | (apply Ok1.assign; exact rfl) | (apply Ok1.not_t; exact rfl))) | apply R.nil | (apply T.is; first | apply T.seq | apply T.region | apply T.block | apply T.skip | (apply T.cond_t; exact rfl) | (apply T.cond_f; exact rfl)))
            exact ⟨j + 1, by omega, by omega, ⟨rfl, rfl, rfl, rfl, rfl, rfl, trivial⟩, by (focus ((repeat' (first | exact Keep.nil _ | exact Ext.one _ _ | exact Ext.here _ _ | apply Keep.cons | apply Keep.app)); done))⟩
          · repeat' (first | (apply R.is1; first | (apply R.isBin; (apply R.pure; exact rfl; first | (apply Ok1.add64; exact rfl; exact rfl; omega; omega) | (apply Ok1.lss_f; exact rfl; exact rfl; omega))) | (apply R.isCall; (apply R.pure; exact rfl; (apply Ok1.lenS; (iterate 3 exact rfl)))) | (apply R.pure; exact rfl; first | (apply Ok1.move; exact rfl) | (apply Ok1.assign; exact rfl))) | apply R.nil | (apply T.is; first | (apply T.drawC (id := 14) [0] (by decide); ((apply A.take 0; exact rfl; exact rfl; kernel_rfl; kernel_rfl; kernel_rfl; (apply Ok1.move; exact rfl)) <;> (apply A.take 2; exact rfl; exact rfl; kernel_rfl; kernel_rfl; kernel_rfl; (apply Ok1.load; exact rfl; apply Ld.ownk; exact rfl; exact rfl; exact At.head; exact subE_all hvl)) <;> (apply A.one 1; kernel_rfl; exact rfl; (((apply R.callV (vs := [.pointer (some ⟨bs, 0, none⟩)]); (iterate 3 exact rfl); intro w1 hw1; exact hver' w1 (SetR.of hg' hw1 (Ext.mem (by (focus ((repeat' (first | exact Ext.here _ _ | apply Ext.cons)); done)))))))); apply R.nil; refine ⟨?_, ?_⟩; (focus ((repeat' (first | exact trivial | (refine ⟨?_, ?_⟩; exact At.head)))))) <;> (apply A.one 3; kernel_rfl; exact rfl; ((apply R.callP rfl rfl rfl hcov)); apply R.nil; refine ⟨?_, ?_⟩; (focus ((repeat' (first | exact trivial | (refine ⟨?_, ?_⟩; exact At.head)))))) <;> (apply A.take 4; exact rfl; exact rfl; kernel_rfl; kernel_rfl; kernel_rfl; (apply Ok1.not_t; exact rfl)) <;> (apply A.done; kernel_rfl))) | apply T.seq | apply T.region | apply T.skip | apply T.exit | (apply T.cond_f; exact rfl)))
            exact ⟨(i + 1, gs'), ⟨by simp only; omega, by simp only; omega, hg'⟩, by simp only; omega, ⟨rfl, rfl, rfl, trivial⟩, by (focus ((repeat' (first | exact Ext.one _ _ | exact Ext.here _ _ | apply Keep.cons | apply Keep.last | apply Ext.cons)); done))⟩
    · have hkn := fun w1 => known8_ok w1
      rcases Nat.lt_or_ge i ls.length with h1 | h1
      · have h2 : 12 ≤ i := by omega
        repeat' (first | (apply R.is1; first | (apply R.isBin; (apply R.pure; exact rfl; first | (apply Ok1.lss_t; exact rfl; exact rfl; omega) | (apply Ok1.lss_f; exact rfl; exact rfl; omega))) | (apply R.isCall; first | (apply R.callE (vs := []); (iterate 3 exact rfl); exact Ext.none _; intro w1 hw1; exact hkn w1; rintro v Lo ⟨rfl, rfl⟩) | (apply R.pure; exact rfl; (apply Ok1.lenS; (iterate 3 exact rfl)))) | (apply R.pure; exact rfl; first | (apply Ok1.move; exact rfl) | (apply Ok1.assign; exact rfl) | (apply Ok1.pick_t; exact rfl; exact rfl))) | (apply R.isG; (apply R.guard_run; exact rfl; exact rfl)) | apply R.nil | (apply T.is; first | apply T.seq | apply T.region | apply T.exit | apply T.ret | (apply T.cond_f; exact rfl)))
        (apply RetOk.t; exact rfl)
        rfl
      · repeat' (first | (apply R.is1; first | (apply R.isBin; (apply R.pure; exact rfl; (apply Ok1.lss_f; exact rfl; exact rfl; omega))) | (apply R.isCall; first | (apply R.callE (vs := []); (iterate 3 exact rfl); exact Ext.none _; intro w1 hw1; exact hkn w1; rintro v Lo ⟨rfl, rfl⟩) | (apply R.pure; exact rfl; (apply Ok1.lenS; (iterate 3 exact rfl)))) | (apply R.pure; exact rfl; first | (apply Ok1.move; exact rfl) | (apply Ok1.assign; exact rfl) | (apply Ok1.pick_f; exact rfl; exact rfl))) | (apply R.isG; (apply R.guard_not; (iterate 3 exact rfl))) | apply R.nil | (apply T.is; first | apply T.seq | apply T.region | apply T.exit | apply T.ret | (apply T.cond_f; exact rfl)))
        (apply RetOk.t; exact rfl)
        rfl
end Go.Proofs.Ytligpachgcmkcaa
