/- Contracts: a delta as the program's; the example. -/
import Derived.Test.YtligpachgcmkcaaRv8
set_option linter.unusedSimpArgs false
set_option linter.unusedVariables false
namespace Go.Proofs.Ytligpachgcmkcaa
open Go.RowKit Go.Shelf
set_option maxRecDepth 100000

theorem to8_ok (d : Dl) (hd : d.length = 4) (hdb : ∀ x ∈ d, x.2.xs.length ≤ x.2.cap) (w : World) (hr : ∀ x ∈ d, RdSl w x.2.p iV x.2.xs) :
    CallM Try.prog 18 [.agg ⟨dlV d⟩] [] w fun v L => ∃ d', v = .agg ⟨dlV d'⟩ ∧ pur d' = d.map (fun x => (x.1, x.2.xs.take 40)) ∧ DlO d' L := by
  have hrd := fun x hx w1 (hc : Chg [] w w1) => (hr x hx).chg' hc (fun _ => Off.nil _)
  have hdl8 : (dlV d).length = 8 := by simp [dlV, fl_pi, iis_len, hd]
  have hfr := dl_froms hd
  have hcells := fun i x h => dl_log hd (i := i) (x := x) h
  obtain ⟨fs, hfs⟩ : ∃ fs, fs = d.map (·.1) := ⟨_, rfl⟩
  have hfl : fs.length = 4 := by rw [hfs, List.length_map, hd]
  rw [← hfs] at hfr
  obtain ⟨f0, f1, f2, f3, hf4⟩ : ∃ f0 f1 f2 f3, fs = [f0, f1, f2, f3] := by
    match fs, hfl with
    | [f0, f1, f2, f3], _ => exact ⟨f0, f1, f2, f3, rfl⟩
  have hfr' : subE (dlV d) 0 4 = some [.int .i64 f0, .int .i64 f1, .int .i64 f2, .int .i64 f3] := by rw [hfr, hf4]; rfl
  obtain ⟨D, hD⟩ : ∃ D, D = dlV d := ⟨_, rfl⟩
  rw [← hD] at hdl8 hfr' hcells ⊢
  refine enterK (tb := tb) Try.func18 rfl Try.ntmps18 rfl ?_
  repeat' (first | (apply R.is1; first | (apply R.pure; exact rfl; first | (apply Ok1.load; exact rfl; apply Ld.ownk; exact rfl; exact rfl; (focus ((repeat' (first | exact At.head | apply At.tail)); done)); exact hfr') | (apply Ok1.fieldAddr; (iterate 5 exact rfl)) | (apply Ok1.assign; exact rfl) | (apply Ok1.build; (iterate 5 exact rfl))) | (apply R.box; (iterate 3 exact rfl); intro) | (apply R.alloc; (iterate 3 exact rfl); intro)) | (apply R.is0; (apply R.store; (iterate 6 exact rfl); exact Upd.head; exact rfl)) | apply R.nil | (apply T.is; first | apply T.seq | apply T.region | apply T.block))
  rename_i b1 b2 b3
  have hd0 : [Value.int .i64 f0, .int .i64 f1, .int .i64 f2, .int .i64 f3, .slice none 0 0, .slice none 0 0, .slice none 0 0, .slice none 0 0] = dPart fs [] := by rw [hf4]; rfl
  rw [hd0]
  clear hd0 hfr' hfr
  apply T.loopK (α := Nat × Dl × Lst) (I := fun y => y.1 ≤ 4 ∧ y.2.1.length = y.1 ∧ pur y.2.1 = (d.map (fun x => (x.1, x.2.xs.take 40))).take y.1 ∧ DlO y.2.1 y.2.2)
    (σi := fun y => [(1, .pointer (some ⟨b1, 0, none⟩)), (2, .pointer (some ⟨b2, 0, none⟩)), (3, .pointer (some ⟨b3, 0, none⟩)), (4, .int .i64 y.1)]) (Li := fun y => (b1, .cells ⟨D⟩ 32 (0, 0)) :: (b2, .cells ⟨noD⟩ 41 (0, 0)) :: (b3, .cells ⟨dPart fs y.2.1⟩ 41 (0, 0)) :: y.2.2) (μ := fun y => 4 - y.1) (i0 := (0, [], []))
  · exact ⟨Nat.zero_le _, rfl, rfl, DlO.nil _⟩
  · exact ⟨rfl, rfl, rfl, rfl, trivial⟩
  · (focus ((repeat' (first | exact Keep.nil _ | exact Ext.one _ _ | apply Keep.cons | apply Ext.cons)); done))
  · rintro ⟨i, e, M⟩ ⟨hi, hel, hpur, hdo⟩
    simp only at hi hel hpur hdo ⊢
    rcases Nat.lt_or_ge i 4 with hlt | hge
    · obtain ⟨x, hx⟩ : ∃ x, d[i]? = some x := ⟨_, List.getElem?_eq_getElem (by omega)⟩
      have hxm := List.mem_of_getElem? hx
      have hcell := hcells i x hx
      have hfw := fun w1 (hc : Chg [] w w1) => few_ok x.2.p x.2.xs.length x.2.cap x.2.xs rfl (hdb x hxm) 40 (by decide) w1 (hrd x hxm w1 hc)
      have hset := fun y => dPart_set hfl hel hlt y
      have hml : (x.2.xs.take 40).length = min x.2.xs.length 40 := by rw [List.length_take]; omega
      repeat' (first | (apply R.is1; first | (apply R.isBin; (apply R.pure; exact rfl; first | (apply Ok1.add64; exact rfl; exact rfl; omega; omega) | (apply Ok1.lss_t; exact rfl; exact rfl; omega))) | (apply R.isCall; (apply R.callE (vs := [.slice x.2.p x.2.xs.length x.2.cap, .int .i64 40]); (iterate 3 exact rfl); exact Ext.none _; intro w1 hw1; exact hfw w1 hw1.chg; rintro z Lo ⟨ov, hov, rfl, rfl⟩; rw [slV_eq hov])) | (apply R.pure; exact rfl; first | (apply Ok1.load; exact rfl; apply Ld.own1; exact rfl; exact rfl; exact At.head; exact hcell) | (apply Ok1.move; exact rfl) | (apply Ok1.fieldAddr; (iterate 5 exact rfl)) | (apply Ok1.assign; exact rfl) | (apply Ok1.indexAddrA; (iterate 5 exact rfl); omega; omega))) | (apply R.is0; (apply R.store; (iterate 6 exact rfl); (focus ((repeat' (first | exact Upd.head | apply Upd.tail | apply Upd.right)); done)); have h9 := hset (x.1, ⟨ovp ov, ovc ov (min x.2.xs.length 40), x.2.xs.take 40⟩); simp only [hml] at h9; exact h9)) | apply R.nil | (apply T.is; first | apply T.seq | apply T.region | apply T.block | apply T.skip | (apply T.cond_t; exact rfl)))
      refine ⟨(i + 1, e ++ [(x.1, ⟨ovp ov, ovc ov (min x.2.xs.length 40), x.2.xs.take 40⟩)], blkL 3 ov (iis (x.2.xs.take 40)) ++ M), ⟨by omega, by rw [List.length_append, hel]; rfl, ?_, ?_⟩, by simp only; omega, ⟨rfl, rfl, rfl, rfl, trivial⟩, ?_⟩
      · simp only
        rw [List.take_add_one (i := i), List.getElem?_map, hx, ← hpur, pur, List.map_append]
        rfl
      · have := hdo.snoc (ov := ov) (xs := x.2.xs.take 40) (by rw [hml]; exact hov) x.1 (k := 0) (c := ovc ov (min x.2.xs.length 40)) (m := ovc ov (min x.2.xs.length 40)) (by omega) (by rw [hml]; exact ovc_le hov) (by rw [hml]; exact ovc_le hov)
        have hs0 : sufP (ovp ov) (ovc ov (min x.2.xs.length 40)) 0 1 = ovp ov := by
          unfold sufP
          split
          · rfl
          · cases ovp ov <;> simp [Addr.add]
        rw [hs0, List.drop_zero] at this
        exact this
      · simp only
        (focus ((repeat' (first | exact Ext.one _ _ | exact Ext.here _ _ | exact Ext.all _ | apply Keep.cons | apply Keep.app | apply Keep.last | apply Ext.app)); done))
    · have him : i = 4 := by omega
      subst him
      rw [List.take_of_length_le (by rw [List.length_map]; omega)] at hpur
      have hfst : e.map (·.1) = fs := by
        have := congrArg (List.map (·.1)) hpur
        rw [pur, List.map_map, List.map_map] at this
        rw [hfs]
        exact this
      have hdd : dPart fs e = dlV e := by
        rw [dPart, hel, Nat.sub_self, List.replicate_zero, List.append_nil, dlV, hfst]
      have hlen : (dlV e).length = 8 := by simp [dlV, fl_pi, iis_len, hel]
      have hone : (dlV e).all Value.oneCell' = true := by
        rw [dlV, List.all_append, iis_one, fl_pi]
        simp [Value.oneCell']
      rw [hdd]
      repeat' (first | (apply R.is1; first | (apply R.isBin; (apply R.pure; exact rfl; (apply Ok1.lss_f; exact rfl; exact rfl; omega))) | (apply R.pure; exact rfl; first | (apply Ok1.load; exact rfl; apply Ld.ownk; exact rfl; exact rfl; (focus ((repeat' (first | exact At.head | apply At.tail)); done)); exact subE_all hlen) | (apply Ok1.move; exact rfl))) | (apply R.is0; (apply R.store; (iterate 4 exact rfl); exact hlen; exact hone; (focus ((repeat' (first | exact Upd.head | apply Upd.tail)); done)); exact setE_all (by rw [hlen]; rfl))) | apply R.nil | (apply T.is; first | apply T.seq | apply T.region | apply T.exit | apply T.ret | (apply T.cond_f; exact rfl)))
      all_goals apply RetOk.c
      all_goals first | exact rfl | skip
      all_goals first | (apply Ld.ownk; exact rfl; exact rfl; (focus ((repeat' (first | exact At.head | apply At.tail)); done)); exact subE_all hlen) | skip
      exact ⟨_, by (focus ((repeat' (first | exact Ext.all _ | apply Keep.last | apply Ext.cons)); done)), e, rfl, hpur, hdo⟩
theorem d4 {d : Dl} {a0 a1 a2 a3 : Int} {x0 x1 x2 x3 : List Int} (hd : pur d = [(a0, x0), (a1, x1), (a2, x2), (a3, x3)]) : ∃ p0 c0 p1 c1 p2 c2 p3 c3, d = [(a0, ⟨p0, c0, x0⟩), (a1, ⟨p1, c1, x1⟩), (a2, ⟨p2, c2, x2⟩), (a3, ⟨p3, c3, x3⟩)] := by
  match d, hd with
  | [(b0, ⟨p0, c0, y0⟩), (b1, ⟨p1, c1, y1⟩), (b2, ⟨p2, c2, y2⟩), (b3, ⟨p3, c3, y3⟩)], hd =>
    simp only [pur, List.map_cons, List.map_nil, List.cons.injEq, Prod.mk.injEq, and_true] at hd
    obtain ⟨⟨rfl, rfl⟩, ⟨rfl, rfl⟩, ⟨rfl, rfl⟩, rfl, rfl⟩ := hd
    exact ⟨p0, c0, p1, c1, p2, c2, p3, c3, rfl⟩
theorem lens_of {gs : List Lg} {ls : List (List Int)} (h : lgs gs = ls) : lens gs = iis (ls.map fun x => (x.length : Int)) := by
  rw [lens_eq, ← h, lgs, List.map_map]; rfl
theorem known8_ok (w : World) : CallM Try.prog 21 [] [] w fun v L => v = .bool true ∧ L = [] := by
  have hrv : ∀ bs p w1, RdSl w1 p iV [7] → Off p (blks (SetL bs [lg0, lg0, lg0, lg0])) → CallM Try.prog 15 [.pointer (some ⟨bs, 0, none⟩), .int .i64 1, .slice p 1 1] (SetL bs [lg0, lg0, lg0, lg0]) w1 fun v L => ∃ gs', v = .int .i64 0 ∧ lgs gs' = [[], [7], [], []] ∧ GOk gs' ∧ L = SetL bs gs' := by
    intro bs p w1 hp hoff
    have h := revoke_ok bs [lg0, lg0, lg0, lg0] GOk.new 1 p 1 1 [7] rfl (by decide) w1 hp (fun _ => hoff)
    have e1 : revE (lgs [lg0, lg0, lg0, lg0]) 1 [7] = 0 := by decide
    have e2 : revL (lgs [lg0, lg0, lg0, lg0]) 1 [7] = [[], [7], [], []] := by decide
    rw [e1, e2] at h
    exact h
  have hsn : ∀ bs gs, lgs gs = [[], [7], [], []] → GOk gs → ∀ w1, SetR w1 bs gs → CallM Try.prog 22 [.pointer (some ⟨bs, 0, none⟩), .agg ⟨[.int .i64 0, .int .i64 0, .int .i64 0, .int .i64 0]⟩] [] w1 fun v L => ∃ p0 c0 b o c1 p2 c2 p3 c3, v = .tuple #[.agg ⟨[.int .i64 0, .int .i64 0, .int .i64 0, .int .i64 0, .slice p0 0 c0, .slice (some ⟨b, o, none⟩) 1 c1, .slice p2 0 c2, .slice p3 0 c3]⟩, .int .i64 0] ∧ ∀ (w0 w : World) (S : List Nat) (L' : Lst), Hp w0 S L' w → (∀ z ∈ L, z ∈ L') → w.cell? ⟨b, o + 0 * 1, none⟩ = some (.int .i64 7) := by
    intro bs gs hgs hg w1 hs
    refine (since_ok bs gs hg [0, 0, 0, 0] rfl w1 hs).to fun v L h => ?_
    have hV : VOk (lgs gs) [0, 0, 0, 0] := by rw [hgs]; decide
    rcases h with ⟨_, d, rfl, hd, hdo⟩ | ⟨hn, _⟩
    · have e3 : sinD (lgs gs) [0, 0, 0, 0] = [(0, []), (0, [7]), (0, []), (0, [])] := by rw [hgs]; rfl
      rw [e3] at hd
      obtain ⟨p0, c0, p1, c1, p2, c2, p3, c3, rfl⟩ := d4 hd
      obtain ⟨b, o, hp, _⟩ := hdo.adr (0, ⟨p1, c1, [7]⟩) (by simp) (by simp)
      simp only at hp
      subst hp
      refine ⟨p0, c0, b, o, c1, p2, c2, p3, c3, rfl, fun w0 w S L' hw hin => ?_⟩
      obtain ⟨b', o', hpe, H⟩ := (hdo.rd w0 w S L' hw hin (0, ⟨some ⟨b, o, none⟩, c1, [7]⟩) (by simp)).at (i := 0) (a := 7) rfl
      cases hpe
      exact H 1 iV_len 0 (by decide)
    · exact absurd hV hn
  have hvr : ∀ bs gs, lgs gs = [[], [7], [], []] → GOk gs → ∀ w1, SetR w1 bs gs → CallW Try.prog 14 [.pointer (some ⟨bs, 0, none⟩)] w1 fun v _ => v = .agg ⟨[.int .i64 0, .int .i64 1, .int .i64 0, .int .i64 0]⟩ := by
    intro bs gs hgs hg w1 hs
    have h := versions_ok bs gs hg w1 hs
    rw [lens_of hgs] at h
    exact h
  refine enterK (tb := tb) Try.func21 rfl Try.ntmps21 rfl ?_
  repeat' (first | (apply R.is1; first | (apply R.isBin; (apply R.pure; exact rfl; first | (apply Ok1.eqlFq2; (iterate 7 exact rfl); exact ⟨fun _ => rfl, fun _ => rfl⟩) | (apply Ok1.eql_t; exact rfl; exact rfl; omega))) | (apply R.isCall; first | (apply R.callE (vs := []); (iterate 3 exact rfl); exact Ext.none _; intro w1 hw1; exact rnew_ok w1; rintro v Lo ⟨bs, rfl, rfl⟩) | (apply R.callE (vs := [.pointer (some ⟨bs, 0, none⟩), .int .i64 1, .slice (some ⟨_, 0, none⟩) 1 1]); (iterate 3 exact rfl); exact Ext.cons _ (Ext.here _ _); intro w1 hw1; exact hrv bs _ w1 (RdSl.of (junk := []) hw1 .head rfl) (fun a ha => by cases ha; exact RdSl.off hw1 (Ext.cons _ (Ext.here _ _)) List.mem_cons_self); rintro v Lo ⟨gs, rfl, hgs, hg, rfl⟩) | (apply R.callE (vs := [.pointer (some ⟨bs, 0, none⟩), .agg ⟨[.int .i64 0, .int .i64 0, .int .i64 0, .int .i64 0]⟩]); (iterate 3 exact rfl); exact Ext.none _; intro w1 hw1; exact hsn bs gs hgs hg w1 (SetR.of hg hw1 (Ext.mem (by (focus ((repeat' (exact Ext.here _ _)); done))))); rintro v M ⟨p0, c0, b, o, c1, p2, c2, p3, c3, rfl, hc7⟩) | (apply R.callV (vs := [.pointer (some ⟨bs, 0, none⟩)]); (iterate 3 exact rfl); intro w1 hw1; exact hvr bs gs hgs hg w1 (SetR.of hg hw1 (Ext.mem (by (focus ((repeat' (first | exact Ext.here _ _ | apply Ext.cons | apply Ext.app)); done)))))) | (apply R.pure; exact rfl; (apply Ok1.lenS; (iterate 3 exact rfl)))) | (apply R.pure; exact rfl; first | (apply Ok1.load; exact rfl; apply Ld.of1; exact rfl; exact rfl; intro w1 hw1; exact hc7 _ _ _ _ hw1 (Ext.mem (by (focus ((repeat' (first | exact Ext.here _ _ | apply Ext.cons)); done))))) | (apply Ok1.move; exact rfl) | (apply Ok1.fieldAddr; (iterate 5 exact rfl)) | (apply Ok1.load; exact rfl; (apply Ld.own1; exact rfl; exact rfl; exact At.head; exact rfl)) | (apply Ok1.assign; exact rfl) | (apply Ok1.indexAddr; (iterate 5 exact rfl); omega; omega) | (apply Ok1.indexAddrA; (iterate 5 exact rfl); omega; omega) | (apply Ok1.extract; exact rfl; exact rfl) | (apply Ok1.pick_t; exact rfl; exact rfl) | (apply Ok1.buildA; (iterate 6 exact rfl))) | (apply R.alloc; (iterate 3 exact rfl); intro) | (apply R.buildSlice; (iterate 12 exact rfl); intro)) | (apply R.is0; (apply R.store; (iterate 6 exact rfl); exact Upd.head; exact rfl)) | (apply R.isG; (apply R.guard_run; exact rfl; exact rfl)) | apply R.nil | (apply T.is; first | apply T.seq | apply T.region | apply T.ret))
  all_goals (apply RetOk.t; exact rfl)
  all_goals exact ⟨_, Keep.nil _, rfl, rfl⟩
end Go.Proofs.Ytligpachgcmkcaa
