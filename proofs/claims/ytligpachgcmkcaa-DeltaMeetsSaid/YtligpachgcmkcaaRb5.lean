/- Contracts of revoke: the delta of bytes. -/
import Derived.Test.YtligpachgcmkcaaRb3
import Derived.Test.YtligpachgcmkcaaRr1
set_option linter.unusedSimpArgs false
set_option linter.unusedVariables false
namespace Go.Proofs.Ytligpachgcmkcaa
open Go.RowKit Go.Shelf
set_option maxRecDepth 100000

/-- What is left behind so many numbers of two bytes, and these. -/
def Rs.st (s : Rs) : Nat → Rs
  | 0 => s
  | k + 1 => if (s.st k).e = 0 then ((s.st k).num 2).2.2 else s.st k
def Rs.vs (s : Rs) (n : Nat) : List Int := (List.range n).map fun k => ((s.st k).num 2).1
theorem Rs.vs_snoc (s : Rs) (n : Nat) : s.vs (n + 1) = s.vs n ++ [((s.st n).num 2).1] := by simp [Rs.vs, List.range_succ]
theorem Rs.vs_len (s : Rs) (n : Nat) : (s.vs n).length = n := by simp [Rs.vs]
theorem Rs.st_stays {s : Rs} {k : Nat} (h : (s.st k).e ≠ 0) : ∀ n, k ≤ n → s.st n = s.st k := by
  intro n hn
  induction n with
  | zero => rw [Nat.le_zero.1 hn]
  | succ n ih =>
    rcases Nat.lt_or_ge n k with h1 | h1
    · rw [show n + 1 = k by omega]
    · have := ih h1
      rw [Rs.st, this, if_neg h]
/-- A log: from where, its serials; what is left. -/
def Rs.log1 (s : Rs) : (Int × List Int) × Rs :=
  let a := s.num 2
  let b := a.2.2.num 2
  ((a.1, b.2.2.vs b.1.toNat), b.2.2.st b.1.toNat)
def Rs.logs (s : Rs) : Nat → List (Int × List Int) × Rs
  | 0 => ([], s)
  | k + 1 => ((s.logs k).1 ++ [(s.logs k).2.log1.1], (s.logs k).2.log1.2)
theorem Rs.num_range (s : Rs) (k : Nat) (hb : Byt s.xs) (hk : k = 2) : 0 ≤ (s.num k).1 ∧ (s.num k).1 ≤ 65535 := by
  subst hk
  unfold Rs.num
  split
  · exact ⟨Int.le_refl _, by simp⟩
  · rename_i hn
    have hl : (s.xs.take 2).length = 2 := by rw [List.length_take]; have := Nat.le_of_not_lt fun h => hn (.inr h); omega
    have hr := be_range 2 (s.xs.take 2) hl fun y hy => hb y (List.mem_of_mem_take hy)
    split
    · exact ⟨hr.1, by have := hr.2; omega⟩
    · exact ⟨Int.le_refl _, by simp⟩
theorem Rs.num_bad {s : Rs} (h : s.e ≠ 0) (k : Nat) : s.num k = (0, false, s) := by
  unfold Rs.num
  rw [if_pos (.inl h), Rs.fail, if_neg h]
theorem Rs.st_e {s : Rs} (h : s.e ≠ 0) (n : Nat) : s.st n = s := by
  induction n with
  | zero => rfl
  | succ n ih => rw [Rs.st, ih, if_neg h]
/-- What was wrong stays so. -/
theorem Rs.log1_bad {s : Rs} (h : s.e ≠ 0) : s.log1.2 = s := by
  unfold Rs.log1
  simp only [Rs.num_bad h, Rs.st_e h]
theorem Rs.logs_bad {s : Rs} {i : Nat} (h : (s.logs i).2.e ≠ 0) : ∀ n, i ≤ n → (s.logs n).2 = (s.logs i).2 := by
  intro n hn
  induction n with
  | zero => rw [Nat.le_zero.1 hn]
  | succ n ih =>
    rcases Nat.lt_or_ge n i with h1 | h1
    · rw [show n + 1 = i by omega]
    · have := ih h1
      rw [Rs.logs, this, Rs.log1_bad h]
theorem RsO.st {s : Rs} {M : Lst} (h : RsO s M) (n : Nat) : RsO (s.st n) M := by
  induction n with
  | zero => exact h
  | succ n ih =>
    rw [Rs.st]
    split
    · exact ih.num 2
    · exact ih
theorem RsO.log1 {s : Rs} {M : Lst} (h : RsO s M) : RsO s.log1.2 M := ((h.num 2).num 2).st _
theorem RsO.logs {s : Rs} {M : Lst} (h : RsO s M) (n : Nat) : RsO (s.logs n).2 M := by
  induction n with
  | zero => exact h
  | succ n ih => exact ih.log1
theorem RsO.ok' {s : Rs} {M : Lst} (h : RsO s M) (br : Nat) : ∀ (w0 w : World) (S : List Nat) (L Lr : Lst), Hp w0 S L w → Ext L (s.L br) Lr → (∀ z ∈ M, z ∈ Lr) → s.ok br w := fun _ _ _ _ _ a b c => h.ok a b c
theorem u2 : pw 1 = 2 := rfl
theorem suf0 (p : Option Addr) (c : Nat) : sufP p c 0 1 = p := by
  unfold sufP
  split
  · rfl
  · cases p <;> simp [Addr.add]
theorem DlO.own {d : Dl} {L : Lst} (h : DlO d L) {ov : Ov} {xs : List Int} (hov : OvOk 1 ov xs.length (iis xs)) (f : Int) : DlO (d ++ [(f, ⟨ovp ov, ovc ov xs.length, xs⟩)]) (blkL 3 ov (iis xs) ++ L) := by
  have := h.snoc hov f (k := 0) (c := ovc ov xs.length) (m := ovc ov xs.length) (Nat.zero_le _) (ovc_le hov) (by have := ovc_le hov; omega)
  rwa [suf0, List.drop_zero] at this
theorem DlO.mono {d : Dl} {L L' : Lst} (h : DlO d L) (hs : ∀ z ∈ L, z ∈ L') : DlO d L' :=
  ⟨h.cap, fun x hx hne => by obtain ⟨b, o, h1, h2⟩ := h.adr x hx hne; obtain ⟨z, hz, e⟩ := List.mem_map.1 h2; exact ⟨b, o, h1, List.mem_map.2 ⟨z, hs z hz, e⟩⟩, fun w0 w S L' hw hin => h.rd w0 w S L' hw fun z hz => hin z (hs z hz)⟩
def nod : Dl := List.replicate 4 (0, ⟨none, 0, []⟩)
theorem nod_v : dlV nod = noD := rfl
theorem nod_o (L : Lst) : DlO nod L := by
  have h0 : ∀ x ∈ nod, x = (0, ⟨none, 0, []⟩) := fun x hx => List.eq_of_mem_replicate hx
  exact ⟨fun x hx => by rw [h0 x hx]; exact Nat.le_refl _, fun x hx hne => absurd (by rw [h0 x hx]) hne, fun _ _ _ _ _ _ x hx => by rw [h0 x hx]; exact .inl rfl⟩
theorem dok_dr (d : Dl) : DOk d ↔ DR (pur d) := by
  constructor
  · intro h y hy
    obtain ⟨x, hx, rfl⟩ := List.mem_map.1 hy
    exact h x hx
  · intro h x hx
    exact h _ (List.mem_map.2 ⟨x, hx, rfl⟩)
theorem dl_len8r {d : Dl} (h : d.length = 4) : (dlV d).length = 8 := by simp [dlV, fl_pi, iis_len, h]
theorem dl_oner (d : Dl) : (dlV d).all Value.oneCell' = true := by
  rw [dlV, List.all_append, iis_one, fl_pi]
  simp [List.all_map, Function.comp_def, Value.oneCell']
/-- A delta read: the delta, and the error. -/
def prs (s : Rs) : List (Int × List Int) × Int :=
  if (s.logs 4).2.fin ≠ 0 then (List.replicate 4 (0, []), (s.logs 4).2.fin) else if DR (s.logs 4).1 then ((s.logs 4).1, 0) else (List.replicate 4 (0, []), 3)
theorem parse_ok (p : Option Addr) (n cap : Nat) (xs : List Int) (hn : n = xs.length) (hbig : n ≤ 1000000000) (hb : Byt xs) (w : World) (hp : RdSl w p u8V xs) :
    CallM Try.prog 30 [.slice p n cap] [] w fun v L => ∃ (s : Rs) (d : Dl), s.xs = (if n ≤ 1024 then xs else []) ∧ s.e = (if n ≤ 1024 then 0 else 2) ∧ d.length = 4 ∧ v = .tuple #[.agg ⟨dlV d⟩, .int .i64 (prs s).2] ∧ pur d = (prs s).1 ∧ DlO d L := by
  have hnew := fun w1 (hc : Chg [] w w1) => rnewr_ok p n cap xs hn hbig hb w1 (hp.chg' hc (fun _ => Off.nil _))
  refine enterK (tb := tb) Try.func30 rfl Try.ntmps30 rfl ?_
  repeat' (first | (apply R.is1; first | (apply R.isCall; (apply R.callE (vs := [.slice p n cap]); (iterate 3 exact rfl); exact Ext.none _; intro w1 hw1; exact hnew w1 hw1.chg; rintro v Lo ⟨br, s0, M, rfl, hs1, hs2, hso, rfl⟩)) | (apply R.pure; exact rfl; first | (apply Ok1.move; exact rfl) | (apply Ok1.assign; exact rfl)) | (apply R.alloc; (iterate 3 exact rfl); intro)) | apply R.nil | (apply T.is; first | apply T.seq | apply T.region | apply T.block))
  rename_i bo bd
  clear hnew
  apply T.loopK (α := Nat × Dl × Lst) (I := fun y => y.1 ≤ 4 ∧ y.2.1.length = y.1 ∧ DlO y.2.1 y.2.2 ∧ ((s0.logs y.1).2.e = 0 → pur y.2.1 = (s0.logs y.1).1) ∧ ∀ x ∈ y.2.1, x.2.xs.length ≤ 65536) (σi := fun y => [(2, .pointer (some ⟨bo, 0, none⟩)), (4, .pointer (some ⟨br, 0, none⟩)), (5, .pointer (some ⟨bd, 0, none⟩)), (10, .int .i64 y.1)])
    (Li := fun y => (bo, .cells ⟨noD⟩ 41 (0, 0)) :: (bd, .cells ⟨padV y.2.1⟩ 41 (0, 0)) :: ((s0.logs y.1).2.L br ++ (M ++ y.2.2))) (μ := fun y => 4 - y.1) (i0 := (0, [], []))
  · exact ⟨Nat.zero_le _, rfl, DlO.nil _, fun _ => rfl, by simp⟩
  · exact ⟨rfl, rfl, rfl, rfl, trivial⟩
  · simp only [Rs.logs, pad0, noD]
    (focus ((repeat' (first | exact Keep.nil _ | exact Ext.one _ _ | exact Ext.here _ _ | exact Ext.all _ | apply Keep.cons | apply Keep.app | apply Ext.cons | apply Ext.app)); done))
  · rintro ⟨i, dd, D⟩ ⟨hi, hdl, hdo, hpur, h65⟩
    simp only at hi hdl hdo hpur h65 ⊢
    have hsi := hso.logs i
    rcases Nat.lt_or_ge i 4 with hlt | hge
    · have hst1 : (s0.logs (i + 1)).2 = (s0.logs i).2.log1.2 := rfl
      have hst2 : (s0.logs (i + 1)).1 = (s0.logs i).1 ++ [(s0.logs i).2.log1.1] := rfl
      generalize hsn : s0.logs (i + 1) = sn at *
      generalize hs9 : (s0.logs i) = sf at *
      obtain ⟨pd, s⟩ := sf
      simp only at *
      have hn1 := fun w1 h1 => rnum_ok br s 1 2 (by decide) u2 w1 h1
      have hs2o := hsi.num 2
      have hf := pad_from hdl hlt (s.num 2).1
      unfold Rs.log1 at hst1 hst2
      simp only at hst1 hst2
      have hebad : s.e ≠ 0 → (s.num 2).2.2.e ≠ 0 := fun h => by rw [Rs.num_bad h]; exact h
      generalize (s.num 2).1 = f at *
      generalize (s.num 2).2.2 = s' at *
      have hn2 := fun w1 h1 => rnum_ok br s' 1 2 (by decide) u2 w1 h1
      have hs3o := hs2o.num 2
      have hnr := s'.num_range 2 hs2o.byt rfl
      have hebad2 : s'.e ≠ 0 → (s'.num 2).2.2.e ≠ 0 := fun h => by rw [Rs.num_bad h]; exact h
      obtain ⟨nn, hnn⟩ : ∃ nn : Nat, (s'.num 2).1 = nn := ⟨(s'.num 2).1.toNat, by omega⟩
      rw [hnn] at hst1 hst2 hn2 hnr
      simp only [Int.toNat_natCast] at hst1 hst2
      generalize (s'.num 2).2.2 = t at *
      have hk1 := hsi.ok' br
      have hk2 := hs2o.ok' br
      generalize hL0 : s.L br = L0 at *
      generalize hL1 : s'.L br = L1 at *
      generalize hL2 : t.L br = L2 at *
      repeat' (first | (apply R.is1; first | (apply R.isBin; (apply R.pure; exact rfl; (apply Ok1.lss_t; exact rfl; exact rfl; omega))) | (apply R.isCall; first | (apply R.callE (Li := L0) (vs := [.pointer (some ⟨br, 0, none⟩), .int .i64 1]); (iterate 3 exact rfl); (focus ((repeat' (first | exact Ext.here _ _ | apply Ext.cons | apply Ext.app)); done)); intro w1 hw1; exact hn1 w1 (hk1 _ _ _ _ _ hw1 (by (focus ((repeat' (first | exact Ext.here _ _ | apply Ext.cons)); done))) (Ext.mem (by (focus ((repeat' (first | exact Ext.here _ _ | apply Ext.cons)); done))))); rintro v Lo ⟨rfl, hq⟩; rw [hq]; clear hq) | (apply R.callE (Li := L1) (vs := [.pointer (some ⟨br, 0, none⟩), .int .i64 1]); (iterate 3 exact rfl); (focus ((repeat' (exact Ext.here _ _)); done)); intro w1 hw1; exact hn2 w1 (hk2 _ _ _ _ _ hw1 (by (focus ((repeat' (exact Ext.here _ _)); done))) (Ext.mem (by (focus ((repeat' (first | exact Ext.here _ _ | apply Ext.cons)); done))))); rintro v Lo ⟨rfl, hq⟩; rw [hq]; clear hq)) | (apply R.pure; exact rfl; first | (apply Ok1.move; exact rfl) | (apply Ok1.fieldAddr; (iterate 5 exact rfl)) | (apply Ok1.assign; exact rfl) | (apply Ok1.indexAddrA; (iterate 5 exact rfl); omega; omega))) | (apply R.is0; (apply R.store; (iterate 6 exact rfl); (focus ((repeat' (first | exact Upd.head | apply Upd.tail | apply Upd.right)); done)); exact hf)) | apply R.nil | (apply T.is; first | apply T.seq | apply T.region | apply T.block | apply T.skip | (apply T.cond_t; exact rfl)))
      apply T.loopK (α := Nat × List Int × Ov) (I := fun y => y.1 ≤ nn ∧ y.2.1.length ≤ y.1 ∧ OvOk 1 y.2.2 y.2.1.length (iis y.2.1) ∧ ((t.st y.1).e = 0 → y.2.1 = t.vs y.1)) (σi := fun y => [(2, .pointer (some ⟨bo, 0, none⟩)), (4, .pointer (some ⟨br, 0, none⟩)), (5, .pointer (some ⟨bd, 0, none⟩)), (6, .int .i64 i), (10, .int .i64 i), (19, .int .i64 nn), (20, .int .i64 y.1)])
        (Li := fun y => (bo, .cells ⟨noD⟩ 41 (0, 0)) :: (bd, .cells ⟨padV (dd ++ [(f, ⟨ovp y.2.2, ovc y.2.2 y.2.1.length, y.2.1⟩)])⟩ 41 (0, 0)) :: ((t.st y.1).L br ++ (M ++ (blkL 3 y.2.2 (iis y.2.1) ++ D)))) (μ := fun y => nn - y.1) (i0 := (0, [], none))
      · exact ⟨Nat.zero_le _, Nat.le_refl _, OvOk.start 1, fun _ => rfl⟩
      · exact ⟨rfl, rfl, rfl, rfl, rfl, rfl, rfl, trivial⟩
      · simp only [Rs.st, hL2, blkL, List.nil_append, ovp, ovc, List.length_nil]
        (focus ((repeat' (first | exact Ext.one _ _ | exact Ext.here _ _ | exact Ext.all _ | apply Keep.cons | apply Keep.app | apply Keep.last | apply Ext.app)); done))
      · rintro ⟨k, ys, ov⟩ ⟨hk, hyl, hov, hys⟩
        simp only at hk hyl hov hys ⊢
        have h3o := hs3o.st k
        have hk3 := h3o.ok' br
        have hstk : t.st (k + 1) = if (t.st k).e = 0 then ((t.st k).num 2).2.2 else t.st k := rfl
        have hvs := t.vs_snoc k
        have hre := fun w1 h => rerr_ok br (t.st k) w1 h
        rcases Nat.lt_or_ge k nn with hkl | hkg
        · by_cases he : (t.st k).e = 0
          · rw [if_pos he] at hstk
            replace hys := hys he
            have hnum := fun w1 h1 => rnum_ok br (t.st k) 1 2 (by decide) u2 w1 h1
            generalize t.st k = r at *
            have hm3 : (br, Obj.cells ⟨[.slice r.q r.xs.length r.cap, .int .i64 r.e]⟩ 130 (0, 0)) ∈ r.L br := by simp [Rs.L]
            generalize hL3 : r.L br = L3 at *
            generalize hL4 : (r.num 2).2.2.L br = L4 at *
            generalize (r.num 2).1 = z at *
            have hat := pad_at hdl hlt f ⟨ovp ov, ovc ov ys.length, ys⟩
            simp only [← slV_eq hov] at hat
            have hsto := fun b j J => pad_log hdl hlt f ⟨ovp ov, ovc ov ys.length, ys⟩ ⟨ovp (some (b, j, J)), ovc (some (b, j, J)) (ys.length + 1), ys ++ [z]⟩
            simp only [List.length_append, List.length_singleton, ovp, ovc] at hsto
            rw [he] at hre hm3
            repeat' (first | (apply R.is1; first | (apply R.isBin; (apply R.pure; exact rfl; first | (apply Ok1.add64; exact rfl; exact rfl; omega; omega) | (apply Ok1.lss_t; exact rfl; exact rfl; omega) | (apply Ok1.eql_t; exact rfl; exact rfl; omega))) | (apply R.isCall; (apply R.callV (vs := [.pointer (some ⟨br, 0, none⟩)]); (iterate 3 exact rfl); intro w1 hw1; exact hre w1 (hw1.get _ _ (Ext.mem (s := L3) (by (focus ((repeat' (first | exact Ext.here _ _ | apply Ext.cons)); done))) _ hm3)))) | (apply R.pure; exact rfl; (apply Ok1.move; exact rfl))) | apply R.nil | (apply T.is; first | (apply T.drawC (id := 10) [] (by decide); ((apply A.take 0; exact rfl; exact rfl; kernel_rfl; kernel_rfl; kernel_rfl; (apply Ok1.move; exact rfl)) <;> (apply A.take 1; exact rfl; exact rfl; kernel_rfl; kernel_rfl; kernel_rfl; (apply Ok1.move; exact rfl)) <;> (apply A.take 2; exact rfl; exact rfl; kernel_rfl; kernel_rfl; kernel_rfl; (apply Ok1.fieldAddr; (iterate 5 exact rfl))) <;> (apply A.take 3; exact rfl; exact rfl; kernel_rfl; kernel_rfl; kernel_rfl; (apply Ok1.indexAddrA; (iterate 5 exact rfl); omega; omega)) <;> (apply A.take 5; exact rfl; exact rfl; kernel_rfl; kernel_rfl; kernel_rfl; (apply Ok1.move; exact rfl)) <;> (apply A.take 9; exact rfl; exact rfl; kernel_rfl; kernel_rfl; kernel_rfl; (apply Ok1.fieldAddr; (iterate 5 exact rfl))) <;> (apply A.two 4 6; kernel_rfl; exact rfl; exact rfl; rotate_left 1; (focus (((((apply R.callE (Li := L3) (vs := [.pointer (some ⟨br, 0, none⟩), .int .i64 1]); (iterate 3 exact rfl); (focus ((repeat' (first | exact Ext.here _ _ | apply Ext.cons)); done)); intro w1 hw1; exact hnum w1 (hk3 _ _ _ _ _ hw1 (by (focus ((repeat' (first | exact Ext.here _ _ | apply Ext.cons)); done))) (Ext.mem (by (focus ((repeat' (first | exact Ext.here _ _ | apply Ext.cons)); done))))); rintro v Lo ⟨rfl, hq⟩; rw [hq]; clear hq))); apply R.nil; refine ⟨?_, ?_⟩; (focus ((repeat' (exact trivial))))) <;> (apply A.two 4 7; kernel_rfl; exact rfl; exact rfl; rotate_left 1; (focus (((((apply R.buildSlice; (iterate 12 exact rfl); intro))); apply R.nil; refine ⟨?_, ?_⟩; (focus ((repeat' (exact trivial))))) <;> (apply A.one 4; kernel_rfl; exact rfl; (((apply R.pure; exact rfl; (apply Ok1.load; exact rfl; apply Ld.own1; exact rfl; exact rfl; (focus ((repeat' (first | exact At.head | apply At.tail | apply At.right)); done)); exact hat)))); apply R.nil; refine ⟨?_, ?_⟩; (focus ((repeat' (exact trivial))))) <;> (apply A.one 8; kernel_rfl; exact rfl; (((apply R.append1; (iterate 12 exact rfl); (focus ((repeat' (first | exact OwnAt.mid hov | apply OwnAt.tail | apply OwnAt.right)); done)); exact At.head; exact rfl; exact rfl; omega; omega; intro b2 j2 k2 hj2))); apply R.nil; refine ⟨?_, ?_⟩; (focus ((repeat' (exact trivial))))) <;> (apply A.take 10; exact rfl; exact rfl; kernel_rfl; kernel_rfl; kernel_rfl; (apply Ok1.indexAddrA; (iterate 5 exact rfl); omega; omega)) <;> (apply A.one 11; kernel_rfl; exact rfl; (((apply R.store; (iterate 6 exact rfl); (focus ((repeat' (first | exact Upd.head | apply Upd.tail | apply Upd.right)); done)); exact hsto _ _ []))); apply R.nil; refine ⟨?_, ?_⟩; (focus ((repeat' (exact trivial))))) <;> (apply A.done; kernel_rfl))); rotate_right 1; (focus (((((apply R.pure; exact rfl; (apply Ok1.load; exact rfl; apply Ld.own1; exact rfl; exact rfl; (focus ((repeat' (first | exact At.head | apply At.tail | apply At.right)); done)); exact hat)))); apply R.nil; refine ⟨?_, ?_⟩; (focus ((repeat' (exact trivial))))) <;> (apply A.one 7; kernel_rfl; exact rfl; (((apply R.buildSlice; (iterate 12 exact rfl); intro))); apply R.nil; refine ⟨?_, ?_⟩; (focus ((repeat' (exact trivial))))) <;> (apply A.one 8; kernel_rfl; exact rfl; (((apply R.append1; (iterate 12 exact rfl); (focus ((repeat' (first | exact OwnAt.mid hov | apply OwnAt.tail | apply OwnAt.right)); done)); exact At.head; exact rfl; exact rfl; omega; omega; intro b2 j2 k2 hj2))); apply R.nil; refine ⟨?_, ?_⟩; (focus ((repeat' (exact trivial))))) <;> (apply A.take 10; exact rfl; exact rfl; kernel_rfl; kernel_rfl; kernel_rfl; (apply Ok1.indexAddrA; (iterate 5 exact rfl); omega; omega)) <;> (apply A.one 11; kernel_rfl; exact rfl; (((apply R.store; (iterate 6 exact rfl); (focus ((repeat' (first | exact Upd.head | apply Upd.tail | apply Upd.right)); done)); exact hsto _ _ []))); apply R.nil; refine ⟨?_, ?_⟩; (focus ((repeat' (exact trivial))))) <;> (apply A.done; kernel_rfl)))))); rotate_right 1; (focus (((((apply R.pure; exact rfl; (apply Ok1.load; exact rfl; apply Ld.own1; exact rfl; exact rfl; (focus ((repeat' (first | exact At.head | apply At.tail)); done)); exact hat)))); apply R.nil; refine ⟨?_, ?_⟩; (focus ((repeat' (exact trivial))))) <;> (apply A.one 6; kernel_rfl; exact rfl; (((apply R.callE (Li := L3) (vs := [.pointer (some ⟨br, 0, none⟩), .int .i64 1]); (iterate 3 exact rfl); (focus ((repeat' (first | exact Ext.here _ _ | apply Ext.cons)); done)); intro w1 hw1; exact hnum w1 (hk3 _ _ _ _ _ hw1 (by (focus ((repeat' (first | exact Ext.here _ _ | apply Ext.cons)); done))) (Ext.mem (by (focus ((repeat' (first | exact Ext.here _ _ | apply Ext.cons)); done))))); rintro v Lo ⟨rfl, hq⟩; rw [hq]; clear hq))); apply R.nil; refine ⟨?_, ?_⟩; (focus ((repeat' (exact trivial))))) <;> (apply A.one 7; kernel_rfl; exact rfl; (((apply R.buildSlice; (iterate 12 exact rfl); intro))); apply R.nil; refine ⟨?_, ?_⟩; (focus ((repeat' (exact trivial))))) <;> (apply A.one 8; kernel_rfl; exact rfl; (((apply R.append1; (iterate 12 exact rfl); (focus ((repeat' (first | exact OwnAt.mid hov | apply OwnAt.tail | apply OwnAt.right)); done)); exact At.head; exact rfl; exact rfl; omega; omega; intro b2 j2 k2 hj2))); apply R.nil; refine ⟨?_, ?_⟩; (focus ((repeat' (exact trivial))))) <;> (apply A.take 10; exact rfl; exact rfl; kernel_rfl; kernel_rfl; kernel_rfl; (apply Ok1.indexAddrA; (iterate 5 exact rfl); omega; omega)) <;> (apply A.one 11; kernel_rfl; exact rfl; (((apply R.store; (iterate 6 exact rfl); (focus ((repeat' (first | exact Upd.head | apply Upd.tail | apply Upd.right)); done)); exact hsto _ _ []))); apply R.nil; refine ⟨?_, ?_⟩; (focus ((repeat' (exact trivial))))) <;> (apply A.done; kernel_rfl)))))) | apply T.seq | apply T.region | apply T.block | apply T.skip | (apply T.cond_t; exact rfl)))
            all_goals
              refine ⟨(k + 1, ys ++ [z], some (b2, j2, k2)), ?_⟩
              have hov2 : OvOk 1 (some (b2, j2, k2)) (ys ++ [z]).length (iis (ys ++ [z])) := by
                rw [iis_app, List.length_append]
                exact OvOk.some hov rfl hj2
              simp only [hstk, hL4]
              refine ⟨⟨by omega, by simp only [List.length_append, List.length_singleton]; omega, hov2, fun h => by rw [hvs, hys]⟩, by omega, ⟨rfl, rfl, rfl, rfl, rfl, rfl, rfl, trivial⟩, ?_⟩
              simp only [blkL, iis_app, List.length_append, List.length_singleton, ovp, ovc, List.cons_append, List.nil_append]
              (focus ((repeat' (first | exact Ext.one _ _ | exact Ext.here _ _ | exact Ext.all _ | apply Keep.cons | apply Keep.app | apply Keep.last | apply Ext.cons | apply Ext.app)); done))
          · rw [if_neg he] at hstk
            generalize t.st k = r at *
            have hm3 : (br, Obj.cells ⟨[.slice r.q r.xs.length r.cap, .int .i64 r.e]⟩ 130 (0, 0)) ∈ r.L br := by simp [Rs.L]
            generalize hL3 : r.L br = L3 at *
            repeat' (first | (apply R.is1; first | (apply R.isBin; (apply R.pure; exact rfl; first | (apply Ok1.add64; exact rfl; exact rfl; omega; omega) | (apply Ok1.lss_t; exact rfl; exact rfl; omega) | (apply Ok1.eql_f; exact rfl; exact rfl; omega))) | (apply R.isCall; (apply R.callV (vs := [.pointer (some ⟨br, 0, none⟩)]); (iterate 3 exact rfl); intro w1 hw1; exact hre w1 (hw1.get _ _ (Ext.mem (s := L3) (by (focus ((repeat' (first | exact Ext.here _ _ | apply Ext.cons)); done))) _ hm3)))) | (apply R.pure; exact rfl; (apply Ok1.move; exact rfl))) | apply R.nil | (apply T.is; first | apply T.seq | apply T.region | apply T.block | apply T.skip | (apply T.cond_t; exact rfl) | (apply T.cond_f; exact rfl)))
            refine ⟨(k + 1, ys, ov), ?_⟩
            simp only [hstk, hL3]
            exact ⟨⟨by omega, by omega, hov, fun h => absurd h he⟩, by omega, ⟨rfl, rfl, rfl, rfl, rfl, rfl, rfl, trivial⟩, by (focus ((repeat' (first | exact Ext.one _ _ | exact Ext.here _ _ | exact Ext.all _ | apply Keep.cons | apply Keep.app | apply Keep.last)); done))⟩
        · have hkn : k = nn := by omega
          subst hkn
          have hse : (t.st k).e = 0 → s.e = 0 := fun h => Classical.byContradiction fun h1 => by
            rw [Rs.st_e (hebad2 (hebad h1))] at h
            exact hebad2 (hebad h1) h
          rw [← hst1] at h3o hys hse ⊢
          generalize hL3 : sn.2.L br = L3 at *
          repeat' (first | (apply R.is1; first | (apply R.isBin; (apply R.pure; exact rfl; first | (apply Ok1.add64; exact rfl; exact rfl; omega; omega) | (apply Ok1.lss_f; exact rfl; exact rfl; omega))) | (apply R.pure; exact rfl; (apply Ok1.move; exact rfl))) | apply R.nil | (apply T.is; first | apply T.seq | apply T.region | apply T.exit | (apply T.cond_f; exact rfl)))
          refine ⟨(i + 1, dd ++ [(f, ⟨ovp ov, ovc ov ys.length, ys⟩)], blkL 3 ov (iis ys) ++ D), ?_⟩
          simp only [hsn, hL3]
          refine ⟨⟨by omega, by rw [List.length_append, hdl]; rfl, hdo.own hov f, fun h => ?_, fun x hx => ?_⟩, by omega, ⟨rfl, rfl, rfl, rfl, trivial⟩, by (focus ((repeat' (first | exact Ext.one _ _ | exact Ext.here _ _ | exact Ext.all _ | apply Keep.cons | apply Keep.app | apply Keep.last)); done))⟩
          · rw [hst2, pur, List.map_append, ← hys h, ← hpur (hse h)]
            rfl
          · rcases List.mem_append.1 hx with h | h
            · exact h65 x h
            · rw [List.mem_singleton.1 h]
              simp only
              omega
    · have hi4 : i = 4 := by omega
      subst hi4
      have hpv := pad_all hdl
      have hl8 := dl_len8r hdl
      have h1c := dl_oner dd
      rw [hpv]
      have hck := fun w1 h1 => rcheck_ok dd hdl (fun x hx => by have := h65 x hx; omega) w1 h1
      have hend := fun w1 h => rend_ok br (s0.logs 4).2 w1 h
      have hdrd := hdo.rd
      have hprs : prs s0 = if (s0.logs 4).2.fin ≠ 0 then (List.replicate 4 (0, []), (s0.logs 4).2.fin) else if DR (s0.logs 4).1 then ((s0.logs 4).1, 0) else (List.replicate 4 (0, []), 3) := rfl
      have hfin : (s0.logs 4).2.fin = 0 → (s0.logs 4).2.e = 0 := fun h => by
        unfold Rs.fin at h
        split at h
        · exact h
        · rename_i h1; exact Classical.not_not.1 h1
      have hdr := dok_dr dd
      generalize s0.logs 4 = F at *
      obtain ⟨F1, r⟩ := F
      simp only at *
      have hm3 : (br, Obj.cells ⟨[.slice r.q r.xs.length r.cap, .int .i64 r.e]⟩ 130 (0, 0)) ∈ r.L br := by simp [Rs.L]
      generalize hL3 : r.L br = L3 at *
      by_cases hf0 : r.fin = 0
      · rw [hpur (hfin hf0)] at hdr
        rw [hf0, if_neg (fun h => h rfl)] at hprs
        rw [hf0] at hend
        by_cases hok : DOk dd
        · rw [if_pos hok] at hck
          rw [if_pos (hdr.1 hok)] at hprs
          repeat' (first | (apply R.is1; first | (apply R.isBin; (apply R.pure; exact rfl; first | (apply Ok1.lss_f; exact rfl; exact rfl; omega) | (apply Ok1.neq_f; exact rfl; exact rfl; omega))) | (apply R.isCall; first | (apply R.callV (vs := [.pointer (some ⟨br, 0, none⟩)]); (iterate 3 exact rfl); intro w1 hw1; exact hend w1 (hw1.get _ _ (Ext.mem (s := L3) (by (focus ((repeat' (first | exact Ext.here _ _ | apply Ext.cons)); done))) _ hm3))) | (apply R.callV (vs := [.agg ⟨dlV dd⟩]); (iterate 3 exact rfl); intro w1 hw1; exact hck w1 (hdrd _ _ _ _ hw1 (Ext.mem (by (focus ((repeat' (first | exact Ext.all _ | apply Ext.cons | apply Ext.app)); done))))))) | (apply R.pure; exact rfl; first | (apply Ok1.load; exact rfl; (apply Ld.ownk; exact rfl; exact rfl; (focus ((repeat' (first | exact At.head | apply At.tail)); done)); exact subE_all hl8)) | (apply Ok1.move; exact rfl) | (apply Ok1.assign; exact rfl))) | (apply R.is0; (apply R.store; (iterate 4 exact rfl); exact hl8; exact h1c; exact Upd.head; exact setE_all (by rw [hl8]; rfl))) | apply R.nil | (apply T.is; first | apply T.seq | apply T.region | apply T.skip | apply T.exit | apply T.ret | (apply T.cond_f; exact rfl)))
          (apply RetOk.ct; exact rfl; (apply Ld.ownk; exact rfl; exact rfl; exact At.head; exact subE_all hl8); exact rfl)
          refine ⟨D, ?_, s0, dd, hs1, hs2, hdl, ?_, ?_, hdo⟩
          · (focus ((repeat' (first | exact Ext.all _ | apply Keep.last | apply Ext.cons | apply Ext.app)); done))
          · rw [hprs]
          · rw [hprs]; exact hpur (hfin hf0)
        · rw [if_neg hok] at hck
          rw [if_neg (fun h => hok (hdr.2 h))] at hprs
          repeat' (first | (apply R.is1; first | (apply R.isBin; (apply R.pure; exact rfl; first | (apply Ok1.lss_f; exact rfl; exact rfl; omega) | (apply Ok1.neq_t; exact rfl; exact rfl; omega) | (apply Ok1.neq_f; exact rfl; exact rfl; omega))) | (apply R.isCall; first | (apply R.callV (vs := [.pointer (some ⟨br, 0, none⟩)]); (iterate 3 exact rfl); intro w1 hw1; exact hend w1 (hw1.get _ _ (Ext.mem (s := L3) (by (focus ((repeat' (first | exact Ext.here _ _ | apply Ext.cons)); done))) _ hm3))) | (apply R.callV (vs := [.agg ⟨dlV dd⟩]); (iterate 3 exact rfl); intro w1 hw1; exact hck w1 (hdrd _ _ _ _ hw1 (Ext.mem (by (focus ((repeat' (first | exact Ext.all _ | apply Ext.cons | apply Ext.app)); done))))))) | (apply R.pure; exact rfl; first | (apply Ok1.load; exact rfl; (apply Ld.ownk; exact rfl; exact rfl; (focus ((repeat' (first | exact At.head | apply At.tail)); done)); exact subE_all hl8)) | (apply Ok1.move; exact rfl) | (apply Ok1.assign; exact rfl) | (apply Ok1.build; (iterate 5 exact rfl)))) | (apply R.is0; (apply R.store; (iterate 6 exact rfl); exact Upd.head; exact rfl)) | apply R.nil | (apply T.is; first | apply T.seq | apply T.region | apply T.skip | apply T.exit | apply T.ret | (apply T.cond_t; exact rfl) | (apply T.cond_f; exact rfl)))
          (apply RetOk.ct; exact rfl; ((apply Ld.ownk; exact rfl; exact rfl; exact At.head; exact rfl)); exact rfl)
          refine ⟨[], ?_, s0, nod, hs1, hs2, rfl, ?_, ?_, nod_o _⟩
          · (focus ((repeat' (exact Keep.nil _)); done))
          · rw [hprs]; rfl
          · rw [hprs]; rfl
      · rw [if_pos hf0] at hprs
        repeat' (first | (apply R.is1; first | (apply R.isBin; (apply R.pure; exact rfl; first | (apply Ok1.lss_f; exact rfl; exact rfl; omega) | (apply Ok1.neq_t; exact rfl; exact rfl; omega))) | (apply R.isCall; (apply R.callV (vs := [.pointer (some ⟨br, 0, none⟩)]); (iterate 3 exact rfl); intro w1 hw1; exact hend w1 (hw1.get _ _ (Ext.mem (s := L3) (by (focus ((repeat' (first | exact Ext.here _ _ | apply Ext.cons)); done))) _ hm3)))) | (apply R.pure; exact rfl; first | (apply Ok1.move; exact rfl) | (apply Ok1.assign; exact rfl) | (apply Ok1.build; (iterate 5 exact rfl)))) | (apply R.is0; (apply R.store; (iterate 6 exact rfl); exact Upd.head; exact rfl)) | apply R.nil | (apply T.is; first | apply T.seq | apply T.region | apply T.exit | apply T.ret | (apply T.cond_t; exact rfl) | (apply T.cond_f; exact rfl)))
        (apply RetOk.ct; exact rfl; ((apply Ld.ownk; exact rfl; exact rfl; exact At.head; exact rfl)); exact rfl)
        refine ⟨[], ?_, s0, nod, hs1, hs2, rfl, ?_, ?_, nod_o _⟩
        · (focus ((repeat' (exact Keep.nil _)); done))
        · rw [hprs]; rfl
        · rw [hprs]; rfl
end Go.Proofs.Ytligpachgcmkcaa
/- Plain: what was written is read again; a reader's answers come of its bytes. -/
set_option linter.unusedSimpArgs false
set_option linter.unusedVariables false
namespace Go.Proofs.Ytligpachgcmkcaa
open Go.RowKit Go.Shelf

structure Rs.is (s : Rs) (xs : List Int) (e : Int) : Prop where
  xs : s.xs = xs
  e : s.e = e
theorem Rs.num_enc {s : Rs} {v : Int} {rest : List Int} (h : s.is (numI 1 v ++ rest) 0) (h0 : 0 ≤ v) (h1 : v ≤ 65535) : (s.num 2).1 = v ∧ (s.num 2).2.2.is rest 0 := by
  obtain ⟨hx, he⟩ := h
  have e1 : (s.xs.take 2) = [v / 256 % 256, v % 256] := by rw [hx]; rfl
  have e2 : beN [v / 256 % 256, v % 256] = v := by
    simp only [beN, List.foldl_cons, List.foldl_nil]
    omega
  unfold Rs.num
  rw [if_neg, e1, e2, if_pos (by omega)]
  · refine ⟨rfl, ?_, he⟩
    simp only [Rs.drop]
    rw [hx]; rfl
  · rw [hx]
    rintro (h | h)
    · exact h he
    · simp only [numI, List.cons_append, List.nil_append, List.length_cons] at h
      omega
theorem Rs.st_enc {s : Rs} {l rest : List Int} (h : s.is (numsI 1 l ++ rest) 0) (hl : ∀ y ∈ l, 0 ≤ y ∧ y ≤ 65535) : ∀ k ≤ l.length, (s.st k).is (numsI 1 (l.drop k) ++ rest) 0 ∧ s.vs k = l.take k := by
  intro k
  induction k with
  | zero => exact fun _ => ⟨h, rfl⟩
  | succ k ih =>
    intro hk
    obtain ⟨h1, h2⟩ := ih (by omega)
    have hd : l.drop k = l[k] :: l.drop (k + 1) := by rw [List.drop_eq_getElem_cons]
    rw [hd, numsI, List.flatMap_cons, List.append_assoc] at h1
    obtain ⟨b0, b1⟩ := hl l[k] (List.getElem_mem _)
    obtain ⟨h3, h4⟩ := Rs.num_enc h1 b0 b1
    refine ⟨?_, ?_⟩
    · rw [Rs.st, if_pos h1.e]
      exact h4
    · rw [Rs.vs_snoc, h3, h2, List.take_add_one, List.getElem?_eq_getElem (by omega)]
      rfl
theorem Rs.log1_enc {s : Rs} {x : Int × List Int} {rest : List Int} (h : s.is (encL x ++ rest) 0) (h0 : 0 ≤ x.1 ∧ x.1 ≤ 65535) (h1 : x.2.length ≤ 65535) (hl : ∀ y ∈ x.2, 0 ≤ y ∧ y ≤ 65535) : s.log1.1 = x ∧ s.log1.2.is rest 0 := by
  obtain ⟨f, l⟩ := x
  change 0 ≤ f ∧ f ≤ 65535 at h0
  change l.length ≤ 65535 at h1
  change ∀ y ∈ l, _ at hl
  rw [encL, numsI, List.flatMap_cons, List.flatMap_cons, List.flatMap_nil, List.append_nil, List.append_assoc, List.append_assoc] at h
  simp only at h
  obtain ⟨e1, h2⟩ := Rs.num_enc h h0.1 h0.2
  obtain ⟨e2, h3⟩ := Rs.num_enc h2 (by omega) (by omega)
  obtain ⟨h4, h5⟩ := Rs.st_enc h3 hl l.length (Nat.le_refl _)
  unfold Rs.log1
  simp only [e1, e2, Int.toNat_natCast]
  rw [List.take_length] at h5
  refine ⟨by rw [h5], ?_⟩
  rw [List.drop_length] at h4
  exact h4
theorem Rs.logs_enc {s : Rs} {dd : List (Int × List Int)} {rest : List Int} (h : s.is (encD dd ++ rest) 0) (hd : DR dd) : ∀ k ≤ dd.length, (s.logs k).1 = dd.take k ∧ (s.logs k).2.is (encD (dd.drop k) ++ rest) 0 := by
  intro k
  induction k with
  | zero => exact fun _ => ⟨rfl, h⟩
  | succ k ih =>
    intro hk
    obtain ⟨h1, h2⟩ := ih (by omega)
    have hdr : dd.drop k = dd[k] :: dd.drop (k + 1) := by rw [List.drop_eq_getElem_cons]
    rw [hdr, encD, List.flatMap_cons, List.append_assoc] at h2
    obtain ⟨b0, b1, b2, b3⟩ := hd dd[k] (List.getElem_mem _)
    obtain ⟨h3, h4⟩ := Rs.log1_enc h2 ⟨b0, by omega⟩ (by omega) fun y hy => by have := b3 y hy; omega
    refine ⟨?_, h4⟩
    rw [Rs.logs, h1, h3, List.take_add_one, List.getElem?_eq_getElem (by omega)]
    rfl
theorem prs_enc {s : Rs} {dd : List (Int × List Int)} (h : s.is (encD dd) 0) (hl : dd.length = 4) (hd : DR dd) : prs s = (dd, 0) := by
  obtain ⟨h1, h2⟩ := Rs.logs_enc (rest := []) (by rw [List.append_nil]; exact h) hd 4 (by omega)
  rw [List.take_of_length_le (by omega)] at h1
  rw [List.drop_of_length_le (by omega)] at h2
  have hf : (s.logs 4).2.fin = 0 := by
    unfold Rs.fin
    rw [h2.e, h2.xs]
    rfl
  unfold prs
  rw [hf, if_neg (fun h => h rfl), h1, if_pos hd]
/-- Two readers with the same bytes. -/
def Rs.eqv (s t : Rs) : Prop := s.xs = t.xs ∧ s.e = t.e
theorem Rs.eqv.fail {s t : Rs} (h : s.eqv t) (e : Int) : (s.fail e).eqv (t.fail e) := by
  unfold Rs.fail
  rw [h.2]
  split
  · exact ⟨rfl, rfl⟩
  · exact h
theorem Rs.eqv.drop {s t : Rs} (h : s.eqv t) (k : Nat) : (s.drop k).eqv (t.drop k) := ⟨by simp only [Rs.drop]; rw [h.1], h.2⟩
theorem Rs.eqv.num {s t : Rs} (h : s.eqv t) (k : Nat) : (s.num k).1 = (t.num k).1 ∧ (s.num k).2.1 = (t.num k).2.1 ∧ (s.num k).2.2.eqv (t.num k).2.2 := by
  unfold Rs.num
  rw [h.1, h.2]
  split
  · exact ⟨rfl, rfl, h.fail 4⟩
  · split
    · exact ⟨rfl, rfl, h.drop k⟩
    · exact ⟨rfl, rfl, (h.drop k).fail 3⟩
theorem Rs.eqv.st {s t : Rs} (h : s.eqv t) (n : Nat) : (s.st n).eqv (t.st n) ∧ s.vs n = t.vs n := by
  induction n with
  | zero => exact ⟨h, rfl⟩
  | succ n ih =>
    obtain ⟨h1, h2⟩ := ih
    obtain ⟨h3, _, h4⟩ := h1.num 2
    refine ⟨?_, by rw [Rs.vs_snoc, Rs.vs_snoc, h2, h3]⟩
    rw [Rs.st, Rs.st, h1.2]
    split
    · exact h4
    · exact h1
theorem Rs.eqv.log1 {s t : Rs} (h : s.eqv t) : s.log1.1 = t.log1.1 ∧ s.log1.2.eqv t.log1.2 := by
  obtain ⟨h1, _, h2⟩ := h.num 2
  obtain ⟨h3, _, h4⟩ := h2.num 2
  unfold Rs.log1
  simp only [h1, h3]
  obtain ⟨h5, h6⟩ := h4.st ((t.num 2).2.2.num 2).1.toNat
  exact ⟨by rw [h6], h5⟩
theorem Rs.eqv.logs {s t : Rs} (h : s.eqv t) (n : Nat) : (s.logs n).1 = (t.logs n).1 ∧ (s.logs n).2.eqv (t.logs n).2 := by
  induction n with
  | zero => exact ⟨rfl, h⟩
  | succ n ih =>
    obtain ⟨h1, h2⟩ := ih
    obtain ⟨h3, h4⟩ := h2.log1
    exact ⟨by rw [Rs.logs, Rs.logs, h1, h3], h4⟩
theorem Rs.eqv.fin {s t : Rs} (h : s.eqv t) : s.fin = t.fin := by unfold Rs.fin; rw [h.1, h.2]
theorem Rs.eqv.prs {s t : Rs} (h : s.eqv t) : prs s = prs t := by
  obtain ⟨h1, h2⟩ := h.logs 4
  unfold Go.Proofs.Ytligpachgcmkcaa.prs
  rw [h1, h2.fin]
end Go.Proofs.Ytligpachgcmkcaa
