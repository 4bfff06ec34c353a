/- Contracts of mac: filled. -/
import Derived.Test.YtiegdpmkgegbaaaDg7
import Derived.Test.YtiegdpmkgegbaaaEng27
set_option linter.unusedSimpArgs false
set_option linter.unusedVariables false
namespace Go.Proofs.Ytiegdpmkgegbaaa
open Go.RowKit Go.Shelf
set_option maxRecDepth 100000

theorem mapL_get {f : Int → Int} {l : List Int} {i : Nat} {x : Int} (h : l[i]? = some x) : (u8s ((l.take i).map f ++ l.drop i))[0 + i * 1]? = some (.int .u8 x) := by
  obtain ⟨hi, rfl⟩ := List.getElem?_eq_some_iff.1 h
  have hl : ((l.take i).map f).length = i := by rw [List.length_map, List.length_take]; omega
  rw [Nat.zero_add, Nat.mul_one, u8s, List.getElem?_map, List.getElem?_append_right (by omega), hl, Nat.sub_self, List.drop_eq_getElem_cons hi]
  rfl
theorem mapL_set {f : Int → Int} {l : List Int} {i : Nat} {x : Int} (h : l[i]? = some x) : setE (u8s ((l.take i).map f ++ l.drop i)) (0 + i * 1) [.int .u8 (f x)] = some (u8s ((l.take (i + 1)).map f ++ l.drop (i + 1))) := by
  obtain ⟨hi, rfl⟩ := List.getElem?_eq_some_iff.1 h
  have hl : (u8s ((l.take i).map f)).length = 0 + i * 1 := by rw [u8s_len, List.length_map, List.length_take]; omega
  rw [u8s_app, ← hl, setE_mid _ (by rw [u8s_len, List.length_drop]; simp; omega)]
  congr 1
  rw [List.take_add_one, h, List.map_append, u8s_app, u8s_app]
  congr 1
  rw [List.length_singleton, u8s, ← List.map_drop, List.drop_drop]
  rfl
def padKey (k : List Int) : List Int := if 64 < k.length then shaI k else k
theorem padKey_len (k : List Int) : (padKey k).length ≤ 64 := by unfold padKey; split; rw [sha_len]; omega; omega
def filledI (k : List Int) (x : Int) : List Int := (padKey k ++ List.replicate (64 - (padKey k).length) 0).map fun y => xorI .u8 y x
theorem filled_len (k : List Int) (x : Int) : (filledI k x).length = 64 := by
  have := padKey_len k
  simp [filledI]; omega
theorem xor8_range (a b : Int) : 0 ≤ xorI .u8 a b ∧ xorI .u8 a b ≤ 255 := by
  unfold xorI; rw [u8_mod]; omega
theorem filled_byt (k : List Int) (x : Int) : Byt (filledI k x) := by
  intro y hy
  obtain ⟨z, _, rfl⟩ := List.mem_map.1 hy
  exact xor8_range _ _
theorem out_byt (s : H8) : Byt (outI s) := by
  intro y hy
  simp only [outI, H8.l, List.mem_flatMap, List.mem_cons, List.not_mem_nil, or_false] at hy
  obtain ⟨x, _, h⟩ := hy
  rcases h with rfl | rfl | rfl | rfl <;> omega
theorem sha_byt (b : List Int) : Byt (shaI b) := out_byt _
theorem filled_ok (p : Option Addr) (n cap : Nat) (k : List Int) (x : Int) (hn : n = k.length) (hbig : n ≤ 999999000) (hb : Byt k) (w : World) (hp : RdSl w p u8V k) :
    CallM Try.prog 88 [.slice p n cap, .int .u8 x] [] w fun v L => ∃ b0, v = .slice (some ⟨b0, 0, none⟩) 64 64 ∧ L = [(b0, .cells ⟨u8s (filledI k x)⟩ 5 (0, 0))] := by
  subst hn
  refine enterK (tb := tb) Try.func88 rfl Try.ntmps88 rfl ?_
  have hkl := padKey_len k
  repeat' (first | (apply R.is1; first | (apply R.make1 (n := 64); (iterate 9 exact rfl); omega; intro b5) | (apply R.isBin; (apply R.gtr rfl rfl rfl <;> intro)) | (apply R.isCall; (apply R.pure; exact rfl; (apply Ok1.lenS; (iterate 3 exact rfl)))) | (apply R.pure; exact rfl; first | (apply Ok1.move; exact rfl) | (apply Ok1.assign; exact rfl)) | (apply R.buildSlice; (iterate 12 exact rfl); intro)) | apply R.nil | (apply T.is; first | (refine T.meetK (x := .seq (.region 3 _ _) _) (α := Option Addr × Nat × Lst) (I := fun y => ∀ w1 L1, Hp w [] L1 w1 → (∀ z ∈ y.2.2, z ∈ L1) → RdSl w1 y.1 u8V (padKey k)) (σi := fun y => [(1, .int .u8 x), (5, .slice (some ⟨b5, 0, none⟩) 64 64), (6, .slice y.1 (padKey k).length y.2.1)]) (Li := fun y => (b5, .cells ⟨List.replicate 64 (.int .u8 0)⟩ 5 (0, 0)) :: y.2.2) ?_ ?_) | apply T.seq | apply T.region | apply T.skip | (apply T.cond_t; exact rfl) | (apply T.cond_f; exact rfl)))
  · have hk : 64 < k.length := by omega
    have hpk : padKey k = shaI k := if_pos hk
    have hsl := sha_len k
    have hls : (u8s (shaI k)).length = 32 := by rw [u8s_len, hsl]
    have hone := u8s_one (shaI k)
    have hset : ∀ cs : List Value, cs.length = 32 → setE cs 0 (u8s (shaI k)) = some (u8s (shaI k)) := fun cs h => setE_all (by rw [hls, h])
    have hcat : cat [⟨p, cap, k⟩] = k := by simp [cat]
    repeat' (first | (apply R.is1; first | (apply R.isCall; (apply R.callV; (iterate 3 exact rfl); intro w1 hw1; have h9 := dSum_ok (some ⟨_, 0, none⟩) 1 1 [⟨p, cap, k⟩] rfl (by rw [hcat]; exact hb) (by rw [hcat]; exact hbig) (by decide) w1 (RdSl.of (v := Pt.v) (rs := [⟨p, cap, k⟩]) (junk := []) hw1 (by exact At.head) rfl) (fun y hy => by rw [List.mem_singleton.1 hy]; exact hp.chg' hw1.chg (fun _ => Off.nil _)); rw [hcat] at h9; exact h9)) | (apply R.pure; exact rfl; first | (apply Ok1.sliceArr; (iterate 4 exact rfl)) | (apply Ok1.assign; exact rfl)) | (apply R.alloc; (iterate 3 exact rfl); intro)) | (apply R.is0; (apply R.store; (iterate 4 exact rfl); exact hls; exact hone; exact Upd.head; exact hset _ rfl)) | apply R.nil | (apply T.is; apply T.region))
    rename_i bq b7
    refine ⟨(some ⟨b7, 0, none⟩, 32, [(b7, .cells ⟨u8s (shaI k)⟩ 45 (0, 0))]), ?_, ⟨rfl, rfl, ?_, trivial⟩, ?_⟩
    · intro w1 L1 hw1 hin
      rw [hpk]
      exact RdSl.ofMem (junk := []) hw1 (hin _ List.mem_cons_self) (by rw [fl_u8, List.append_nil])
    · rw [hpk, hsl]; rfl
    · (focus ((repeat' (first | exact Keep.nil _ | exact Ext.one _ _ | apply Keep.cons | apply Ext.cons)); done))
  · have hk : ¬ 64 < k.length := by omega
    have hpk : padKey k = k := if_neg hk
    refine ⟨(p, cap, []), ?_, ⟨rfl, rfl, ?_, trivial⟩, ?_⟩
    · intro w1 L1 hw1 hin
      rw [hpk]
      exact hp.chg' hw1.chg (fun _ => Off.nil _)
    · rw [hpk]; rfl
    · (focus ((repeat' (first | exact Keep.nil _ | exact Ext.one _ _ | apply Keep.cons)); done))
  · rintro ⟨p1, c1, ex⟩ hrd
    simp only at hrd ⊢
    have hcp : setE (List.replicate 64 (.int .u8 0)) 0 (fl u8V ((padKey k).take 64)) = some (u8s (padKey k ++ List.replicate (64 - (padKey k).length) 0)) := by
      rw [List.take_of_length_le hkl, fl_u8]
      have := setE_mid [] (vs := u8s (padKey k)) (junk := List.replicate 64 (.int .u8 0)) (by rw [u8s_len, List.length_replicate]; exact hkl)
      rw [List.nil_append, List.length_nil] at this
      rw [this, u8s_app, u8s_len, List.drop_replicate]
      simp [u8s]
    have hfi : filledI k x = (padKey k ++ List.replicate (64 - (padKey k).length) 0).map fun y => xorI .u8 y x := rfl
    have hcl : (padKey k ++ List.replicate (64 - (padKey k).length) 0).length = 64 := by rw [List.length_append, List.length_replicate]; omega
    repeat' (first | (apply R.is1; first | (apply R.isCall; first | (apply R.copyRd (xs := padKey k) (v := u8V); (iterate 8 exact rfl); exact u8V_len; (intro w1 hw1; exact hrd w1 _ hw1 (fun z hz => List.mem_cons_of_mem _ hz)); (rw [fl_u8]; exact u8s_one _); exact Upd.head; exact hcp) | (apply R.pure; exact rfl; (apply Ok1.lenS; (iterate 3 exact rfl)))) | (apply R.pure; exact rfl; (apply Ok1.move; exact rfl))) | apply R.nil | (apply T.is; first | apply T.seq | apply T.region | apply T.block))
    generalize padKey k ++ List.replicate (64 - (padKey k).length) 0 = c0 at *
    apply T.loopK (α := Nat) (I := fun i => i ≤ 64) (σi := fun i => [(1, .int .u8 x), (5, .slice (some ⟨b5, 0, none⟩) 64 64), (22, .int .i64 64), (23, .int .i64 i)]) (Li := fun i => [(b5, .cells ⟨u8s ((c0.take i).map (fun y => xorI .u8 y x) ++ c0.drop i)⟩ 5 (0, 0))]) (μ := fun i => 64 - i) (i0 := 0)
    · exact Nat.zero_le _
    · exact ⟨rfl, rfl, rfl, rfl, trivial⟩
    · simp only [List.take_zero, List.map_nil, List.drop_zero, List.nil_append]
      (focus ((repeat' (first | exact Keep.nil _ | exact Ext.one _ _ | apply Keep.cons)); done))
    · intro i hi
      rcases Nat.lt_or_ge i 64 with hlt | hge
      · obtain ⟨y, hy⟩ : ∃ y, c0[i]? = some y := ⟨_, List.getElem?_eq_getElem (by omega)⟩
        have hg := mapL_get (f := fun y => xorI .u8 y x) hy
        have hst := mapL_set (f := fun y => xorI .u8 y x) hy
        repeat' (first | (apply R.is1; first | (apply R.isBin; (apply R.pure; exact rfl; first | (apply Ok1.xorK; exact rfl; exact rfl) | (apply Ok1.add64; exact rfl; exact rfl; omega; omega) | (apply Ok1.lss_t; exact rfl; exact rfl; omega))) | (apply R.pure; exact rfl; first | (apply Ok1.load; exact rfl; apply Ld.own1; exact rfl; exact rfl; exact At.head; exact hg) | (apply Ok1.move; exact rfl) | (apply Ok1.assign; exact rfl) | (apply Ok1.indexAddr; (iterate 5 exact rfl); omega; omega))) | (apply R.is0; (apply R.store; (iterate 6 exact rfl); exact Upd.head; exact hst)) | apply R.nil | (apply T.is; first | apply T.seq | apply T.region | apply T.block | apply T.skip | (apply T.cond_t; exact rfl)))
        exact ⟨i + 1, by omega, by omega, ⟨rfl, rfl, rfl, rfl, trivial⟩, by (focus ((repeat' (first | exact Keep.nil _ | exact Ext.one _ _ | apply Keep.cons)); done))⟩
      · have him : i = 64 := by omega
        subst him
        rw [List.take_of_length_le (by omega), List.drop_of_length_le (by omega), List.append_nil, ← hfi]
        repeat' (first | (apply R.is1; first | (apply R.isBin; (apply R.pure; exact rfl; (apply Ok1.lss_f; exact rfl; exact rfl; omega))) | (apply R.pure; exact rfl; first | (apply Ok1.move; exact rfl) | (apply Ok1.assign; exact rfl))) | apply R.nil | (apply T.is; first | apply T.seq | apply T.region | apply T.exit | apply T.ret | (apply T.cond_f; exact rfl)))
        (apply RetOk.t; exact rfl)
        exact ⟨_, by (focus ((repeat' (first | exact Keep.nil _ | exact Ext.one _ _ | apply Keep.cons)); done)), b5, rfl, rfl⟩
end Go.Proofs.Ytiegdpmkgegbaaa
